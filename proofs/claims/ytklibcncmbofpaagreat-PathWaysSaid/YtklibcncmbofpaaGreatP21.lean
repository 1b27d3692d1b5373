/-
  Lemmas for PathWays: Grw, Shelf, Grx, PrL, Ie, Pth. Conditions: those of each lemma.
-/
import Derived.Lib.MinMax
import Derived.IntWalk
import Derived.Deep.Slices
import Derived.Deep.Strs
import Derived.Lib.Mul64
import Derived.Laws.Bits64b
import Derived.Lib.Hide
import Derived.StillTailTactics
import Derived.Test.YtklibcncmbofpaaGreatProg
import Derived.WalkKit
import Derived.WalkSpells
import Derived.WalkLawsBesides
import Derived.BigQuiet
import Derived.Deep.RegionHeld3
import Derived.ProofKit
import Derived.OpenShut
import Derived.Maps.AppendAt
import Derived.Shelf.Bits.Mul64
import Derived.Shelf.Slices.Reverse
import Derived.Ground.Names2Prog
import Derived.Shelf.Slices.Clone
import Derived.Shelf.Slices.Cells
import Derived.Ground.SlgnProg
import Derived.Shelf.SlicesE.Clone
import Derived.Maps.OwnSet
import Derived.Maps.OwnOps
import Derived.Maps.RangeWalk
import Derived.Deep.RegionLaw
import Derived.Deep.DeepCutAuto
import Derived.DeepKeys4
import Derived.Test.YtklibcncmbofpaaGreatP01
import Derived.Test.YtklibcncmbofpaaGreatP02
import Derived.Test.YtklibcncmbofpaaGreatP03
import Derived.Test.YtklibcncmbofpaaGreatP04
import Derived.Test.YtklibcncmbofpaaGreatP05
import Derived.Test.YtklibcncmbofpaaGreatP06
import Derived.Test.YtklibcncmbofpaaGreatP07
import Derived.Test.YtklibcncmbofpaaGreatP08
import Derived.Test.YtklibcncmbofpaaGreatP09
import Derived.Test.YtklibcncmbofpaaGreatP10
import Derived.Test.YtklibcncmbofpaaGreatP11
import Derived.Test.YtklibcncmbofpaaGreatP12
import Derived.Test.YtklibcncmbofpaaGreatP13
set_option linter.unusedVariables false
set_option linter.unusedSimpArgs false
namespace Go.Proofs.YtklibcncmbofpaaGreat
open Go Go.RowKit
def wOk (N : Int) (e : Ed) : Bool := decide (0 ≤ e.w) && decide (e.w ≤ 9223372036854775807 / max N 1)
end Go.Proofs.YtklibcncmbofpaaGreat
namespace Go.Proofs
open Go.Shelf
def Tryz.lays264_ren : Go.Shelf.Ren := ⟨fun | 264 => 75 | n => n, fun | 53 => 122 | 46 => 166 | n => n, fun | n => n⟩
theorem Tryz.lays264 : Go.Proofs.Lays.n264 Tryz.prog Tryz.lays264_ren := {
 mixed := by kernel_rfl
 f264 := Tryz.func75.trans (congrArg some (by kernel_rfl))
 t46 := Tryz.underlying166
 a46 := Tryz.isAgg166
 z46 := Tryz.sizeOf166
 v46 := Tryz.zeroValue166
 t53 := Tryz.underlying122
 a53 := Tryz.isAgg122
 z53 := Tryz.sizeOf122
 v53 := Tryz.zeroValue122 }
open Go.RowKit Go.Lib in
theorem Tryz.bits_Mul64 (x y : Nat) (hx : x < 18446744073709551616) (hy : y < 18446744073709551616) (w : World) :
  Calls Tryz.prog 75 #[.int .u64 x, .int .u64 y] w fun e w' => e = .returned (.tuple #[.int .u64 ((x * y / 18446744073709551616 : Nat) : Int), .int .u64 ((x * y % 18446744073709551616 : Nat) : Int)]) ∧ w' = w := Any.bits_Mul64 Tryz.lays264 x y hx hy w
def Tryz.lays112_ren : Go.Shelf.Ren := ⟨fun | 112 => 58 | n => n, fun | 28 => 26 | 3 => 3 | 4 => 4 | 0 => 0 | n => n, fun | n => n⟩
theorem Tryz.lays112 : Go.Proofs.Lays.n112 Tryz.prog Tryz.lays112_ren := {
 mixed := by kernel_rfl
 f112 := Tryz.func58.trans (congrArg some (by kernel_rfl))
 t0 := Tryz.underlying0
 a0 := Tryz.isAgg0
 z0 := Tryz.sizeOf0
 v0 := Tryz.zeroValue0
 t3 := Tryz.underlying3
 a3 := Tryz.isAgg3
 z3 := Tryz.sizeOf3
 v3 := Tryz.zeroValue3
 t4 := Tryz.underlying4
 a4 := Tryz.isAgg4
 z4 := Tryz.sizeOf4
 v4 := Tryz.zeroValue4
 t28 := Tryz.underlying26
 a28 := Tryz.isAgg26
 z28 := Tryz.sizeOf26
 v28 := Tryz.zeroValue26 }
open Go.RowKit Go.Lib Go.Sort in
theorem Tryz.slices_Reverse_int_empty (a : Option Addr) (cap : Nat) (w : World) :
  Calls Tryz.prog 58 #[.slice a 0 cap] w fun e w' => e = .returned (.tuple #[]) ∧ w' = w := Any.slices_Reverse_int_empty Tryz.lays112 a cap w
open Go.RowKit Go.Lib Go.Sort in
theorem Tryz.slices_Reverse_int_cells (b off n c : Nat) (zs : List Int) (w : World) (hz : n ≤ zs.length) (hbig : n ≤ 9223372036854775807) (hc : ∀ j, j < zs.length → w.cell? ⟨b, off + j, none⟩ = some (.int .i64 (zs.getD j 0))) (hf : ∀ j, j < n → w.frozen? ⟨b, off + j, none⟩ = false) :
  Calls Tryz.prog 58 #[.slice (some ⟨b, off, none⟩) n c] w fun e w' => e = .returned (.tuple #[]) ∧ ∃ q, w' = (w.drewN q).setCells b off ((zs.take n).reverse.map (Value.int .i64)) := Any.slices_Reverse_int_cells Tryz.lays112 b off n c zs w hz hbig hc hf
end Go.Proofs
namespace Go.Proofs.YtklibcncmbofpaaGreat
open Go Go.RowKit
def errW (b : Bool) : Int := if b then 0 else 201
def mxW (l : List Ed) : Int := l.foldl (fun m e => max m e.w) 0
theorem mxF_le (l : List Ed) (m b : Int) : l.foldl (fun m e => max m e.w) m ≤ b ↔ m ≤ b ∧ ∀ e, e ∈ l → e.w ≤ b := by
 induction l generalizing m with
 | nil => simp
 | cons a l ih =>
  rw [List.foldl_cons, ih]
  simp only [List.mem_cons, forall_eq_or_imp]
  constructor
  ·rintro ⟨h1, h2⟩; exact ⟨by omega, by omega, h2⟩
  ·rintro ⟨h1, h2, h3⟩; exact ⟨by omega, h3⟩
theorem mxW_le {l : List Ed} {b : Int} (hb : 0 ≤ b) : mxW l ≤ b ↔ ∀ e, e ∈ l → e.w ≤ b := by
 unfold mxW; rw [mxF_le]; exact ⟨fun h => h.2, fun h => ⟨hb, h⟩⟩
theorem mxW_pos (l : List Ed) : 0 ≤ mxW l := by
 have := (mxF_le l 0 (mxW l)).1 (Int.le_refl _)
 exact this.1
theorem mxW_take (E : List Ed) (k : Nat) (x : Ed) (hx : E[k]? = some x) : mxW (E.take (k + 1)) = max (mxW (E.take k)) x.w := by
 unfold mxW; rw [List.take_add_one, hx, List.foldl_append]; rfl
theorem weigh_iff {N : Int} {E : List Ed} (hr : rightB N E = true) (h0 : ∀ e, e ∈ E → 0 ≤ e.w) : weighB N E = true ↔ N * mxW E ≤ 9223372036854775807 := by
 have hw : weighB N E = E.all (wOk N) := by unfold weighB; rw [hr]; rfl
 have hN := right_bd hr
 rw [hw]
 by_cases hz : N = 0
 ·subst hz
  have hE : E = [] := by
   cases E with
   | nil => rfl
   | cons a l => have := right_mem hr (e := a) (by simp); omega
  subst hE
  simp [mxW]
 ·have hN1 : 0 < N := by omega
  have hmx : max N 1 = N := by omega
  have h2 : (∀ e, e ∈ E → e.w ≤ 9223372036854775807 / N) ↔ N * mxW E ≤ 9223372036854775807 := by
   rw [← mxW_le (Int.ediv_nonneg (by omega) (by omega)), Int.le_ediv_iff_mul_le hN1, Int.mul_comm]
  rw [← h2, List.all_eq_true]
  constructor
  ·intro h e he
   have := h e he
   unfold wOk at this
   rw [hmx] at this
   simp only [Bool.and_eq_true, decide_eq_true_eq] at this
   exact this.2
  ·intro h e he
   unfold wOk
   rw [hmx, decide_eq_true (h0 e he), decide_eq_true (h e he)]
   rfl
set_option maxHeartbeats 4000000 in
theorem gweigh_any (w : World) (N : Int) (va : Value) (E : List Ed) (hE : SlE w va E) (hwb : ∀ e, e ∈ E → e.w ≤ 9223372036854775807) :
  Calls Tryz.prog 51 #[.agg #[.int .i64 N, va]] w fun r w' => r = .returned (.int .i64 (errW (weighB N E))) ∧ Upd [] w w' := by
 have kr := fun W (hW : Upd [] w W) => gcheck_any W N va E (hE.upd hW)
 obtain ⟨a, cap, rfl, hcap⟩ := hE.shape
 have HE := Lib.hid hE
 have hl : E.length ≤ 9223372036854775807 := by obtain ⟨_, _, _, _, h, _⟩ := hE; exact h
 clear hE
 have u0 : Upd [] w (w.alloc (.cells #[.int .i64 N, .slice a E.length cap] 57)) := (Upd.refl _ _).alloc _
 cases hr : rightB N E with
 | false =>
  have hw : weighB N E = false := by unfold weighB; rw [hr]; rfl
  rw [hw]
  rw [hr] at kr
  clear hw hr
  generalize E.length = n at *
  go_enter Tryz.func51, Tryz.ntmps51
  go_wp2_with (first
   | ((go_at_call 74; (with_reducible refine (kr _ u0).mono ?_)); rintro e w1 ⟨rfl, hu1⟩)
   | fail)
  go_ret
  exact ⟨rfl, u0.trans hu1⟩
 | true =>
  have HR := Lib.hid hr
  have hNb := right_bd hr
  rw [hr] at kr
  clear hr
  obtain ⟨Nn, rfl⟩ : ∃ Nn : Nat, N = Nn := ⟨N.toNat, by omega⟩
  generalize hn : E.length = n at *
  have HN := Lib.hid hn
  have HB := Lib.hid hwb
  clear hn hwb
  go_enter Tryz.func51, Tryz.ntmps51
  go_wp2_with (first
   | ((go_at_call 74; (with_reducible refine (kr _ u0).mono ?_)); rintro e w1 ⟨rfl, hu1⟩; (have q1 : w1.cell? ⟨w.heap.size, 1, none⟩ = some (.slice a n cap) := hu1.was (by simp)))
   | fail)
  clear q1
  go_loopw [4, 6, 17] (fun m _ i wr => ∃ k : Nat, k ≤ n ∧ i = .int .i64 (k : Int) ∧ m = .int .i64 (mxW (E.take k)) ∧ (∀ e, e ∈ E.take k → 0 ≤ e.w) ∧ Upd [] (w.alloc (.cells #[.int .i64 Nn, .slice a n cap] 57)) wr) (fun _ _ i _ => n - (intOf i).toNat)
  case atStart => exact ⟨0, by omega, rfl, rfl, by simp, hu1⟩
  case round =>
   clear hu1 kr
   obtain ⟨k, hk, rfl, rfl, hpos, hu⟩ := hrel
   rename World => wr
   have q0 : wr.cell? ⟨w.heap.size, 0, none⟩ = some (.int .i64 Nn) := hu.was (by simp)
   have q1 : wr.cell? ⟨w.heap.size, 1, none⟩ = some (.slice a n cap) := hu.was (by simp)
   have hsz : w.heap.size < wr.heap.size := by have := hu.size; simp at this; omega
   have HP := Lib.hid hpos
   clear hpos
   by_cases hkn : k < n
   ·have hkE : k < E.length := by rw [HN.out]; exact hkn
    have hx : E[k]? = some (E.getD k default) := by simp [List.getD_eq_getElem?_getD, hkE]
    have hmem : E.getD k default ∈ E := List.mem_of_getElem? hx
    obtain ⟨g, off, rfl, hg, c0, c1, c2⟩ := (HE.out.upd (u0.trans hu)).at k hkE
    generalize E.getD k default = e at *
    have HT := Lib.hid (mxW_take E k _ hx)
    have HM := Lib.hid hmem
    have HX := Lib.hid hx
    have hwr : IntKind.i64.wrap ((k : Int) + 1) = (k : Int) + 1 := IntWalk.i64_in _ (by omega)
    obtain ⟨ef, et, ew⟩ := e
    dsimp only at c0 c1 c2
    clear hx hmem HE
    generalize hmo : mxW (E.take k) = mo at *
    have HMO := Lib.hid hmo
    clear hmo
    by_cases b0 : ew < 0
    ·have hf : Hid (weighB Nn E = false) := Lib.hid (by
      have hw : weighB Nn E = E.all (wOk Nn) := by unfold weighB; rw [HR.out]; rfl
      rw [hw, all_no (wOk Nn) E _ HM.out (by unfold wOk; rw [decide_eq_false (by dsimp only; omega)]; rfl)])
     have b0b : decide (ew < 0) = true := by simpa using b0
     go_wp2
     go_ret
     exact ⟨by rw [hf.out]; rfl, by have := u0.trans hu; (repeat (first | assumption | exact Upd.refl _ _ | refine Upd.alloc ?_ _ | refine Upd.drew ?_ | refine Upd.drewN ?_ _ | refine Upd.setCell ?_ ?_ _ | focus (left; simp; done) | focus (right; simp; done) | focus (right; simp; omega)))⟩
    ·have b0b : decide (ew < 0) = false := by simpa using b0
     go_wp2
     refine ⟨⟨k + 1, by omega, by go_num, by rw [HT.out], fun e he => ?_, by (repeat (first | assumption | exact Upd.refl _ _ | refine Upd.alloc ?_ _ | refine Upd.drew ?_ | refine Upd.drewN ?_ _ | refine Upd.setCell ?_ ?_ _ | focus (left; simp; done) | focus (right; simp; done) | focus (right; simp; omega)))⟩, by simp [intOf]; omega⟩
     rw [List.take_add_one, HX.out] at he
     rcases List.mem_append.1 he with he | he
     ·exact HP.out e he
     ·simp at he; subst he; dsimp only; omega
   ·obtain rfl : k = n := by omega
    have hT : E.take k = E := by rw [← HN.out, List.take_length]
    rw [hT]
    have hpos : ∀ e, e ∈ E → 0 ≤ e.w := by have := HP.out; rw [hT] at this; exact this
    have hiff := weigh_iff HR.out hpos
    have h1 := mxW_pos E
    have h2 : mxW E ≤ 9223372036854775807 := (mxW_le (by omega)).2 HB.out
    obtain ⟨mo, hmo⟩ : ∃ mo : Nat, mxW E = mo := ⟨(mxW E).toNat, by omega⟩
    rw [hmo] at hiff h2
    rw [hmo]
    have kM := fun W => Tryz.bits_Mul64 Nn mo (by omega) (by omega) W
    have w1 : IntKind.u64.wrap (Nn : Int) = (Nn : Int) := by rw [IntKind.wrap_u64]; omega
    have w2 : IntKind.u64.wrap (mo : Int) = (mo : Int) := by rw [IntKind.wrap_u64]; omega
    have hP : ((Nn : Int) * (mo : Int)) = ((Nn * mo : Nat) : Int) := (Int.natCast_mul _ _).symm
    rw [hP] at hiff
    generalize Nn * mo = P at *
    clear hT hpos hmo h1 hP
    cases hwB : weighB Nn E with
    | false =>
     have hbig : ¬ ((P : Int) ≤ 9223372036854775807) := fun h => by rw [hiff.2 h] at hwB; cases hwB
     have HWB := Lib.hid hwB
     clear hwB hiff
     have hor : 0 < P / 18446744073709551616 ∨ (P / 18446744073709551616 = 0 ∧ 9223372036854775807 < P % 18446744073709551616) := by omega
     generalize P / 18446744073709551616 = hi at *
     generalize P % 18446744073709551616 = lo at *
     rcases hor with h | ⟨h, h'⟩
     ·go_wp2_with (first
       | ((go_at_call 75; (with_reducible refine (kM _).mono ?_)); rintro e w9 ⟨rfl, hw9⟩; rw [hw9]; clear hw9 w9)
       | fail)
      go_ret
      exact ⟨by rw [HWB.out]; rfl, by have := u0.trans hu; (repeat (first | assumption | exact Upd.refl _ _ | refine Upd.alloc ?_ _ | refine Upd.drew ?_ | refine Upd.drewN ?_ _ | refine Upd.setCell ?_ ?_ _ | focus (left; simp; done) | focus (right; simp; done) | focus (right; simp; omega)))⟩
     ·subst h
      have h'' : (9223372036854775807 : Int) < (lo : Int) := by omega
      go_wp2_with (first
       | ((go_at_call 75; (with_reducible refine (kM _).mono ?_)); rintro e w9 ⟨rfl, hw9⟩; rw [hw9]; clear hw9 w9)
       | fail)
      go_ret
      exact ⟨by rw [HWB.out]; rfl, by have := u0.trans hu; (repeat (first | assumption | exact Upd.refl _ _ | refine Upd.alloc ?_ _ | refine Upd.drew ?_ | refine Upd.drewN ?_ _ | refine Upd.setCell ?_ ?_ _ | focus (left; simp; done) | focus (right; simp; done) | focus (right; simp; omega)))⟩
    | true =>
     have hsm : (P : Int) ≤ 9223372036854775807 := hiff.1 hwB
     have HWB := Lib.hid hwB
     clear hwB hiff
     have hor : P / 18446744073709551616 = 0 ∧ ¬ (9223372036854775807 < P % 18446744073709551616) := by omega
     generalize P / 18446744073709551616 = hi at *
     generalize P % 18446744073709551616 = lo at *
     obtain ⟨h, h'⟩ := hor
     subst h
     have h'' : ¬ (9223372036854775807 : Int) < (lo : Int) := by omega
     have h3 : decide ((9223372036854775807 : Int) < (lo : Int)) = false := by simpa using h''
     go_wp2_with (first
      | ((go_at_call 75; (with_reducible refine (kM _).mono ?_)); rintro e w9 ⟨rfl, hw9⟩; rw [hw9]; clear hw9 w9)
      | fail)
     go_ret
     exact ⟨by rw [HWB.out]; rfl, by have := u0.trans hu; (repeat (first | assumption | exact Upd.refl _ _ | refine Upd.alloc ?_ _ | refine Upd.drew ?_ | refine Upd.drewN ?_ _ | refine Upd.setCell ?_ ?_ _ | focus (left; simp; done) | focus (right; simp; done) | focus (right; simp; omega)))⟩
end Go.Proofs.YtklibcncmbofpaaGreat
namespace Go.Proofs.YtklibcncmbofpaaGreat
def toN (e : Ed) : En := ⟨e.f.toNat, e.t.toNat, e.w.toNat⟩
def dN (D : List Int) : Nat → Nat := fun v => (D.getD v 0).toNat
theorem getD_all {D : List Int} {P : Int → Prop} (h : ∀ x, x ∈ D → P x) {i : Nat} (hi : i < D.length) : P (D.getD i 0) := by
 have : D[i]? = some (D.getD i 0) := by simp [List.getD_eq_getElem?_getD, hi]
 exact h _ (List.mem_of_getElem? this)
theorem weigh_right {N : Int} {E : List Ed} (h : weighB N E = true) : rightB N E = true := by
 unfold weighB at h
 simp only [Bool.and_eq_true] at h
 exact h.1
theorem weigh_mem {N : Int} {E : List Ed} (h : weighB N E = true) {e : Ed} (he : e ∈ E) : 0 ≤ e.w ∧ e.w ≤ 9223372036854775807 / N := by
 have hr := weigh_right h
 have hN := right_mem hr he
 have hmx : max N 1 = N := by omega
 unfold weighB at h
 simp only [Bool.and_eq_true] at h
 have := List.all_eq_true.1 h.2 e he
 rw [hmx] at this
 simp only [Bool.and_eq_true, decide_eq_true_eq] at this
 exact this
theorem weigh_gok {N : Nat} {E : List Ed} (h : weighB (N : Int) E = true) {s : Nat} (hs : s < N) : GOk (E.map toN) s N (9223372036854775807 / N) := by
 have hr := weigh_right h
 have hb := right_bd hr
 refine ⟨hs, Nat.div_pos (by omega) (by omega), by unfold inf; exact Nat.mul_div_le _ _, fun e he => ?_⟩
 obtain ⟨e', he', rfl⟩ := List.mem_map.1 he
 have h1 := right_mem hr he'
 have h2 := weigh_mem h he'
 have h3 : (9223372036854775807 : Int) / (N : Int) = ((9223372036854775807 / N : Nat) : Int) := (Int.natCast_ediv 9223372036854775807 N).symm
 rw [h3] at h2
 unfold toN
 generalize 9223372036854775807 / N = q at *
 dsimp only
 omega
theorem feasB_iff {N : Int} {E : List Ed} {D : List Int} (hr : rightB N E = true) (hN : (D.length : Int) = N) (hw : ∀ e, e ∈ E → 0 ≤ e.w) (hb : ∀ x, x ∈ D → 0 ≤ x ∧ x ≤ 9223372036854775807) :
  feasB D E = true ↔ Feas (E.map toN) (dN D) := by
 have key : ∀ e, e ∈ E → (nearB D e = false ↔ (dN D (toN e).f ≠ inf → dN D (toN e).t ≤ dN D (toN e).f + (toN e).w)) := fun e he => by
  have h1 := right_mem hr he
  have h2 := getD_all hb (i := e.f.toNat) (by omega)
  have h3 := getD_all hb (i := e.t.toNat) (by omega)
  have h4 := hw e he
  unfold nearB dN toN inf
  dsimp only
  generalize D.getD e.f.toNat 0 = x at *
  generalize D.getD e.t.toNat 0 = y at *
  generalize e.w = z at *
  simp only [Bool.and_eq_false_iff, decide_eq_false_iff_not]
  constructor
  ·intro h hx
   rcases h with (h | h) | h <;> omega
  ·intro h
   by_cases hx : x = 9223372036854775807
   ·exact Or.inl (Or.inl (by omega))
   ·have := h (by omega)
    exact Or.inr (by omega)
 unfold feasB
 constructor
 ·intro h e he
  obtain ⟨e', he', rfl⟩ := List.mem_map.1 he
  refine (key e' he').1 ?_
  cases hn : nearB D e' with
  | false => rfl
  | true => rw [List.any_eq_true.2 ⟨e', he', hn⟩] at h; cases h
 ·intro h
  have : E.any (nearB D) = false := by
   cases ha : E.any (nearB D) with
   | false => rfl
   | true =>
    obtain ⟨e, he, hn⟩ := List.any_eq_true.1 ha
    rw [(key e he).2 (h _ (List.mem_map.2 ⟨e, he, rfl⟩))] at hn
    cases hn
  rw [this]; rfl
end Go.Proofs.YtklibcncmbofpaaGreat
namespace Go.Proofs.YtklibcncmbofpaaGreat
open Go Go.RowKit
theorem lngInfo : (Tryz.prog.info? 2).map (fun i => (i.zero, i.size, i.bytes)) = some (some (.int .i64 0), 1, 8) := by kernel_rfl
structure IE (e : TypeId) (w : World) (g cap : Nat) (l : List Int) : Prop where
 own : w.ownsRow 0 e 1 (.slice (some ⟨g, 0, none⟩) l.length cap) l.length (intsZ l)
theorem IE.lt {e : TypeId} {w : World} {g cap : Nat} {l : List Int} (h : IE e w g cap l) : g < w.heap.size := (h.own.lt g rfl).2
theorem IE.cap {e : TypeId} {w : World} {g cap : Nat} {l : List Int} (h : IE e w g cap l) : l.length ≤ cap ∧ cap ≤ 9223372036854775807 := by
 rcases h.own.2 with ⟨h1, _⟩ | ⟨g', cap', cur, h1, _, _, h2, h3, _⟩
 ·cases h1
 ·cases h1; unfold maxLen at h3; exact ⟨h2, h3⟩
theorem IE.cell {e : TypeId} {w : World} {g cap : Nat} {l : List Int} (h : IE e w g cap l) (j : Nat) (hj : j < l.length) : w.cell? ⟨g, j, none⟩ = some (.int .i64 (l.getD j 0)) := by
 rw [h.own.cellAt j (by omega)]
 exact intsZ_get hj
theorem IE.free {e : TypeId} {w : World} {g cap : Nat} {l : List Int} (h : IE e w g cap l) (j : Nat) : w.frozen? ⟨g, j, none⟩ = false := h.own.frozenAt j
theorem IE.upd {e : TypeId} {w w' : World} {S : List Nat} {g cap : Nat} {l : List Int} (h : IE e w g cap l) (hu : Upd S w w') (hn : g ∉ S) : IE e w' g cap l :=
 ⟨owns_upd h.own hu (fun k hk => by cases hk; exact hn)⟩
theorem IE.set {e : TypeId} {w : World} {g cap : Nat} {l : List Int} (h : IE e w g cap l) (j : Nat) (x : Int) : IE e (w.setCell ⟨g, j, none⟩ (.int .i64 x)) g cap (l.set j x) := by
 rcases h.own.2 with ⟨h1, _⟩ | ⟨g', cap', cur, h1, hb, hg, hn, hc, hs, ht⟩
 ·cases h1
 ·cases h1
  refine ⟨⟨by rw [intsZ_len]; omega, Or.inr ⟨g, cap, cur.setIfInBounds j (.int .i64 x), by rw [List.length_set], by omega, ?_, by rw [List.length_set]; exact hn, hc, by simp; omega, ?_⟩⟩⟩
  ·simp [World.setCell, Array.getElem?_modify, hg]
  ·rw [List.length_set, Array.toList_setIfInBounds]
   by_cases hj : j < l.length
   ·rw [List.take_set, ht]
    unfold intsZ
    rw [List.map_set]
   ·rw [List.take_set_of_le (by omega), ht, List.set_eq_of_length_le (by omega)]
theorem IE.of_own {e : TypeId} {w : World} {base n : Nat} {v : Value} {l : List Int} (h : w.ownsRow base e 1 v n (intsZ l)) (hl : 0 < n) : ∃ g cap, v = .slice (some ⟨g, 0, none⟩) n cap ∧ IE e w g cap l ∧ base ≤ g ∧ l.length = n := by
 obtain ⟨g, cap, rfl, hb, _⟩ := own_shape h hl
 have hl' : l.length = n := by have := h.1; rw [intsZ_len] at this; omega
 exact ⟨g, cap, rfl, ⟨by rw [hl']; exact owns_mono h (by omega)⟩, hb, hl'⟩
theorem SlI.of_row {e : TypeId} {w : World} {base n : Nat} {v : Value} {xs : List Int} {F : List Nat} (h : w.ownsRow base e 1 v n (intsZ xs)) (hF : ∀ g, g ∈ F → g < base) : SlI w F v xs := by
 have hl' : xs.length = n := by have := h.1; rw [intsZ_len] at this; omega
 subst hl'
 rcases h.2 with ⟨rfl, h0⟩ | ⟨g, cap, cur, rfl, hb, hg, hn, hc, _⟩
 ·have : xs = [] := List.eq_nil_of_length_eq_zero h0
  subst this
  exact ⟨none, 0, rfl, by simp, by omega, fun j u hj => by simp at hj⟩
 ·refine ⟨_, cap, rfl, hn, by unfold maxLen at hc; exact hc, fun j u hj => ⟨g, 0, rfl, (h.lt g rfl).2, fun hm => by have := hF g hm; omega, ?_⟩⟩
  have hjl := (List.getElem?_eq_some_iff.1 hj).1
  rw [Nat.zero_add, h.cellAt j (by omega), intsZ_get hjl]
  simp [List.getD_eq_getElem?_getD, hj]
def rowN (n : Nat) (d : Nat → Nat) : List Int := (List.range n).map (fun v => ((d v : Nat) : Int))
theorem rowN_len (n : Nat) (d : Nat → Nat) : (rowN n d).length = n := by unfold rowN; simp
theorem rowN_get {n : Nat} {d : Nat → Nat} {v : Nat} (hv : v < n) : (rowN n d).getD v 0 = ((d v : Nat) : Int) := by
 unfold rowN
 simp [List.getD_eq_getElem?_getD, hv]
theorem rowN_set {n : Nat} {d : Nat → Nat} {x v : Nat} : (rowN n d).set x ((v : Nat) : Int) = rowN n (setN d x v) := by
 apply List.ext_getElem?
 intro j
 unfold rowN setN
 rw [List.getElem?_set]
 by_cases h : x = j
 ·subst h
  by_cases hx : x < n
  ·simp [hx]
  ·simp [hx]
 ·simp [h]
  by_cases hj : j < n
  ·simp [hj]
   rw [if_neg (fun e => h e.symm)]
  ·simp [hj]
end Go.Proofs.YtklibcncmbofpaaGreat
namespace Go.Proofs.YtklibcncmbofpaaGreat
open Go Go.RowKit
def srC (N gd cd gb cb p gh mb : Nat) (j : Nat) : Value := [Value.slice (some ⟨gd, 0, none⟩) N cd, .slice (some ⟨gb, 0, none⟩) N cb, .pointer (some ⟨p, 0, none⟩), .slice (some ⟨gh, 0, none⟩) N N, .map (some mb)].getD j undef
structure SrB where
 b : Nat
 p : Nat
 gd : Nat
 cd : Nat
 gb : Nat
 cb : Nat
 gh : Nat
 mb : Nat
def SrB.own (X : SrB) : List Nat := [X.b, X.gd, X.gb, X.gh, X.mb]
structure SrM (K : NestQ) (w : World) (X : SrB) (F : List Nat) (kd dd : Int) (N : Nat) (D B : List Int) (hc : Nat → Value) (c : Nat) (f : Int → Int → Option Int) (R : AR) (A : NS) (q : Nat) : Prop where
 head : RowAt w X.b 109 5 (srC N X.gd X.cd X.gb X.cb X.p X.gh X.mb)
 dist : IE 2 w X.gd X.cd D
 by' : IE 3 w X.gb X.cb B
 hrow : RowAt w X.gh 85 (N * 2) hc
 map : MapH w X.mb c f
 pq : PqAt K w X.p F kd dd R A q
 lD : D.length = N
 lB : B.length = N
 nd : X.own.Nodup
 nF : ∀ x, x ∈ X.own → x ∉ F
section
variable {K : NestQ} {w : World} {X : SrB} {F : List Nat} {kd dd : Int} {N : Nat} {D B : List Int} {hc : Nat → Value} {c : Nat} {f : Int → Int → Option Int} {R : AR} {A : NS} {q : Nat}
theorem SrM.upd0 {w' : World} (h : SrM K w X F kd dd N D B hc c f R A q) (hu : Upd [] w w') : SrM K w' X F kd dd N D B hc c f R A q :=
 ⟨h.head.upd hu (by simp), h.dist.upd hu (by simp), h.by'.upd hu (by simp), h.hrow.upd hu (by simp), h.map.upd hu (by simp), h.pq.upd0 hu, h.lD, h.lB, h.nd, h.nF⟩
theorem SrM.c0 (h : SrM K w X F kd dd N D B hc c f R A q) : w.cell? ⟨X.b, 0, none⟩ = some (.slice (some ⟨X.gd, 0, none⟩) N X.cd) := h.head.cellAt 0 (by omega) rfl
theorem SrM.c1 (h : SrM K w X F kd dd N D B hc c f R A q) : w.cell? ⟨X.b, 1, none⟩ = some (.slice (some ⟨X.gb, 0, none⟩) N X.cb) := h.head.cellAt 1 (by omega) rfl
theorem SrM.c2 (h : SrM K w X F kd dd N D B hc c f R A q) : w.cell? ⟨X.b, 2, none⟩ = some (.pointer (some ⟨X.p, 0, none⟩)) := h.head.cellAt 2 (by omega) rfl
theorem SrM.c3 (h : SrM K w X F kd dd N D B hc c f R A q) : w.cell? ⟨X.b, 3, none⟩ = some (.slice (some ⟨X.gh, 0, none⟩) N N) := h.head.cellAt 3 (by omega) rfl
theorem SrM.c4 (h : SrM K w X F kd dd N D B hc c f R A q) : w.cell? ⟨X.b, 4, none⟩ = some (.map (some X.mb)) := h.head.cellAt 4 (by omega) rfl
theorem SrM.lt (h : SrM K w X F kd dd N D B hc c f R A q) : ∀ x, x ∈ X.own → x < w.heap.size := fun x hx => by
 simp only [SrB.own, List.mem_cons, List.not_mem_nil, or_false] at hx
 rcases hx with rfl | rfl | rfl | rfl | rfl
 ·exact h.head.lt
 ·exact h.dist.lt
 ·exact h.by'.lt
 ·exact h.hrow.lt
 ·exact h.map.lt
theorem SrM.ne (h : SrM K w X F kd dd N D B hc c f R A q) : ¬ X.gd = X.gb ∧ ¬ X.gb = X.gd := by
 have hn := h.nd
 simp only [SrB.own, List.nodup_cons, List.mem_cons, List.not_mem_nil, or_false, not_or] at hn
 exact ⟨hn.2.1.1, fun e => hn.2.1.1 e.symm⟩
theorem SrM.store (h : SrM K w X F kd dd N D B hc c f R A q) {w' : World} {R' : AR} {A' : NS} {q' : Nat} (hg : Goes F w w' (fun F' => PqAt K w' X.p F' kd dd R' A' q')) : ∃ F', SrM K w' X F' kd dd N D B hc c f R' A' q' ∧ Upd F w w' ∧ ∀ x, x ∈ F' → x ∈ F ∨ w.heap.size ≤ x := by
 obtain ⟨F', hP, hu, hf⟩ := hg
 have hl := h.lt
 have hn := fun x hx => h.nF x (show x ∈ X.own from hx)
 refine ⟨F', ⟨h.head.upd hu (hn _ (by simp [SrB.own])), h.dist.upd hu (hn _ (by simp [SrB.own])), h.by'.upd hu (hn _ (by simp [SrB.own])), h.hrow.upd hu (hn _ (by simp [SrB.own])), h.map.upd hu (hn _ (by simp [SrB.own])), hP, h.lD, h.lB, h.nd, fun x hx hm => ?_⟩, hu, hf⟩
 rcases hf x hm with e | e
 ·exact h.nF x hx e
 ·have := hl x hx; omega
theorem SrM.set (h : SrM K w X F kd dd N D B hc c f R A q) (v : Nat) (x y : Int) : SrM K ((w.setCell ⟨X.gd, v, none⟩ (.int .i64 x)).setCell ⟨X.gb, v, none⟩ (.int .i64 y)) X F kd dd N (D.set v x) (B.set v y) hc c f R A q := by
 have hu : Upd [X.gd, X.gb] w ((w.setCell ⟨X.gd, v, none⟩ (.int .i64 x)).setCell ⟨X.gb, v, none⟩ (.int .i64 y)) := ((Upd.refl _ _).setCell (Or.inl (by simp)) _).setCell (Or.inl (by simp)) _
 have u1 : Upd [X.gd] w (w.setCell ⟨X.gd, v, none⟩ (.int .i64 x)) := (Upd.refl _ _).setCell (Or.inl (by simp)) _
 have u2 : Upd [X.gb] (w.setCell ⟨X.gd, v, none⟩ (.int .i64 x)) ((w.setCell ⟨X.gd, v, none⟩ (.int .i64 x)).setCell ⟨X.gb, v, none⟩ (.int .i64 y)) := (Upd.refl _ _).setCell (Or.inl (by simp)) _
 have hn := h.nd
 simp only [SrB.own, List.nodup_cons, List.mem_cons, List.not_mem_nil, or_false, not_or, List.nodup_nil, and_true, not_false_eq_true] at hn
 obtain ⟨⟨a1, a2, a3, a4⟩, ⟨a5, a6, a7⟩, ⟨a8, a9⟩, a10⟩ := hn
 refine ⟨h.head.upd hu (by simp; exact ⟨a1, a2⟩), (h.dist.set v x).upd u2 (by simpa using a5), ((h.by'.upd u1 (by simp; exact fun e => a5 e.symm)).set v y), h.hrow.upd hu (by simp; exact ⟨fun e => a6 e.symm, fun e => a8 e.symm⟩), h.map.upd hu (by simp; exact ⟨fun e => a7 e.symm, fun e => a9 e.symm⟩), h.pq.upd hu (fun z hz => ?_), by simp [h.lD], by simp [h.lB], h.nd, h.nF⟩
 simp at hz
 rcases hz with rfl | rfl
 ·exact h.nF _ (by simp [SrB.own])
 ·exact h.nF _ (by simp [SrB.own])
set_option maxRecDepth 10000 in
theorem reach_no (h : SrM K w X F kd dd N D B hc c f R A q) (v : Nat) (hv : v < N) (far y : Int) (hf : D.getD v 0 ≤ far) :
  Calls Tryz.prog 54 #[.pointer (some ⟨X.b, 0, none⟩), .int .i64 (v : Int), .int .i64 far, .int .i64 y] w fun e w' => e = .returned (.tuple #[]) ∧ Upd [] w w' := by
 have c0 := h.c0
 have d0 := h.dist.cell v (by rw [h.lD]; exact hv)
 have hvI : (v : Int) < (N : Int) := by omega
 generalize D.getD v 0 = x at *
 clear h
 go_enter Tryz.func54, Tryz.ntmps54
 go_wp2
 exact bodyPost_ret (v := .tuple #[]) (by simp [results, Tryz.results54, go_sem]) rfl ⟨rfl, by (repeat (first | assumption | exact Upd.refl _ _ | refine Upd.alloc ?_ _ | refine Upd.drew ?_ | refine Upd.drewN ?_ _ | refine Upd.setCell ?_ ?_ _ | focus (left; simp; done) | focus (right; simp; done) | focus (right; simp; omega)))⟩
set_option maxHeartbeats 4000000 in
set_option maxRecDepth 10000 in
theorem reach_dec (h : SrM K w X F kd dd N D B hc c f R A q) (v sl : Nat) (hv : v < N) (far y : Int) (h1 : D.getD v 0 ≠ 9223372036854775807) (h2 : far < D.getD v 0) (hb : -9223372036854775808 ≤ far) (hs0 : hc (v * 2) = .int .i64 (sl : Int)) (hs1 : hc (v * 2 + 1) = .int .u32 (R.g sl : Int)) (hlv : R.v sl = true) (hk : (A.c sl).k = D.getD v 0) :
  Calls Tryz.prog 54 #[.pointer (some ⟨X.b, 0, none⟩), .int .i64 (v : Int), .int .i64 far, .int .i64 y] w fun e w' => e = .returned (.tuple #[]) ∧ ∃ F', SrM K w' X F' kd dd N (D.set v far) (B.set v y) hc c f R (lowN A (sl : Int) far (A.c sl).s) q ∧ Upd (X.own ++ F) w w' ∧ ∀ x, x ∈ F' → x ∈ F ∨ w.heap.size ≤ x := by
 have c0 := h.c0
 have c2 := h.c2
 have c3 := h.c3
 have d0 := h.dist.cell v (by rw [h.lD]; exact hv)
 have e0 := h.hrow.cellAt (v * 2) (by omega) hs0
 have e1 := h.hrow.cellAt (v * 2 + 1) (by omega) hs1
 have hvI : (v : Int) < (N : Int) := by omega
 have kd' := fun W (hW : Upd [] w W) => pdec_yes (h.pq.upd0 hW) sl far hlv (by omega) hb
 have HH := Lib.hid h
 have hge : decide (far ≥ D.getD v 0) = false := decide_eq_false (by omega)
 have hge2 : ¬ D.getD v 0 ≤ far := by omega
 have hne : (D.getD v 0 == 9223372036854775807) = false := by simpa using h1
 have hlo := h.lt
 have hnF := h.nF
 have HV := Lib.hid hv
 generalize D.getD v 0 = x at *
 generalize R.g sl = gs at *
 clear h hs0 hs1 hlv hk h1 h2
 go_enter Tryz.func54, Tryz.ntmps54
 go_upto_region 5 with (fail)
 refine wp_nm (fun W => Upd [] w W) (by (repeat (first | assumption | exact Upd.refl _ _ | refine Upd.alloc ?_ _ | refine Upd.drew ?_ | refine Upd.drewN ?_ _ | refine Upd.setCell ?_ ?_ _ | focus (left; simp; done) | focus (right; simp; done) | focus (right; simp; omega)))) ?_
 intro W hW
 have z2 := hW.was c2
 have z3 := hW.was c3
 have y0 := hW.was e0
 have y1 := hW.was e1
 have kd2 := kd' W.drew (hW.drew)
 have HW := Lib.hid hW
 clear hW c0 c2 c3 d0 e0 e1 kd' hge hge2 hne
 go_region_law
  (first
   | (go_simp; go_at_call 76; (with_reducible refine (kd2).mono ?_); rintro e w5 ⟨rfl, hg⟩))
 all_goals
  obtain ⟨F', hS, hu5, hf5⟩ := (HH.out.upd0 (HW.out.drew)).store hg
  have u0 := hS.c0
  have u1 := hS.c1
  have g0 := hS.dist.cell v (by rw [hS.lD]; exact HV.out)
  have g1 := hS.by'.cell v (by rw [hS.lB]; exact HV.out)
  have fg0 := hS.dist.free v
  have fg1 := hS.by'.free v
  have hls := hS.lt
  obtain ⟨hn1, hn2⟩ := hS.ne
  have HS := Lib.hid (And.intro hS (And.intro hu5 hf5))
  clear hS hu5 hf5 hg
  go_upto_region 6 with (fail)
  go_region
  all_goals
   go_wp2
   obtain ⟨hS, hu5, hf5⟩ := HS.out
   have hUF : Upd (X.own ++ F) w w5 := (HW.out.mono (by simp)).trans (Upd.trans (by (repeat (first | assumption | exact Upd.refl _ _ | refine Upd.alloc ?_ _ | refine Upd.drew ?_ | refine Upd.drewN ?_ _ | refine Upd.setCell ?_ ?_ _ | focus (left; simp; done) | focus (right; simp; done) | focus (right; simp; omega)))) (hu5.mono (fun z hz => by simp [hz])))
   have hfin := hS.set v far y
   go_end0
   refine ⟨rfl, F', hfin.upd0 (by (repeat (first | assumption | exact Upd.refl _ _ | refine Upd.alloc ?_ _ | refine Upd.drew ?_ | refine Upd.drewN ?_ _ | refine Upd.setCell ?_ ?_ _ | focus (left; simp; done) | focus (right; simp; done) | focus (right; simp; omega)))), ?_, fun z hz => ?_⟩
   ·exact ((hUF.setCell (p := ⟨X.gd, v, none⟩) (Or.inl (by simp [SrB.own])) (.int .i64 far)).setCell (p := ⟨X.gb, v, none⟩) (Or.inl (by simp [SrB.own])) (.int .i64 y)).trans (by (repeat (first | assumption | exact Upd.refl _ _ | refine Upd.alloc ?_ _ | refine Upd.drew ?_ | refine Upd.drewN ?_ _ | refine Upd.setCell ?_ ?_ _ | focus (left; simp; done) | focus (right; simp; done) | focus (right; simp; omega))))
   ·rcases hf5 z hz with e | e
    ·exact Or.inl e
    ·exact Or.inr (Nat.le_trans HW.out.size e)
end
end Go.Proofs.YtklibcncmbofpaaGreat
