/-
  Lemmas for PathWays: Way3, Way4, PwL. Conditions: those of each lemma.
-/
import Derived.Deep.MidRow
import Derived.Deep.DeepCutAuto
import Derived.Lib.MinMax
import Derived.IntWalk
import Derived.Deep.Slices
import Derived.Deep.Strs
import Derived.Lib.Mul64
import Derived.Laws.Bits64b
import Derived.Lib.Hide
import Derived.StillTailTactics
import Derived.Test.YtklibcncmbofpaaGreatProg
import Derived.WalkKit
import Derived.WalkSpells
import Derived.WalkLawsBesides
import Derived.BigQuiet
import Derived.Deep.RegionHeld3
import Derived.ProofKit
import Derived.OpenShut
import Derived.Maps.AppendAt
import Derived.Shelf.Bits.Mul64
import Derived.Shelf.Slices.Reverse
import Derived.Ground.Names2Prog
import Derived.Shelf.Slices.Clone
import Derived.Shelf.Slices.Cells
import Derived.Ground.SlgnProg
import Derived.Shelf.SlicesE.Clone
import Derived.Deep.LoopGhost
import Derived.Maps.OwnSet
import Derived.Maps.OwnOps
import Derived.Maps.RangeWalk
import Derived.Deep.RegionLaw
import Derived.DeepKeys4
import Derived.Deep.OwnRows
import Derived.Lib.SmallJoins
import Derived.Test.YtklibcncmbofpaaGreatP01
import Derived.Test.YtklibcncmbofpaaGreatP02
import Derived.Test.YtklibcncmbofpaaGreatP03
import Derived.Test.YtklibcncmbofpaaGreatP04
import Derived.Test.YtklibcncmbofpaaGreatP05
import Derived.Test.YtklibcncmbofpaaGreatP06
import Derived.Test.YtklibcncmbofpaaGreatP07
import Derived.Test.YtklibcncmbofpaaGreatP08
import Derived.Test.YtklibcncmbofpaaGreatP09
import Derived.Test.YtklibcncmbofpaaGreatP10
import Derived.Test.YtklibcncmbofpaaGreatP11
import Derived.Test.YtklibcncmbofpaaGreatP12
import Derived.Test.YtklibcncmbofpaaGreatP13
import Derived.Test.YtklibcncmbofpaaGreatP14
import Derived.Test.YtklibcncmbofpaaGreatP15
import Derived.Test.YtklibcncmbofpaaGreatP16
import Derived.Test.YtklibcncmbofpaaGreatP17
import Derived.Test.YtklibcncmbofpaaGreatP18
import Derived.Test.YtklibcncmbofpaaGreatP19
import Derived.Test.YtklibcncmbofpaaGreatP20
import Derived.Test.YtklibcncmbofpaaGreatP21
import Derived.Test.YtklibcncmbofpaaGreatP22
import Derived.Test.YtklibcncmbofpaaGreatP23
import Derived.Test.YtklibcncmbofpaaGreatP24
import Derived.Test.YtklibcncmbofpaaGreatP25
import Derived.Test.YtklibcncmbofpaaGreatP26
set_option linter.unusedVariables false
set_option linter.unusedSimpArgs false
namespace Go.Proofs.YtklibcncmbofpaaGreat
open Go Go.RowKit
theorem wayR_no {N v : Int} {E : List Ed} {D B : List Int} (h : knownB N E D B v = false) : wayR N E D B v = none := by unfold wayR; rw [h]; rfl
set_option maxHeartbeats 8000000 in
set_option maxRecDepth 10000 in
theorem rway_no (w : World) (N v : Int) (va vd vb : Value) (E : List Ed) (D B : List Int) (hE : SlE w va E) (hD : SlI w [] vd D) (hB : SlI w [] vb B) (hk : knownB N E D B v = false) :
  Calls Tryz.prog 34 #[.agg #[.int .i64 N, va], vd, vb, .int .i64 v] w fun e w' => ∃ vo, e = .returned (.tuple #[vo, .bool false]) ∧ SlI w' [] vo [] ∧ Upd [] w w' := by
 have kc := fun W (hW : Upd [] w W) => rright_any W N va E (hE.upd hW)
 obtain ⟨a, cap, rfl, hcap⟩ := hE.shape
 obtain ⟨ad, capd, rfl, _, hcd, hcD⟩ := hD
 obtain ⟨ab, capb, rfl, _, hcb, _⟩ := hB
 have hcl : ∀ x : Nat, v = x → x < D.length → ∃ g off, ad = some ⟨g, off, none⟩ ∧ w.cell? ⟨g, off + x, none⟩ = some (.int .i64 (D.getD x 0)) := fun x hv hx => by
  obtain ⟨g, off, e, h1, h2, h3⟩ := hcD x (D.getD x 0) (by simp [List.getD_eq_getElem?_getD, hx])
  exact ⟨g, off, e, h3⟩
 clear hE hcD
 unfold knownB at hk
 generalize hnd : D.length = nd at *
 generalize B.length = nb at *
 generalize E.length = ne at *
 cases hr : rightB N E with
 | false =>
  rw [hr] at kc
  go_enter Tryz.func34, Tryz.ntmps34
  go_wp2_with (first | ((go_at_call 56; (with_reducible refine (kc _ (by (repeat (first | assumption | exact Upd.refl _ _ | refine Upd.alloc ?_ _ | refine Upd.drew ?_ | refine Upd.drewN ?_ _ | refine Upd.setCell ?_ ?_ _ | focus (left; simp; done) | focus (right; simp; done) | focus (right; simp; omega))))).mono ?_)); rintro e w1 ⟨rfl, hu1⟩; (have q0 : w1.cell? ⟨w.heap.size, 0, none⟩ = some (.int .i64 N) := hu1.was (by go_simp))) | fail); exact bodyPost_ret (v := .tuple #[.slice none 0 0, .bool false]) (by simp [results, Tryz.results34, go_sem]) rfl ⟨.slice none 0 0, rfl, ⟨none, 0, rfl, by simp, by omega, fun j u hj => by simp at hj⟩, Upd.trans (by (repeat (first | assumption | exact Upd.refl _ _ | refine Upd.alloc ?_ _ | refine Upd.drew ?_ | refine Upd.drewN ?_ _ | refine Upd.setCell ?_ ?_ _ | focus (left; simp; done) | focus (right; simp; done) | focus (right; simp; omega)))) hu1⟩
 | true =>
  rw [hr] at kc hk
  cases h1 : ((nd : Int) == N) with
  | false =>
   have b1 : ((nd : Int) != N) = true := by unfold bne; rw [h1]; rfl
   go_enter Tryz.func34, Tryz.ntmps34
   go_wp2_with (first | ((go_at_call 56; (with_reducible refine (kc _ (by (repeat (first | assumption | exact Upd.refl _ _ | refine Upd.alloc ?_ _ | refine Upd.drew ?_ | refine Upd.drewN ?_ _ | refine Upd.setCell ?_ ?_ _ | focus (left; simp; done) | focus (right; simp; done) | focus (right; simp; omega))))).mono ?_)); rintro e w1 ⟨rfl, hu1⟩; (have q0 : w1.cell? ⟨w.heap.size, 0, none⟩ = some (.int .i64 N) := hu1.was (by go_simp))) | fail); exact bodyPost_ret (v := .tuple #[.slice none 0 0, .bool false]) (by simp [results, Tryz.results34, go_sem]) rfl ⟨.slice none 0 0, rfl, ⟨none, 0, rfl, by simp, by omega, fun j u hj => by simp at hj⟩, Upd.trans (by (repeat (first | assumption | exact Upd.refl _ _ | refine Upd.alloc ?_ _ | refine Upd.drew ?_ | refine Upd.drewN ?_ _ | refine Upd.setCell ?_ ?_ _ | focus (left; simp; done) | focus (right; simp; done) | focus (right; simp; omega)))) hu1⟩
  | true =>
   have b1 : ((nd : Int) != N) = false := by unfold bne; rw [h1]; rfl
   rw [h1] at hk
   cases h2 : ((nb : Int) == N) with
   | false =>
    have b2 : ((nb : Int) != N) = true := by unfold bne; rw [h2]; rfl
    go_enter Tryz.func34, Tryz.ntmps34
    go_wp2_with (first | ((go_at_call 56; (with_reducible refine (kc _ (by (repeat (first | assumption | exact Upd.refl _ _ | refine Upd.alloc ?_ _ | refine Upd.drew ?_ | refine Upd.drewN ?_ _ | refine Upd.setCell ?_ ?_ _ | focus (left; simp; done) | focus (right; simp; done) | focus (right; simp; omega))))).mono ?_)); rintro e w1 ⟨rfl, hu1⟩; (have q0 : w1.cell? ⟨w.heap.size, 0, none⟩ = some (.int .i64 N) := hu1.was (by go_simp))) | fail); exact bodyPost_ret (v := .tuple #[.slice none 0 0, .bool false]) (by simp [results, Tryz.results34, go_sem]) rfl ⟨.slice none 0 0, rfl, ⟨none, 0, rfl, by simp, by omega, fun j u hj => by simp at hj⟩, Upd.trans (by (repeat (first | assumption | exact Upd.refl _ _ | refine Upd.alloc ?_ _ | refine Upd.drew ?_ | refine Upd.drewN ?_ _ | refine Upd.setCell ?_ ?_ _ | focus (left; simp; done) | focus (right; simp; done) | focus (right; simp; omega)))) hu1⟩
   | true =>
    have b2 : ((nb : Int) != N) = false := by unfold bne; rw [h2]; rfl
    rw [h2] at hk
    by_cases h3 : v < 0
    ·go_enter Tryz.func34, Tryz.ntmps34
     go_wp2_with (first | ((go_at_call 56; (with_reducible refine (kc _ (by (repeat (first | assumption | exact Upd.refl _ _ | refine Upd.alloc ?_ _ | refine Upd.drew ?_ | refine Upd.drewN ?_ _ | refine Upd.setCell ?_ ?_ _ | focus (left; simp; done) | focus (right; simp; done) | focus (right; simp; omega))))).mono ?_)); rintro e w1 ⟨rfl, hu1⟩; (have q0 : w1.cell? ⟨w.heap.size, 0, none⟩ = some (.int .i64 N) := hu1.was (by go_simp))) | fail); exact bodyPost_ret (v := .tuple #[.slice none 0 0, .bool false]) (by simp [results, Tryz.results34, go_sem]) rfl ⟨.slice none 0 0, rfl, ⟨none, 0, rfl, by simp, by omega, fun j u hj => by simp at hj⟩, Upd.trans (by (repeat (first | assumption | exact Upd.refl _ _ | refine Upd.alloc ?_ _ | refine Upd.drew ?_ | refine Upd.drewN ?_ _ | refine Upd.setCell ?_ ?_ _ | focus (left; simp; done) | focus (right; simp; done) | focus (right; simp; omega)))) hu1⟩
    ·by_cases h4 : N ≤ v
     ·have h4' : v ≥ N := h4
      go_enter Tryz.func34, Tryz.ntmps34
      go_wp2_with (first | ((go_at_call 56; (with_reducible refine (kc _ (by (repeat (first | assumption | exact Upd.refl _ _ | refine Upd.alloc ?_ _ | refine Upd.drew ?_ | refine Upd.drewN ?_ _ | refine Upd.setCell ?_ ?_ _ | focus (left; simp; done) | focus (right; simp; done) | focus (right; simp; omega))))).mono ?_)); rintro e w1 ⟨rfl, hu1⟩; (have q0 : w1.cell? ⟨w.heap.size, 0, none⟩ = some (.int .i64 N) := hu1.was (by go_simp))) | fail); exact bodyPost_ret (v := .tuple #[.slice none 0 0, .bool false]) (by simp [results, Tryz.results34, go_sem]) rfl ⟨.slice none 0 0, rfl, ⟨none, 0, rfl, by simp, by omega, fun j u hj => by simp at hj⟩, Upd.trans (by (repeat (first | assumption | exact Upd.refl _ _ | refine Upd.alloc ?_ _ | refine Upd.drew ?_ | refine Upd.drewN ?_ _ | refine Upd.setCell ?_ ?_ _ | focus (left; simp; done) | focus (right; simp; done) | focus (right; simp; omega)))) hu1⟩
     ·have h1' : (nd : Int) = N := by simpa using h1
      obtain ⟨x, rfl⟩ : ∃ x : Nat, v = x := ⟨v.toNat, by omega⟩
      obtain ⟨g, off, rfl, hc⟩ := hcl x rfl (by omega)
      have hxn : (x : Int) < (nd : Int) := by omega
      have hxN : ¬ (x : Int) ≥ N := h4
      rw [show ((x : Nat) : Int).toNat = x by omega, decide_eq_true (show (0 : Int) ≤ x by omega), decide_eq_true (show (x : Int) < N by omega)] at hk
      have hdv : (D.getD x 0 == 9223372036854775807) = true := by simpa [bne] using hk
      generalize D.getD x 0 = dv at *
      clear hk h4 hcl
      go_enter Tryz.func34, Tryz.ntmps34
      go_wp2_with (first | ((go_at_call 56; (with_reducible refine (kc _ (by (repeat (first | assumption | exact Upd.refl _ _ | refine Upd.alloc ?_ _ | refine Upd.drew ?_ | refine Upd.drewN ?_ _ | refine Upd.setCell ?_ ?_ _ | focus (left; simp; done) | focus (right; simp; done) | focus (right; simp; omega))))).mono ?_)); rintro e w1 ⟨rfl, hu1⟩; (have q0 : w1.cell? ⟨w.heap.size, 0, none⟩ = some (.int .i64 N) := hu1.was (by go_simp)); (have q4 := hu1.was (((Upd.refl [] w).alloc _).was hc))) | fail)
      exact bodyPost_ret (v := .tuple #[.slice none 0 0, .bool false]) (by simp [results, Tryz.results34, go_sem]) rfl ⟨.slice none 0 0, rfl, ⟨none, 0, rfl, by simp, by omega, fun j u hj => by simp at hj⟩, Upd.trans (by (repeat (first | assumption | exact Upd.refl _ _ | refine Upd.alloc ?_ _ | refine Upd.drew ?_ | refine Upd.drewN ?_ _ | refine Upd.setCell ?_ ?_ _ | focus (left; simp; done) | focus (right; simp; done) | focus (right; simp; omega)))) hu1⟩
end Go.Proofs.YtklibcncmbofpaaGreat
namespace Go.Proofs.YtklibcncmbofpaaGreat
open Go Go.RowKit
set_option maxHeartbeats 8000000 in
set_option maxRecDepth 10000 in
theorem rway_yes (w : World) (n x : Nat) (va vd vb : Value) (E : List Ed) (D B : List Int) (hE : SlE w va E) (hD : SlI w [] vd D) (hB : SlI w [] vb B) (hk : knownB (n : Int) E D B (x : Int) = true) :
  Calls Tryz.prog 34 #[.agg #[.int .i64 (n : Int), va], vd, vb, .int .i64 (x : Int)] w fun e w' => ∃ vo, e = .returned (.tuple #[vo, .bool (wayF E B n x []).isSome]) ∧ SlI w' [] vo ((wayF E B n x []).getD []) ∧ Upd [] w w' := by
 have kc := fun W (hW : Upd [] w W) => rright_any W (n : Int) va E (hE.upd hW)
 obtain ⟨a, cap, rfl, hcap⟩ := hE.shape
 obtain ⟨ad, capd, rfl, _, hcd, hcD⟩ := hD
 obtain ⟨ab, capb, rfl, hcb0, hcb, hcB⟩ := hB
 unfold knownB at hk
 simp only [Bool.and_eq_true, decide_eq_true_eq, beq_iff_eq, bne_iff_ne, ne_eq] at hk
 obtain ⟨⟨⟨⟨⟨hr, h1⟩, h2⟩, h3⟩, h4⟩, h5⟩ := hk
 rw [hr] at kc
 have hbd := right_bd hr
 obtain ⟨gd, od, rfl, _, _, cd⟩ := hcD x (D.getD x 0) (by simp [List.getD_eq_getElem?_getD, show x < D.length by omega])
 rw [show ((x : Nat) : Int).toNat = x by omega] at h5
 have hd5 : (D.getD x 0 == 9223372036854775807) = false := by simpa using h5
 have HX := Lib.hid (And.intro hE (And.intro hcB hr))
 have hn16 : n ≤ 4096 := by omega
 have hxn : x < n := by omega
 have hxI : (x : Int) < (n : Int) := by omega
 have hxI2 : ¬ (x : Int) ≥ (n : Int) := by omega
 have hx0 : ¬ (x : Int) < 0 := by omega
 have hnxd : decide (n ≤ x) = false := decide_eq_false (by omega)
 have hx0d : decide ((x : Int) < 0) = false := decide_eq_false hx0
 have hBn : B.length = n := by omega
 have hDn : D.length = n := by omega
 have HB := Lib.hid hBn
 have hE64 : E.length ≤ 65536 := hbd.2.2
 have hbnn : ((n : Int) != (n : Int)) = false := by simp
 rw [hBn, hDn]
 clear hE hcB hr hbd h1 h2 h3 h4 h5 hDn hBn hcb0 hcD
 generalize D.getD x 0 = dv at *
 generalize hne : E.length = ne at *
 have HN := Lib.hid hne
 clear hne
 obtain ⟨r, hwr⟩ : ∃ r, wayF E B n x [] = r := ⟨_, rfl⟩
 rw [hwr]
 have HW := Lib.hid hwr
 clear hwr
 go_enter Tryz.func34, Tryz.ntmps34
 go_upto_region 3 with (first | ((go_at_call 56; (with_reducible refine (kc _ (by (repeat (first | assumption | exact Upd.refl _ _ | refine Upd.alloc ?_ _ | refine Upd.drew ?_ | refine Upd.drewN ?_ _ | refine Upd.setCell ?_ ?_ _ | focus (left; simp; done) | focus (right; simp; done) | focus (right; simp; omega))))).mono ?_)); rintro e w1 ⟨rfl, hu1⟩; (have q0 : w1.cell? ⟨w.heap.size, 0, none⟩ = some (.int .i64 (n : Int)) := hu1.was (by go_simp)); (have q1 : w1.cell? ⟨w.heap.size, 1, none⟩ = some (.slice a ne cap) := hu1.was (by go_simp)); (have q4 := hu1.was (((Upd.refl [] w).alloc _).was cd)); (have hw1 : Upd [] w w1 := Upd.trans (by (repeat (first | assumption | exact Upd.refl _ _ | refine Upd.alloc ?_ _ | refine Upd.drew ?_ | refine Upd.drewN ?_ _ | refine Upd.setCell ?_ ?_ _ | focus (left; simp; done) | focus (right; simp; done) | focus (right; simp; omega)))) hu1)) | fail)
 have hs1 := hw1.size
 have hlit := own_lit w1 [] 3 w1.heap.size 1 0 rfl (Nat.le_refl _) (by unfold maxLen; omega)
 have hua : Upd [] w1 (w1.alloc (.cells (#[] : Array Value) 3)) := (Upd.refl _ _).alloc _
 clear kc hu1
 go_upto_region 5 with (fail)
 go_loopw [3, 10, 11, 12] (fun vv ov kv _ wr => ∃ (k x' : Nat) (o : List Int) (ao : Option Addr) (co : Nat), k ≤ n ∧ kv = .int .i64 (k : Int) ∧ vv = .int .i64 (x' : Int) ∧ ov = .slice ao k co ∧ wr.ownsRow w1.heap.size 3 1 (.slice ao k co) k (intsZ o) ∧ x' < n ∧ wayF E B (n - k) x' o = r ∧ Upd [] w1 wr) (fun _ _ kv _ _ => n - (intOf kv).toNat)
 case atStart => exact ⟨0, x, [], _, _, by omega, rfl, rfl, rfl, hlit, hxn, HW.out, hua⟩
 case round =>
  clear hlit hua
  obtain ⟨k, y, o, ao, co, hkn, rfl, rfl, rfl, ho, hyn, hwf, hu⟩ := hrel
  rename World => wr
  have q0' := hu.was q0
  have q1' := hu.was q1
  have hwk : IntKind.i64.wrap ((k : Int) + 1) = (k : Int) + 1 := IntWalk.i64_in _ (by omega)
  by_cases hk : k < n
  ·have hkI : (k : Int) < (n : Int) := by omega
   have hyI : (y : Int) < (n : Int) := by omega
   obtain ⟨m, hm⟩ : ∃ m, n - k = m + 1 := ⟨n - k - 1, by omega⟩
   rw [hm] at hwf
   obtain ⟨gb, ob, rfl, hgb, -, cb'⟩ := HX.out.2.1 y (B.getD y 0) (by simp [List.getD_eq_getElem?_getD, HB.out, hyn])
   have cb := (hw1.trans hu).was cb'
   have HO := Lib.hid (And.intro ho (And.intro hwf hu))
   have hos := hu.size
   clear hwf cb'
   by_cases hi1 : B.getD y 0 = -1
   ·have HI := Lib.hid hi1
    rw [hi1] at cb
    clear ho hi1
    go_wp2
    obtain ⟨ho, hwf, hu⟩ := HO.out
    rw [wayF_end HI.out] at hwf
    exact bodyPost_ret (v := .tuple #[.slice ao k co, .bool true]) (by simp [results, Tryz.results34, go_sem]) rfl ⟨.slice ao k co, by rw [← hwf]; rfl, by rw [← hwf]; exact SlI.of_row ho (by simp), hw1.trans hu⟩
   ·have hib : (B.getD y 0 == -1) = false := by simpa using hi1
    by_cases hlo : B.getD y 0 < 0 ∨ (ne : Int) ≤ B.getD y 0
    ·have hl2 : B.getD y 0 < 0 ∨ (¬ (B.getD y 0 < 0) ∧ B.getD y 0 ≥ (ne : Int)) := by omega
     have hno := HO.out.2.1
     rw [wayF_no hi1 (by rw [HN.out]; rcases hlo with h | h; exact Or.inl h; exact Or.inr (Or.inl h))] at hno
     have HNo := Lib.hid hno
     clear hno ho hlo hi1
     generalize B.getD y 0 = bi at *
     rcases hl2 with h | ⟨h, h'⟩
     ·have hg1 : decide (bi < 0) = true := by simpa using h
      go_wp2
      exact bodyPost_ret (v := .tuple #[.slice none 0 0, .bool false]) (by simp [results, Tryz.results34, go_sem]) rfl ⟨.slice none 0 0, by rw [← HNo.out]; rfl, by rw [← HNo.out]; exact ⟨none, 0, rfl, by simp, by omega, fun j u hj => by simp at hj⟩, hw1.trans HO.out.2.2⟩
     ·have hg0 : ¬ bi < 0 := h
      have hg1 : decide (bi < 0) = false := by simpa using hg0
      have hg2 : decide (bi ≥ (ne : Int)) = true := by simpa using h'
      clear h
      go_wp2
      exact bodyPost_ret (v := .tuple #[.slice none 0 0, .bool false]) (by simp [results, Tryz.results34, go_sem]) rfl ⟨.slice none 0 0, by rw [← HNo.out]; rfl, by rw [← HNo.out]; exact ⟨none, 0, rfl, by simp, by omega, fun j u hj => by simp at hj⟩, hw1.trans HO.out.2.2⟩
    ·obtain ⟨i0, hi0⟩ : ∃ i0 : Nat, B.getD y 0 = i0 := ⟨(B.getD y 0).toNat, by omega⟩
     have hil : i0 < E.length := by rw [HN.out]; omega
     have hin : (i0 : Int) < (ne : Int) := by omega
     have hnl : ¬ i0 ≥ ne := by omega
     obtain ⟨ge, off, rfl, hg, c0', c1', -⟩ := HX.out.1.at i0 hil
     have c0 := (hw1.trans hu).was c0'
     have c1 := (hw1.trans hu).was c1'
     have hgel : ge < w1.heap.size := Nat.lt_of_lt_of_le hg hs1
     have h3 := right_mem HX.out.2.2 (List.mem_of_getElem? (show E[i0]? = some (E.getD i0 default) by simp [List.getD_eq_getElem?_getD, hil]))
     rw [hi0] at cb hib
     have hwfn := HO.out.2.1
     by_cases ht : (E.getD i0 default).t = y
     ·rw [wayF_next hi0 hil ht] at hwfn
      have HI := Lib.hid (And.intro hwfn (And.intro hi0 ht))
      rw [ht] at c1
      clear hwfn hi0 ht c0' c1' hlo hi1
      obtain ⟨f0, hf0⟩ : ∃ f0 : Nat, (E.getD i0 default).f = f0 := ⟨(E.getD i0 default).f.toNat, by omega⟩
      rw [hf0] at c0
      have HF := Lib.hid (And.intro hf0 (show f0 < n by omega))
      have hb2 : w1.heap.size ≤ wr.heap.size := hos
      have hol : (intsZ o).length = k * 1 := ho.1
      have hlst := (LstAt.of_owns ho).upd (S := []) ((Upd.refl [] wr).alloc (.cells [Value.int .i64 (i0 : Int)].toArray 3)) (by simp)
      have hl1 := own_lit wr [.int .i64 (i0 : Int)] 3 w1.heap.size 1 1 rfl hb2 (by unfold maxLen; omega)
      have hI1 := intsZ_one o
      clear hf0 h3
      generalize E.getD i0 default = ed at *
      go_wp2_with (first | (at_builtin; refine wpList_append_lst rfl _ _ 26 rfl w1.heap.size 3 (.int .i64 0) 1 8 Tryz.underlying26 intInfo rfl (by decide) _ 1 [.int .i64 (i0 : Int)] rfl hl1 w1.heap.size k (intsZ o) _ rfl hlst hol hI1 (by unfold maxLen; omega) (by omega) (by rw [World.size_alloc]; omega) ?_; intro v2 w2 ho2 hu2; obtain ⟨a2, c2, rfl, hc2⟩ := own_slice ho2; (have hv2 : Upd [] w1 w2 := (HO.out.2.2.then ((Upd.refl [] wr).alloc (.cells [Value.int .i64 (i0 : Int)].toArray 3))).own hl1 (Nat.le_refl _) hu2); (have p0 := hv2.was q0); (have p1 := hv2.was q1); (have hge2 : ge ∉ (Value.slice (some ⟨wr.heap.size, 0, none⟩) 1 1).ownBlock.toList := fun hm => by (have h9 := (hl1.lt ge (Option.mem_toList.1 hm)).1); omega); (have c0' := hu2.kept (((Upd.refl [] wr).alloc (.cells [Value.int .i64 (i0 : Int)].toArray 3)).was c0) hge2)) | fail)
      go_roundw
      case rel =>
       have hwfn := HI.out.1
       have e1 : n - (k + 1) = m := by omega
       have e2 : 1 + k = k + 1 := by omega
       rw [e2] at ho2 ⊢
       refine ⟨k + 1, f0, (i0 : Int) :: o, a2, c2, by omega, by go_num, rfl, rfl, ho2, HF.out.2, ?_, hv2⟩
       rw [e1]
       rw [HF.out.1] at hwfn
       simpa using hwfn
      case measure => simp [intOf]; omega
     ·have hti : ((E.getD i0 default).t != (y : Int)) = true := by simpa using ht
      have hno := HO.out.2.1
      rw [wayF_no hi1 (by rw [hi0, show ((i0 : Nat) : Int).toNat = i0 by omega]; exact Or.inr (Or.inr ht))] at hno
      have HNo := Lib.hid hno
      clear hno ho hlo hi1 hi0 ht c0 c0' c1' h3 hwfn
      generalize (E.getD i0 default).t = t0 at *
      go_wp2
      exact bodyPost_ret (v := .tuple #[.slice none 0 0, .bool false]) (by simp [results, Tryz.results34, go_sem]) rfl ⟨.slice none 0 0, by rw [← HNo.out]; rfl, by rw [← HNo.out]; exact ⟨none, 0, rfl, by simp, by omega, fun j u hj => by simp at hj⟩, hw1.trans HO.out.2.2⟩
  ·have hkI : ¬ (k : Int) < (n : Int) := by omega
   have e0 : n - k = 0 := by omega
   rw [e0, wayF_zero] at hwf
   have HO := Lib.hid (And.intro hwf hu)
   clear ho hwf
   go_wp2
   exact bodyPost_ret (v := .tuple #[.slice none 0 0, .bool false]) (by simp [results, Tryz.results34, go_sem]) rfl ⟨.slice none 0 0, by rw [← HO.out.1]; rfl, by rw [← HO.out.1]; exact ⟨none, 0, rfl, by simp, by omega, fun j u hj => by simp at hj⟩, hw1.trans HO.out.2⟩
end Go.Proofs.YtklibcncmbofpaaGreat
namespace Go.Proofs.YtklibcncmbofpaaGreat
open Go Go.RowKit
theorem rway_any (w : World) (N v : Int) (va vd vb : Value) (E : List Ed) (D B : List Int) (hE : SlE w va E) (hD : SlI w [] vd D) (hB : SlI w [] vb B) :
  Calls Tryz.prog 34 #[.agg #[.int .i64 N, va], vd, vb, .int .i64 v] w fun e w' => ∃ vo, e = .returned (.tuple #[vo, .bool (wayR N E D B v).isSome]) ∧ SlI w' [] vo ((wayR N E D B v).getD []) ∧ Upd [] w w' := by
 cases hk : knownB N E D B v with
 | false => rw [wayR_no hk]; exact rway_no w N v va vd vb E D B hE hD hB hk
 | true =>
  have hk2 := hk
  unfold knownB at hk2
  simp only [Bool.and_eq_true, decide_eq_true_eq, beq_iff_eq] at hk2
  obtain ⟨n, rfl⟩ : ∃ n : Nat, N = n := ⟨N.toNat, by omega⟩
  obtain ⟨x, rfl⟩ : ∃ x : Nat, v = x := ⟨v.toNat, by omega⟩
  have e : wayR (n : Int) E D B (x : Int) = wayF E B n x [] := by unfold wayR; rw [hk]; rfl
  rw [e]
  exact rway_yes w n x va vd vb E D B hE hD hB hk
set_option maxHeartbeats 4000000 in
theorem pways_any (w : World) (v vt : Value) (N x : Int) (E : List Ed) (va vd vb : Value) (D B : List Int) (hG : GraphIn w v N E va) (hT : TreeIn w vt vd vb D B) :
  Calls Tryz.prog 11 #[v, vt, .int .i64 x] w fun r w' => r = .returned (.bool true) ∧ Upd [] w w' := by
 obtain ⟨rfl, hE, hwb⟩ := hG
 obtain ⟨rfl, hD, hB, hb⟩ := hT
 have fD := fun W (hW : Upd [] w W) => hD.fresh hW (F' := []) (fun g hg => Or.inl hg)
 have fB := fun W (hW : Upd [] w W) => hB.fresh hW (F' := []) (fun g hg => Or.inl hg)
 have k6 := fun W (hW : Upd [] w W) => pway_any W N x va vd vb E D B (hE.upd hW) (fD W hW) (fB W hW)
 have k7 := fun W (hW : Upd [] w W) => rway_any W N x va vd vb E D B (hE.upd hW) (fD W hW) (fB W hW)
 generalize (wayR N E D B x).getD [] = tl at *
 generalize (wayR N E D B x).isSome = ts at *
 have hts : (ts == ts) = true := by simp
 have k8 := fun W v1 v2 (h1 : SlI W [] v1 tl) (h2 : SlI W [] v2 tl) => same_yes W [] [] v1 v2 tl h1 h2
 obtain ⟨a, cap, rfl, hcap⟩ := hE.shape
 obtain ⟨ad, capd, rfl, _, _, _⟩ := hD
 obtain ⟨ab, capb, rfl, _, _, _⟩ := hB
 have u0 : Upd [] w ((w.alloc (.cells #[.int .i64 N, .slice a E.length cap] 57)).alloc (.cells #[.slice ad D.length capd, .slice ab B.length capb] 60)) := ((Upd.refl _ _).alloc _).alloc _
 clear hE fD fB hwb hb
 generalize E.length = n at *
 generalize D.length = n2 at *
 generalize B.length = n3 at *
 cases hg : greatB N n with
 | true =>
  go_enter Tryz.func11, Tryz.ntmps11
  go_wp2_with (first | ((go_at_call 27; (with_reducible refine (wpalive_any _).mono ?_)); rintro e w1 ⟨rfl, hu1⟩; (have q0 : w1.cell? ⟨w.heap.size, 0, none⟩ = some (.int .i64 N) := hu1.was (by go_simp)); (have q1 : w1.cell? ⟨w.heap.size, 1, none⟩ = some (.slice a n cap) := hu1.was (by go_simp)); (have q2 : w1.cell? ⟨w.heap.size + 1, 0, none⟩ = some (.slice ad n2 capd) := hu1.was (by go_simp)); (have q3 : w1.cell? ⟨w.heap.size + 1, 1, none⟩ = some (.slice ab n3 capb) := hu1.was (by go_simp))) | ((go_at_call 28; (with_reducible refine (great22_any _ _ _ _ _).mono ?_)); rw [hg]; rintro e w2 ⟨rfl, hu2⟩; (have q4 := hu2.was q0); (have q5 := hu2.was q1); (have q6 := hu2.was q2); (have q7 := hu2.was q3)) | fail)
  go_ret
  exact ⟨rfl, (u0.trans hu1).trans hu2⟩
 | false =>
  by_cases h2 : n2 > 60
  ·go_enter Tryz.func11, Tryz.ntmps11
   go_wp2_with (first | ((go_at_call 27; (with_reducible refine (wpalive_any _).mono ?_)); rintro e w1 ⟨rfl, hu1⟩; (have q0 : w1.cell? ⟨w.heap.size, 0, none⟩ = some (.int .i64 N) := hu1.was (by go_simp)); (have q1 : w1.cell? ⟨w.heap.size, 1, none⟩ = some (.slice a n cap) := hu1.was (by go_simp)); (have q2 : w1.cell? ⟨w.heap.size + 1, 0, none⟩ = some (.slice ad n2 capd) := hu1.was (by go_simp)); (have q3 : w1.cell? ⟨w.heap.size + 1, 1, none⟩ = some (.slice ab n3 capb) := hu1.was (by go_simp))) | ((go_at_call 28; (with_reducible refine (great22_any _ _ _ _ _).mono ?_)); rw [hg]; rintro e w2 ⟨rfl, hu2⟩; (have q4 := hu2.was q0); (have q5 := hu2.was q1); (have q6 := hu2.was q2); (have q7 := hu2.was q3)) | fail)
   go_ret
   exact ⟨rfl, (u0.trans hu1).trans hu2⟩
  ·by_cases h3 : n3 > 60
   ·go_enter Tryz.func11, Tryz.ntmps11
    go_wp2_with (first | ((go_at_call 27; (with_reducible refine (wpalive_any _).mono ?_)); rintro e w1 ⟨rfl, hu1⟩; (have q0 : w1.cell? ⟨w.heap.size, 0, none⟩ = some (.int .i64 N) := hu1.was (by go_simp)); (have q1 : w1.cell? ⟨w.heap.size, 1, none⟩ = some (.slice a n cap) := hu1.was (by go_simp)); (have q2 : w1.cell? ⟨w.heap.size + 1, 0, none⟩ = some (.slice ad n2 capd) := hu1.was (by go_simp)); (have q3 : w1.cell? ⟨w.heap.size + 1, 1, none⟩ = some (.slice ab n3 capb) := hu1.was (by go_simp))) | ((go_at_call 28; (with_reducible refine (great22_any _ _ _ _ _).mono ?_)); rw [hg]; rintro e w2 ⟨rfl, hu2⟩; (have q4 := hu2.was q0); (have q5 := hu2.was q1); (have q6 := hu2.was q2); (have q7 := hu2.was q3)) | fail)
    go_ret
    exact ⟨rfl, (u0.trans hu1).trans hu2⟩
   ·go_enter Tryz.func11, Tryz.ntmps11
    go_upto_region 5 with (first | ((go_at_call 27; (with_reducible refine (wpalive_any _).mono ?_)); rintro e w1 ⟨rfl, hu1⟩; (have q0 : w1.cell? ⟨w.heap.size, 0, none⟩ = some (.int .i64 N) := hu1.was (by go_simp)); (have q1 : w1.cell? ⟨w.heap.size, 1, none⟩ = some (.slice a n cap) := hu1.was (by go_simp)); (have q2 : w1.cell? ⟨w.heap.size + 1, 0, none⟩ = some (.slice ad n2 capd) := hu1.was (by go_simp)); (have q3 : w1.cell? ⟨w.heap.size + 1, 1, none⟩ = some (.slice ab n3 capb) := hu1.was (by go_simp))) | ((go_at_call 28; (with_reducible refine (great22_any _ _ _ _ _).mono ?_)); rw [hg]; rintro e w2 ⟨rfl, hu2⟩; (have q4 := hu2.was q0); (have q5 := hu2.was q1); (have q6 := hu2.was q2); (have q7 := hu2.was q3)) | fail)
    have hu := (u0.trans hu1).trans hu2
    clear hu1 hu2 q0 q1 q2 q3 u0 hg
    have K6 := k6 w2 hu
    clear k6
    go_wp2_with (first
      | ((go_at_call 33; (with_reducible refine (K6).mono ?_)); rintro e w6 ⟨v6, rfl, hs6, hu6⟩; (have q8 := hu6.was q4); (have q9 := hu6.was q5); (have q10 := hu6.was q6); (have q11 := hu6.was q7))
      | ((go_at_call 34; (with_reducible refine (k7 _ (hu.trans hu6)).mono ?_)); rintro e w7 ⟨v7, rfl, hs7, hu7⟩)
      | ((go_at_call 20; (with_reducible refine (k8 _ _ _ (hs6.fresh hu7 (fun g hg => Or.inl hg)) hs7).mono ?_)); rintro e w8 ⟨rfl, kk, rfl⟩)
      | fail)
    go_ret
    exact ⟨rfl, ((hu.trans hu6).trans hu7).drewN _⟩
end Go.Proofs.YtklibcncmbofpaaGreat
