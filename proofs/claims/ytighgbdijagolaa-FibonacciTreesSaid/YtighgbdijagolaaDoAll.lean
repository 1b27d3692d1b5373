/-
  What is done to a nest of whatever kind, and to the document's: all in one; and what is looked at behind it. Conditions: those of each lemma.
-/
import Derived.Test.YtighgbdijagolaaGk
import Derived.Test.YtighgbdijagolaaDo1
import Derived.Test.YtighgbdijagolaaDo4
import Derived.Test.YtighgbdijagolaaDo5
import Derived.Test.YtighgbdijagolaaDo6
import Derived.Test.YtighgbdijagolaaNestB
set_option linter.unusedVariables false
set_option linter.unusedSimpArgs false
namespace Go.Proofs.Ytighgbdijagolaa
open Go Go.RowKit

section
variable {K : NestK} {w : World} {p : Nat} {F X : List Nat} {A : NS} {st : Nat} {g : K.G} {v : Value}
theorem do_any (h : K.at_ w p F A st g) (hr : RefAt w (X ++ F) v A) (hX : ∀ x, x ∈ X → x < w.heap.size) (a : AC) (ha : a.Ok) :
    Calls Try.prog 25 #[.iface K.ty (.pointer (some ⟨p, 0, none⟩)), v, a.v] w fun e w' => ∃ v', e = .returned (.tuple #[v', .bool true]) ∧ DoEnd K w w' p X F A st g a v' := by
  by_cases h0 : a.kind = 0; exact do_0 h hr hX a ha h0
  by_cases h1 : a.kind = 1; exact do_1 h hr hX a ha h1
  by_cases h2 : a.kind = 2; exact do_2 h hr hX a ha h2
  by_cases h3 : a.kind = 3; exact do_3 h hr hX a ha h3
  by_cases h4 : a.kind = 4; exact do_4 h hr hX a ha h4
  by_cases h5 : a.kind = 5; exact do_5 h hr hX a ha h5
  by_cases h6 : a.kind = 6; exact do_6 h hr hX a ha h6
  have hk : a.kind ≠ 0 ∧ a.kind ≠ 1 ∧ a.kind ≠ 2 ∧ a.kind ≠ 3 ∧ a.kind ≠ 4 ∧ a.kind ≠ 5 ∧ a.kind ≠ 6 := ⟨h0, h1, h2, h3, h4, h5, h6⟩
  have e : doN A a = A := by unfold doN; rw [if_neg h0, if_neg h1, if_neg h3, if_neg h4, if_neg h5, if_neg h6]
  obtain ⟨i1, i2⟩ := K.idle A a g hk
  unfold DoEnd
  rw [e, i1, i2, satS_zero (K.st62 h)]
  exact do_x h hr hX a ha hk
set_option maxHeartbeats 4000000 in
set_option maxRecDepth 10000 in
theorem looks_any (h : K.at_ w p F A st g) (hr : RefAt w (X ++ F) v A) (a : AC) (ha : a.Ok) :
    Calls Try.prog 77 #[.iface K.ty (.pointer (some ⟨p, 0, none⟩)), v, a.v] w fun e w' => e = .returned (.bool true) ∧ Goes F w w' (fun F' => K.at_ w' p F' A st g ∧ RefAt w' (X ++ F') v A) := by
  obtain ⟨kd, hh, x, k, s⟩ := a
  have ok := K.ok h
  have hF := K.lt h
  obtain ⟨gh, oh, ch, gc, oc, cc, rfl, hR⟩ := hr
  unfold AC.v refV
  have hlt := hR.lt
  dsimp only at *
  have hF0 : w.heap.size ∉ F := fun hm => by have := hF _ hm; omega
  have hF1 : w.heap.size + 1 ∉ F := fun hm => by have := hF _ hm; omega
  have hF2 : w.heap.size + 1 + 1 ∉ F := fun hm => by have := hF _ hm; omega
  have huc : Upd [] w ((w.alloc (.cells #[Value.slice (some ⟨gh, oh, none⟩) A.hs.length ch, Value.slice (some ⟨gc, oc, none⟩) A.cs.length cc] 53)).alloc (.cells #[Value.int .i64 kd, .int .i64 hh, .int .i64 x, .int .i64 k, .int .u64 s] 59)) := by (repeat (first | assumption | exact Upd.refl _ _ | refine Upd.alloc ?_ _ | refine Upd.drew ?_ | refine Upd.drewN ?_ _ | refine Upd.setCell ?_ ?_ _ | focus (left; simp; done) | focus (right; simp; done) | focus (right; simp; omega)))
  obtain ⟨f, fv, hen, hm, hc⟩ := (K.entry x (K.upd h huc (by simp))).now
  unfold Enters at hen
  cases hin : inN A x with
  | false =>
    rw [hin] at hc
    simp only [Bool.false_eq_true, if_false] at hc
    go_enter Try.func77, Try.ntmps77
    go_wp2_with (first
      | ((with_reducible refine (hc).mono ?_); rintro e w1 ⟨rfl, hu1⟩; (have z0 : w1.cell? ⟨w.heap.size, 0, none⟩ = some (.slice (some ⟨gh, oh, none⟩) A.hs.length ch) := hu1.was (by go_simp)); (have z1 : w1.cell? ⟨w.heap.size, 1, none⟩ = some (.slice (some ⟨gc, oc, none⟩) A.cs.length cc) := hu1.was (by go_simp)); (have t1 : w1.cell? ⟨w.heap.size + 1, 1, none⟩ = some (.int .i64 hh) := hu1.was (by go_simp)); (have t2 : w1.cell? ⟨w.heap.size + 1, 2, none⟩ = some (.int .i64 x) := hu1.was (by go_simp)); (have hs1 : w.heap.size + 2 ≤ w1.heap.size := (by have := hu1.size; simp at this; omega)); (have l0 : w.heap.size < w1.heap.size := by omega); (have l1 : w.heap.size + 1 < w1.heap.size := by omega); (have hw1 : Upd [] w w1 := huc.trans hu1); (have hF3 : w1.heap.size ∉ F := fun hm' => by (have := hF _ hm'); omega); obtain ⟨f2, fv2, hen2, hm2, hc2⟩ := (K.home x (K.upd h (hw1.trans ((Upd.refl [] w1).alloc (.cells #[.int .i64 0, .int .u64 0] 57))) (by simp))).now; (unfold Enters at hen2); rw [hin] at hc2; simp only [if_true, Bool.false_eq_true, if_false] at hc2; (have y0 : (w1.alloc (.cells #[.int .i64 0, .int .u64 0] 57)).cell? ⟨w.heap.size, 0, none⟩ = some (.slice (some ⟨gh, oh, none⟩) A.hs.length ch) := ((Upd.refl [] w1).alloc _).was z0); (have y1 : (w1.alloc (.cells #[.int .i64 0, .int .u64 0] 57)).cell? ⟨w.heap.size, 1, none⟩ = some (.slice (some ⟨gc, oc, none⟩) A.cs.length cc) := ((Upd.refl [] w1).alloc _).was z1); (have x1 : (w1.alloc (.cells #[.int .i64 0, .int .u64 0] 57)).cell? ⟨w.heap.size + 1, 1, none⟩ = some (.int .i64 hh) := ((Upd.refl [] w1).alloc _).was t1); (have x2 : (w1.alloc (.cells #[.int .i64 0, .int .u64 0] 57)).cell? ⟨w.heap.size + 1, 2, none⟩ = some (.int .i64 x) := ((Upd.refl [] w1).alloc _).was t2); (have q0 : (w1.alloc (.cells #[.int .i64 0, .int .u64 0] 57)).cell? ⟨w1.heap.size, 0, none⟩ = some (.int .i64 0) := by simp); (have q1 : (w1.alloc (.cells #[.int .i64 0, .int .u64 0] 57)).cell? ⟨w1.heap.size, 1, none⟩ = some (.int .u64 0) := by simp))
      | ((with_reducible refine (hc2).mono ?_); rintro e w2 ⟨rfl, F2, hA2, hu2, hF2'⟩; (have y0' := hu2.kept y0 hF0); (have y1' := hu2.kept y1 hF0); (have x1' := hu2.kept x1 hF1); (have x2' := hu2.kept x2 hF1); (have q0' := hu2.kept q0 hF3); (have q1' := hu2.kept q1 hF3); (have hRA2 : RefM w2 (X ++ F2) gh oh ch gc oc cc A := (hR.upd0 (hw1.trans ((Upd.refl [] w1).alloc (.cells #[.int .i64 0, .int .u64 0] 57)))).fresh (hu2.mono (fun y' hy' => by simp [hy'])) (fun y' hy' => by rcases List.mem_append.1 hy' with hy' | hy'; exact Or.inl (by simp [hy']); rcases hF2' y' hy' with h' | h'; exact Or.inl (by simp [h']); exact Or.inr h')); (have ki := rinN_any (⟨gh, oh, ch, gc, oc, cc, rfl, hRA2⟩ : RefAt w2 (X ++ F2) (refV gh oh ch gc oc cc A) A) ok x); (unfold refV at ki); rw [hin] at ki; clear y0 y1 x1 x2 q0 q1 z0 z1 t1 t2)
      | ((go_at_call 35; (with_reducible refine (ki).mono ?_)); rintro e w3 ⟨rfl, hu3⟩)
      | fail)
    have hA3 := K.upd hA2 hu3 (by simp)
    obtain ⟨fh, vh, henh, hfh⟩ := K.has hh hA3
    obtain ⟨fl, vl, henl, hfl⟩ := K.len hh ha.h hA3
    unfold Enters at henh henl
    have hmh := fun W hW => (hfh W hW).1
    have hml := fun W hW => (hfl W hW).1
    have hRA3 := hRA2.upd0 hu3
    have krh := fun W (hW : Upd [] w3 W) => rhasN_any (⟨gh, oh, ch, gc, oc, cc, rfl, hRA3.upd0 hW⟩ : RefAt W (X ++ F2) (refV gh oh ch gc oc cc A) A) ok hh
    have krl := fun W (hW : Upd [] w3 W) => rlenN_any (⟨gh, oh, ch, gc, oc, cc, rfl, hRA3.upd0 hW⟩ : RefAt W (X ++ F2) (refV gh oh ch gc oc cc A) A) ok hh
    unfold refV at krh krl
    have r0 : ∀ W, Upd [] w3 W → W.cell? ⟨w.heap.size, 0, none⟩ = some (.slice (some ⟨gh, oh, none⟩) A.hs.length ch) := fun W hW => (hu3.trans hW).was y0'
    have r1 : ∀ W, Upd [] w3 W → W.cell? ⟨w.heap.size, 1, none⟩ = some (.slice (some ⟨gc, oc, none⟩) A.cs.length cc) := fun W hW => (hu3.trans hW).was y1'
    have r2 : ∀ W, Upd [] w3 W → W.cell? ⟨w.heap.size + 1, 1, none⟩ = some (.int .i64 hh) := fun W hW => (hu3.trans hW).was x1'
    have r3 : ∀ W, Upd [] w3 W → W.cell? ⟨w.heap.size + 1, 2, none⟩ = some (.int .i64 x) := fun W hW => (hu3.trans hW).was x2'
    have r4 : ∀ W, Upd [] w3 W → W.cell? ⟨w1.heap.size, 0, none⟩ = some (.int .i64 0) := fun W hW => (hu3.trans hW).was q0'
    have r5 : ∀ W, Upd [] w3 W → W.cell? ⟨w1.heap.size, 1, none⟩ = some (.int .u64 0) := fun W hW => (hu3.trans hW).was q1'
    have HU : Hid (Upd F w w2) := ((hw1.trans ((Upd.refl [] w1).alloc (.cells #[.int .i64 0, .int .u64 0] 57))).mono (by simp)).trans hu2
    have hs12 : w1.heap.size ≤ w2.heap.size := by have := hu2.size; simp at this; omega
    clear y0' y1' x1' x2' q0' q1' hc hc2 hm hm2
    generalize hbh : hasN A hh = bh at *
    generalize hbl : (lenN A hh : Int) = bl at *
    go_region_held3 (Upd [] w3) (repeat (first | assumption | exact Upd.refl _ _ | refine Upd.drew ?_ | refine Upd.alloc ?_ _ | (apply Upd.trans; rotate_left; assumption)))
      (first
        | ((with_reducible refine ((hfh _ (by (repeat (first | assumption | exact Upd.refl _ _ | refine Upd.drew ?_ | refine Upd.alloc ?_ _ | (apply Upd.trans; rotate_left; assumption))))).2).mono ?_); rintro e w9 ⟨rfl, hw9⟩; rw [hw9]; clear hw9 w9)
        | ((with_reducible refine ((hfl _ (by (repeat (first | assumption | exact Upd.refl _ _ | refine Upd.drew ?_ | refine Upd.alloc ?_ _ | (apply Upd.trans; rotate_left; assumption))))).2).mono ?_); rintro e w9 ⟨rfl, hw9⟩; rw [hw9]; clear hw9 w9)
        | ((go_at_call 37; (with_reducible refine (krh _ (by (repeat (first | assumption | exact Upd.refl _ _ | refine Upd.drew ?_ | refine Upd.alloc ?_ _ | (apply Upd.trans; rotate_left; assumption))))).mono ?_)); rintro e w4 ⟨rfl, hu4⟩; (have hv4 : Upd [] w3 w4 := by (repeat (first | assumption | exact Upd.refl _ _ | refine Upd.drew ?_ | refine Upd.alloc ?_ _ | (apply Upd.trans; rotate_left; assumption)))))
        | ((go_at_call 29; (with_reducible refine (krl _ (by (repeat (first | assumption | exact Upd.refl _ _ | refine Upd.drew ?_ | refine Upd.alloc ?_ _ | (apply Upd.trans; rotate_left; assumption))))).mono ?_)); rintro e w4 ⟨rfl, hu4⟩; (have hv4 : Upd [] w3 w4 := by (repeat (first | assumption | exact Upd.refl _ _ | refine Upd.drew ?_ | refine Upd.alloc ?_ _ | (apply Upd.trans; rotate_left; assumption))))))
    go_wp2
    go_ret
    exact ⟨rfl, F2, ⟨K.upd hA3 (S := []) (by (repeat (first | assumption | exact Upd.refl _ _ | refine Upd.drew ?_ | refine Upd.alloc ?_ _ | (apply Upd.trans; rotate_left; assumption)))) (by simp), gh, oh, ch, gc, oc, cc, rfl, hRA3.upd0 (by (repeat (first | assumption | exact Upd.refl _ _ | refine Upd.drew ?_ | refine Upd.alloc ?_ _ | (apply Upd.trans; rotate_left; assumption))))⟩, HU.out.trans ((hu3.mono (by simp)).trans (Upd.mono (S := []) (by (repeat (first | assumption | exact Upd.refl _ _ | refine Upd.drew ?_ | refine Upd.alloc ?_ _ | (apply Upd.trans; rotate_left; assumption)))) (by simp))), fun y' hy' => by
      rcases hF2' y' hy' with h' | h'
      · exact Or.inl h'
      · right; simp at h'; omega⟩
  | true =>
    rw [hin] at hc
    simp only [if_true] at hc
    obtain ⟨y, rfl⟩ := in_nat hin
    have hyn := ((inN_nat A y).1 hin).1
    have hn1 := ok.c1
    have hcc := hR.ccap
    rw [Int.toNat_natCast] at hc
    have C0 : Hid ((A.c y).i = (A.c y).i) := rfl
    have d0 := hR.c0 y hyn
    have d1 := hR.c1 y hyn
    have d2 := hR.c2 y hyn
    go_enter Try.func77, Try.ntmps77
    go_wp2_with (first
      | ((with_reducible refine (hc).mono ?_); rintro e w1 ⟨rfl, hu1⟩; (have z0 : w1.cell? ⟨w.heap.size, 0, none⟩ = some (.slice (some ⟨gh, oh, none⟩) A.hs.length ch) := hu1.was (by go_simp)); (have z1 : w1.cell? ⟨w.heap.size, 1, none⟩ = some (.slice (some ⟨gc, oc, none⟩) A.cs.length cc) := hu1.was (by go_simp)); (have t1 : w1.cell? ⟨w.heap.size + 1, 1, none⟩ = some (.int .i64 hh) := hu1.was (by go_simp)); (have t2 : w1.cell? ⟨w.heap.size + 1, 2, none⟩ = some (.int .i64 (y : Int)) := hu1.was (by go_simp)); (have hs1 : w.heap.size + 2 ≤ w1.heap.size := (by have := hu1.size; simp at this; omega)); (have l0 : w.heap.size < w1.heap.size := by omega); (have l1 : w.heap.size + 1 < w1.heap.size := by omega); (have hw1 : Upd [] w w1 := huc.trans hu1); (have hF3 : w1.heap.size ∉ F := fun hm' => by (have := hF _ hm'); omega); obtain ⟨f2, fv2, hen2, hm2, hc2⟩ := (K.home (y : Int) (K.upd h (hw1.trans ((Upd.refl [] w1).alloc (.cells #[.int .i64 (A.c y).k, .int .u64 (A.c y).s] 57))) (by simp))).now; (unfold Enters at hen2); rw [hin] at hc2; simp only [if_true, Int.toNat_natCast] at hc2; (have y0 : (w1.alloc (.cells #[.int .i64 (A.c y).k, .int .u64 (A.c y).s] 57)).cell? ⟨w.heap.size, 0, none⟩ = some (.slice (some ⟨gh, oh, none⟩) A.hs.length ch) := ((Upd.refl [] w1).alloc _).was z0); (have y1 : (w1.alloc (.cells #[.int .i64 (A.c y).k, .int .u64 (A.c y).s] 57)).cell? ⟨w.heap.size, 1, none⟩ = some (.slice (some ⟨gc, oc, none⟩) A.cs.length cc) := ((Upd.refl [] w1).alloc _).was z1); (have x1 : (w1.alloc (.cells #[.int .i64 (A.c y).k, .int .u64 (A.c y).s] 57)).cell? ⟨w.heap.size + 1, 1, none⟩ = some (.int .i64 hh) := ((Upd.refl [] w1).alloc _).was t1); (have x2 : (w1.alloc (.cells #[.int .i64 (A.c y).k, .int .u64 (A.c y).s] 57)).cell? ⟨w.heap.size + 1, 2, none⟩ = some (.int .i64 (y : Int)) := ((Upd.refl [] w1).alloc _).was t2); (have q0 : (w1.alloc (.cells #[.int .i64 (A.c y).k, .int .u64 (A.c y).s] 57)).cell? ⟨w1.heap.size, 0, none⟩ = some (.int .i64 (A.c y).k) := by simp); (have q1 : (w1.alloc (.cells #[.int .i64 (A.c y).k, .int .u64 (A.c y).s] 57)).cell? ⟨w1.heap.size, 1, none⟩ = some (.int .u64 (A.c y).s) := by simp))
      | ((with_reducible refine (hc2).mono ?_); rintro e w2 ⟨rfl, F2, hA2, hu2, hF2'⟩; (have y0' := hu2.kept y0 hF0); (have y1' := hu2.kept y1 hF0); (have x1' := hu2.kept x1 hF1); (have x2' := hu2.kept x2 hF1); (have q0' := hu2.kept q0 hF3); (have q1' := hu2.kept q1 hF3); (have hRA2 : RefM w2 (X ++ F2) gh oh ch gc oc cc A := (hR.upd0 (hw1.trans ((Upd.refl [] w1).alloc (.cells #[.int .i64 (A.c y).k, .int .u64 (A.c y).s] 57)))).fresh (hu2.mono (fun y' hy' => by simp [hy'])) (fun y' hy' => by rcases List.mem_append.1 hy' with hy' | hy'; exact Or.inl (by simp [hy']); rcases hF2' y' hy' with h' | h'; exact Or.inl (by simp [h']); exact Or.inr h')); (have ki := rinN_any (⟨gh, oh, ch, gc, oc, cc, rfl, hRA2⟩ : RefAt w2 (X ++ F2) (refV gh oh ch gc oc cc A) A) ok (y : Int)); (unfold refV at ki); rw [hin] at ki; clear y0 y1 x1 x2 q0 q1 z0 z1 t1 t2)
      | ((go_at_call 35; (with_reducible refine (ki).mono ?_)); rintro e w3 ⟨rfl, hu3⟩)
      | fail)
    have hA3 := K.upd hA2 hu3 (by simp)
    obtain ⟨fh, vh, henh, hfh⟩ := K.has hh hA3
    obtain ⟨fl, vl, henl, hfl⟩ := K.len hh ha.h hA3
    unfold Enters at henh henl
    have hmh := fun W hW => (hfh W hW).1
    have hml := fun W hW => (hfl W hW).1
    have hRA3 := hRA2.upd0 hu3
    have krh := fun W (hW : Upd [] w3 W) => rhasN_any (⟨gh, oh, ch, gc, oc, cc, rfl, hRA3.upd0 hW⟩ : RefAt W (X ++ F2) (refV gh oh ch gc oc cc A) A) ok hh
    have krl := fun W (hW : Upd [] w3 W) => rlenN_any (⟨gh, oh, ch, gc, oc, cc, rfl, hRA3.upd0 hW⟩ : RefAt W (X ++ F2) (refV gh oh ch gc oc cc A) A) ok hh
    unfold refV at krh krl
    have r0 : ∀ W, Upd [] w3 W → W.cell? ⟨w.heap.size, 0, none⟩ = some (.slice (some ⟨gh, oh, none⟩) A.hs.length ch) := fun W hW => (hu3.trans hW).was y0'
    have r1 : ∀ W, Upd [] w3 W → W.cell? ⟨w.heap.size, 1, none⟩ = some (.slice (some ⟨gc, oc, none⟩) A.cs.length cc) := fun W hW => (hu3.trans hW).was y1'
    have r2 : ∀ W, Upd [] w3 W → W.cell? ⟨w.heap.size + 1, 1, none⟩ = some (.int .i64 hh) := fun W hW => (hu3.trans hW).was x1'
    have r3 : ∀ W, Upd [] w3 W → W.cell? ⟨w.heap.size + 1, 2, none⟩ = some (.int .i64 (y : Int)) := fun W hW => (hu3.trans hW).was x2'
    have r4 : ∀ W, Upd [] w3 W → W.cell? ⟨w1.heap.size, 0, none⟩ = some (.int .i64 (A.c y).k) := fun W hW => (hu3.trans hW).was q0'
    have r5 : ∀ W, Upd [] w3 W → W.cell? ⟨w1.heap.size, 1, none⟩ = some (.int .u64 (A.c y).s) := fun W hW => (hu3.trans hW).was q1'
    have HU : Hid (Upd F w w2) := ((hw1.trans ((Upd.refl [] w1).alloc (.cells #[.int .i64 (A.c y).k, .int .u64 (A.c y).s] 57))).mono (by simp)).trans hu2
    have hs12 : w1.heap.size ≤ w2.heap.size := by have := hu2.size; simp at this; omega
    clear y0' y1' x1' x2' q0' q1' hc hc2 hm hm2
    generalize hbh : hasN A hh = bh at *
    generalize hbl : (lenN A hh : Int) = bl at *
    go_region_held3 (Upd [] w3) (repeat (first | assumption | exact Upd.refl _ _ | refine Upd.drew ?_ | refine Upd.alloc ?_ _ | (apply Upd.trans; rotate_left; assumption)))
      (first
        | ((with_reducible refine ((hfh _ (by (repeat (first | assumption | exact Upd.refl _ _ | refine Upd.drew ?_ | refine Upd.alloc ?_ _ | (apply Upd.trans; rotate_left; assumption))))).2).mono ?_); rintro e w9 ⟨rfl, hw9⟩; rw [hw9]; clear hw9 w9)
        | ((with_reducible refine ((hfl _ (by (repeat (first | assumption | exact Upd.refl _ _ | refine Upd.drew ?_ | refine Upd.alloc ?_ _ | (apply Upd.trans; rotate_left; assumption))))).2).mono ?_); rintro e w9 ⟨rfl, hw9⟩; rw [hw9]; clear hw9 w9)
        | ((go_at_call 37; (with_reducible refine (krh _ (by (repeat (first | assumption | exact Upd.refl _ _ | refine Upd.drew ?_ | refine Upd.alloc ?_ _ | (apply Upd.trans; rotate_left; assumption))))).mono ?_)); rintro e w4 ⟨rfl, hu4⟩; (have hv4 : Upd [] w3 w4 := by (repeat (first | assumption | exact Upd.refl _ _ | refine Upd.drew ?_ | refine Upd.alloc ?_ _ | (apply Upd.trans; rotate_left; assumption)))))
        | ((go_at_call 29; (with_reducible refine (krl _ (by (repeat (first | assumption | exact Upd.refl _ _ | refine Upd.drew ?_ | refine Upd.alloc ?_ _ | (apply Upd.trans; rotate_left; assumption))))).mono ?_)); rintro e w4 ⟨rfl, hu4⟩; (have hv4 : Upd [] w3 w4 := by (repeat (first | assumption | exact Upd.refl _ _ | refine Upd.drew ?_ | refine Upd.alloc ?_ _ | (apply Upd.trans; rotate_left; assumption))))))
    have e0 : w2.cell? ⟨gc, oc + y * 3, none⟩ = some (.int .i64 (A.c y).i) := hRA2.c0 y hyn
    have e1 : w2.cell? ⟨gc, oc + y * 3 + 1, none⟩ = some (.int .i64 (A.c y).k) := hRA2.c1 y hyn
    have e2 : w2.cell? ⟨gc, oc + y * 3 + 2, none⟩ = some (.int .u64 (A.c y).s) := hRA2.c2 y hyn
    have r6 : ∀ W, Upd [] w3 W → W.cell? ⟨gc, oc + y * 3, none⟩ = some (.int .i64 (A.c y).i) := fun W hW => (hu3.trans hW).was e0
    have r7 : ∀ W, Upd [] w3 W → W.cell? ⟨gc, oc + y * 3 + 1, none⟩ = some (.int .i64 (A.c y).k) := fun W hW => (hu3.trans hW).was e1
    have r8 : ∀ W, Upd [] w3 W → W.cell? ⟨gc, oc + y * 3 + 2, none⟩ = some (.int .u64 (A.c y).s) := fun W hW => (hu3.trans hW).was e2
    go_wp2
    go_region_held3 (Upd [] w3) (repeat (first | assumption | exact Upd.refl _ _ | refine Upd.drew ?_ | refine Upd.alloc ?_ _ | (apply Upd.trans; rotate_left; assumption))) (fail)
    go_wp2
    go_ret
    exact ⟨rfl, F2, ⟨K.upd hA3 (S := []) (by (repeat (first | assumption | exact Upd.refl _ _ | refine Upd.drew ?_ | refine Upd.alloc ?_ _ | (apply Upd.trans; rotate_left; assumption)))) (by simp), gh, oh, ch, gc, oc, cc, rfl, hRA3.upd0 (by (repeat (first | assumption | exact Upd.refl _ _ | refine Upd.drew ?_ | refine Upd.alloc ?_ _ | (apply Upd.trans; rotate_left; assumption))))⟩, HU.out.trans ((hu3.mono (by simp)).trans (Upd.mono (S := []) (by (repeat (first | assumption | exact Upd.refl _ _ | refine Upd.drew ?_ | refine Upd.alloc ?_ _ | (apply Upd.trans; rotate_left; assumption)))) (by simp))), fun y' hy' => by
      rcases hF2' y' hy' with h' | h'
      · exact Or.inl h'
      · right; simp at h'; omega⟩
end
end Go.Proofs.Ytighgbdijagolaa
