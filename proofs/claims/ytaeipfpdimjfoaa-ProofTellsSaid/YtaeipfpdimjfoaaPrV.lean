/-
  The document's edges that are tight. Conditions: those of each lemma.
-/
import Derived.Test.YtaeipfpdimjfoaaPrU
import Derived.Test.YtaeipfpdimjfoaaGrw
set_option linter.unusedVariables false
set_option linter.unusedSimpArgs false
namespace Go.Proofs.Ytaeipfpdimjfoaa
open Go Go.RowKit

/-- What both tell. -/
def tightR (N : Int) (E : List Ed) (D : List Int) : List Int := if weighB N E = true ∧ (D.length : Int) = N then tightL D E E.length else []
theorem tight_rel {D : List Int} {f t : Nat} {x y ew : Int} (hTB : tightB D ⟨f, t, ew⟩ = (fitsB x && decide (y = x + ew))) (h : ¬ (0 ≤ x ∧ x ≠ 9223372036854775807 ∧ y = x + ew)) : tightB D ⟨f, t, ew⟩ = false := by
  rw [hTB]
  unfold fitsB
  by_cases h1 : 0 ≤ x
  · by_cases h2 : x ≠ 9223372036854775807
    · rw [decide_eq_false (fun e => h ⟨h1, h2, e⟩)]; simp
    · rw [decide_eq_false h2]; simp
  · rw [decide_eq_false h1]; simp
set_option maxHeartbeats 4000000 in
set_option maxRecDepth 10000 in
theorem rtight_yes (w : World) (N : Int) (va vd : Value) (E : List Ed) (D : List Int) (hE : SlE w va E) (hD : SlI w [] vd D) (hwE : weighB N E = true) (hN : (D.length : Int) = N) (hb : ∀ x, x ∈ D → -9223372036854775808 ≤ x ∧ x ≤ 9223372036854775807) :
    Calls Try.prog 10 #[.agg #[.int .i64 N, va], vd] w fun r w' => ∃ v, r = .returned v ∧ Upd [] w w' ∧ w'.ownsRow w.heap.size 3 1 v (tightL D E E.length).length (intsZ (tightL D E E.length)) := by
  have hr := weigh_right hwE
  have hbd := right_bd hr
  have kw := fun W (hW : Upd [] w W) => rweigh_any W N va E (hE.upd hW)
  rw [hwE] at kw
  obtain ⟨a, cap, rfl, hcap⟩ := hE.shape
  obtain ⟨a2, cap2, rfl, hc1, hc2, hcell⟩ := hD
  have HE := Lib.hid hE
  have HD := Lib.hid hcell
  have HW := Lib.hid (And.intro hwE (And.intro hr (And.intro hN hb)))
  have u0 : Upd [] w (w.alloc (.cells #[.int .i64 N, .slice a E.length cap] 24)) := (Upd.refl _ _).alloc _
  have hNb : ((D.length : Int) != N) = false := by simpa using hN
  clear hE hcell hwE hr hb
  generalize hm : D.length = md at *
  have HMD := Lib.hid hm
  generalize hn : E.length = n at *
  have HN := Lib.hid hn
  clear hm hn hN
  go_enter Try.func10, Try.ntmps10
  go_wp2_with (first
    | ((go_at_call 16; (with_reducible refine (kw _ (by (repeat (first | assumption | exact Upd.refl _ _ | refine Upd.alloc ?_ _ | refine Upd.drew ?_ | refine Upd.drewN ?_ _ | refine Upd.setCell ?_ ?_ _ | focus (left; simp; done) | focus (right; simp; done) | focus (right; simp; omega))))).mono ?_)); rintro e w1 ⟨rfl, hu1⟩; (have q0 : w1.cell? ⟨w.heap.size, 0, none⟩ = some (.int .i64 N) := hu1.was (by simp)); (have q1 : w1.cell? ⟨w.heap.size, 1, none⟩ = some (.slice a n cap) := hu1.was (by simp)); (have ho1 := owns_upd (own_lit (w.alloc (.cells #[.int .i64 N, .slice a n cap] 24)) [] 3 (w.heap.size + 1) 1 0 (by simp) (by simp) (by simp [maxLen])) hu1 (by simp)))
    | fail)
  clear q0 q1
  go_loopw [5, 6, 7, 8, 9, 25] (fun s5 _ _ _ _ i wr => ∃ k : Nat, k ≤ n ∧ i = .int .i64 (k : Int) ∧ wr.ownsRow (w.heap.size + 1) 3 1 s5 (tightL D E k).length (intsZ (tightL D E k)) ∧ Upd [] (w.alloc (.cells #[.int .i64 N, .slice a n cap] 24)) wr) (fun _ _ _ _ _ i _ => n - (intOf i).toNat)
  case atStart => exact ⟨0, by omega, rfl, by simpa [tightL, intsZ] using ho1, ((Upd.refl _ _).alloc _).trans hu1⟩
  case round =>
    clear hu1 kw ho1
    obtain ⟨k, hk, rfl, ho, hu⟩ := hrel
    rename World => wr
    have hsz : w.heap.size < wr.heap.size := by have := hu.size; simp at this; omega
    have hll := tightL_len D E k
    have HT := Lib.hid (tightL_succ D E k)
    generalize htl : tightL D E k = tl at *
    generalize htn : tl.length = tn at *
    have HTL := Lib.hid (And.intro htl htn)
    clear htl htn
    obtain ⟨at5, c5, rfl, hc5⟩ := own_slice ho
    by_cases hkn : k < n
    · have hkE : k < E.length := by rw [HN.out]; exact hkn
      have hx : E[k]? = some (E.getD k default) := by simp [List.getD_eq_getElem?_getD, hkE]
      have hmem : E.getD k default ∈ E := List.mem_of_getElem? hx
      obtain ⟨g, off, rfl, hg, c0, c1, c2⟩ := (HE.out.upd (u0.trans hu)).at k hkE
      have h1 := right_mem HW.out.2.1 hmem
      have h2 := weigh_mem HW.out.1 hmem
      generalize E.getD k default = e at *
      have hwr : IntKind.i64.wrap ((k : Int) + 1) = (k : Int) + 1 := IntWalk.i64_in _ (by omega)
      obtain ⟨ef, et, ew⟩ := e
      dsimp only at c0 c1 c2 h1 h2
      obtain ⟨f, rfl⟩ : ∃ f : Nat, ef = f := ⟨ef.toNat, by omega⟩
      obtain ⟨t, rfl⟩ : ∃ t : Nat, et = t := ⟨et.toNat, by omega⟩
      have hf' : f < D.length := by have := HW.out.2.2.1; have := HMD.out; omega
      have ht' : t < D.length := by have := HW.out.2.2.1; have := HMD.out; omega
      have x1 : D[f]? = some (D.getD f 0) := by simp [List.getD_eq_getElem?_getD, hf']
      have x2 : D[t]? = some (D.getD t 0) := by simp [List.getD_eq_getElem?_getD, ht']
      obtain ⟨g2, o2, rfl, hg2, _, d1'⟩ := HD.out f _ x1
      obtain ⟨_, _, he2, _, _, d2'⟩ := HD.out t _ x2
      cases he2
      have b1 := HW.out.2.2.2 _ (List.mem_of_getElem? x1)
      have b2 := HW.out.2.2.2 _ (List.mem_of_getElem? x2)
      have d1 := (u0.trans hu).was d1'
      have d2 := (u0.trans hu).was d2'
      have hfm : (f : Int) < (md : Int) := by have := HMD.out; omega
      have htm : (t : Int) < (md : Int) := by have := HMD.out; omega
      have hgr := Nat.lt_of_lt_of_le hg2 (u0.trans hu).size
      have hTB : tightB D ⟨f, t, ew⟩ = (fitsB (D.getD f 0) && decide (D.getD t 0 = D.getD f 0 + ew)) := rfl
      generalize D.getD f 0 = x at *
      generalize D.getD t 0 = y at *
      have HTB := Lib.hid hTB
      have hq : (9223372036854775807 : Int) / N ≤ 9223372036854775807 := Int.ediv_le_self _ (by omega)
      have hew : 0 ≤ ew ∧ ew ≤ 9223372036854775807 := by omega
      have HO := Lib.hid ho
      have HU := Lib.hid hu
      clear hx hmem x1 x2 d1' d2' hTB h2 hq HE HD
      by_cases b3 : x ≥ 0
      · by_cases b4 : x < 9223372036854775807
        · by_cases b5 : y ≥ x
          · have hs1 : IntKind.i64.wrap (y - x) = y - x := IntWalk.i64_in _ (by omega)
            by_cases b6 : y - x = ew
            · have HF : Hid (tightB D ⟨f, t, ew⟩ = true) := Lib.hid (by rw [HTB.out]; unfold fitsB; rw [decide_eq_true b3, decide_eq_true (by omega : x ≠ 9223372036854775807), decide_eq_true (by omega : y = x + ew)]; rfl)
              have b6b : (y - x == ew) = true := by simpa using b6
              clear b6
              go_upto_region 10 with (fail)
              refine wp_named3 (fun W => W.ownsRow (w.heap.size + 1) 3 1 (.slice at5 tn c5) tn (intsZ tl) ∧ Upd [] wr W) ⟨owns_upd (S := []) HO.out (by (repeat (first | assumption | exact Upd.refl _ _ | refine Upd.alloc ?_ _ | refine Upd.drew ?_ | refine Upd.drewN ?_ _ | refine Upd.setCell ?_ ?_ _ | focus (left; simp; done) | focus (right; simp; done) | focus (right; simp; omega)))) (by simp), by (repeat (first | assumption | exact Upd.refl _ _ | refine Upd.alloc ?_ _ | refine Upd.drew ?_ | refine Upd.drewN ?_ _ | refine Upd.setCell ?_ ?_ _ | focus (left; simp; done) | focus (right; simp; done) | focus (right; simp; omega)))⟩ ?_
              rintro W9 ⟨ho9, hu9⟩
              have hs9 := hu9.size
              go_wp2_with (first
                | ((at_builtin; refine wpList_append_sep rfl _ _ 26 rfl (w.heap.size + 1) 3 (.int .i64 0) 1 8 Try.underlying26 intInfo rfl (by decide) _ _ _ rfl (ho9) [.int .i64 (k : Int)] rfl (by simp [Value.oneCell']) (by first | rfl | (rw [World.size_alloc]; rfl)) (by unfold maxLen; omega) (by omega) ((by omega)) ?_; intro v2 w2 ho2 hu2 hsep2))
                | fail)
              have hw2 := Upd.own (HU.out.trans hu9) ho9 (by simp) hu2
              obtain ⟨a9, c9, rfl, _⟩ := own_slice ho2
              exact ⟨⟨k + 1, by omega, by go_num, by rw [HT.out, HF.out, if_pos rfl, intsZ_append, List.length_append, HTL.out.2]; exact ho2, hw2⟩, by simp [intOf]; omega⟩
            · have HF := Lib.hid (tight_rel HTB.out (by omega))
              have b6b : (y - x == ew) = false := by simpa using b6
              go_wp2
              exact ⟨⟨k + 1, by omega, by go_num, by rw [HT.out, HF.out, if_neg (by simp), HTL.out.2]; exact owns_upd (S := []) HO.out (by (repeat (first | assumption | exact Upd.refl _ _ | refine Upd.alloc ?_ _ | refine Upd.drew ?_ | refine Upd.drewN ?_ _ | refine Upd.setCell ?_ ?_ _ | focus (left; simp; done) | focus (right; simp; done) | focus (right; simp; omega)))) (by simp), by have := HU.out; (repeat (first | assumption | exact Upd.refl _ _ | refine Upd.alloc ?_ _ | refine Upd.drew ?_ | refine Upd.drewN ?_ _ | refine Upd.setCell ?_ ?_ _ | focus (left; simp; done) | focus (right; simp; done) | focus (right; simp; omega)))⟩, by simp [intOf]; omega⟩
          · have HF := Lib.hid (tight_rel HTB.out (by omega))
            go_wp2
            exact ⟨⟨k + 1, by omega, by go_num, by rw [HT.out, HF.out, if_neg (by simp), HTL.out.2]; exact owns_upd (S := []) HO.out (by (repeat (first | assumption | exact Upd.refl _ _ | refine Upd.alloc ?_ _ | refine Upd.drew ?_ | refine Upd.drewN ?_ _ | refine Upd.setCell ?_ ?_ _ | focus (left; simp; done) | focus (right; simp; done) | focus (right; simp; omega)))) (by simp), by have := HU.out; (repeat (first | assumption | exact Upd.refl _ _ | refine Upd.alloc ?_ _ | refine Upd.drew ?_ | refine Upd.drewN ?_ _ | refine Upd.setCell ?_ ?_ _ | focus (left; simp; done) | focus (right; simp; done) | focus (right; simp; omega)))⟩, by simp [intOf]; omega⟩
        · have HF := Lib.hid (tight_rel HTB.out (by omega))
          go_wp2
          exact ⟨⟨k + 1, by omega, by go_num, by rw [HT.out, HF.out, if_neg (by simp), HTL.out.2]; exact owns_upd (S := []) HO.out (by (repeat (first | assumption | exact Upd.refl _ _ | refine Upd.alloc ?_ _ | refine Upd.drew ?_ | refine Upd.drewN ?_ _ | refine Upd.setCell ?_ ?_ _ | focus (left; simp; done) | focus (right; simp; done) | focus (right; simp; omega)))) (by simp), by have := HU.out; (repeat (first | assumption | exact Upd.refl _ _ | refine Upd.alloc ?_ _ | refine Upd.drew ?_ | refine Upd.drewN ?_ _ | refine Upd.setCell ?_ ?_ _ | focus (left; simp; done) | focus (right; simp; done) | focus (right; simp; omega)))⟩, by simp [intOf]; omega⟩
      · have HF := Lib.hid (tight_rel HTB.out (by omega))
        go_wp2
        exact ⟨⟨k + 1, by omega, by go_num, by rw [HT.out, HF.out, if_neg (by simp), HTL.out.2]; exact owns_upd (S := []) HO.out (by (repeat (first | assumption | exact Upd.refl _ _ | refine Upd.alloc ?_ _ | refine Upd.drew ?_ | refine Upd.drewN ?_ _ | refine Upd.setCell ?_ ?_ _ | focus (left; simp; done) | focus (right; simp; done) | focus (right; simp; omega)))) (by simp), by have := HU.out; (repeat (first | assumption | exact Upd.refl _ _ | refine Upd.alloc ?_ _ | refine Upd.drew ?_ | refine Upd.drewN ?_ _ | refine Upd.setCell ?_ ?_ _ | focus (left; simp; done) | focus (right; simp; done) | focus (right; simp; omega)))⟩, by simp [intOf]; omega⟩
    · obtain rfl : k = n := by omega
      have HO := Lib.hid ho
      clear ho
      go_wp2
      go_ret
      refine ⟨_, rfl, u0.trans hu, ?_⟩
      have e1 := HN.out
      have e2 := HTL.out.1
      have e3 := HTL.out.2
      have hO := HO.out
      subst e1
      subst e2
      subst e3
      exact owns_mono hO (by omega)
theorem rtight_no (w : World) (N : Int) (va : Value) (E : List Ed) (a2 : Option Addr) (md cap2 : Nat) (hE : SlE w va E) (hno : weighB N E = false ∨ (md : Int) ≠ N) :
    Calls Try.prog 10 #[.agg #[.int .i64 N, va], .slice a2 md cap2] w fun r w' => (∃ g, r = .returned (.slice (some ⟨g, 0, none⟩) 0 0)) ∧ Upd [] w w' := by
  have kw := fun W (hW : Upd [] w W) => rweigh_any W N va E (hE.upd hW)
  obtain ⟨a, cap, rfl, hcap⟩ := hE.shape
  have u0 : Upd [] w (w.alloc (.cells #[.int .i64 N, .slice a E.length cap] 24)) := (Upd.refl _ _).alloc _
  clear hE
  cases hw : weighB N E with
  | false =>
    rw [hw] at kw
    clear hw hno
    generalize E.length = n at *
    go_enter Try.func10, Try.ntmps10
    go_wp2_with (first
      | ((go_at_call 16; (with_reducible refine (kw _ (by (repeat (first | assumption | exact Upd.refl _ _ | refine Upd.alloc ?_ _ | refine Upd.drew ?_ | refine Upd.drewN ?_ _ | refine Upd.setCell ?_ ?_ _ | focus (left; simp; done) | focus (right; simp; done) | focus (right; simp; omega))))).mono ?_)); rintro e w1 ⟨rfl, hu1⟩)
      | fail)
    go_ret
    exact ⟨⟨_, rfl⟩, u0.trans (((Upd.refl _ _).alloc _).trans hu1)⟩
  | true =>
    have hN : (md : Int) ≠ N := by
      rcases hno with h | h
      · rw [hw] at h; cases h
      · exact h
    have hNb : ((md : Int) != N) = true := by simpa using hN
    rw [hw] at kw
    clear hw hno hN
    generalize E.length = n at *
    go_enter Try.func10, Try.ntmps10
    go_wp2_with (first
      | ((go_at_call 16; (with_reducible refine (kw _ (by (repeat (first | assumption | exact Upd.refl _ _ | refine Upd.alloc ?_ _ | refine Upd.drew ?_ | refine Upd.drewN ?_ _ | refine Upd.setCell ?_ ?_ _ | focus (left; simp; done) | focus (right; simp; done) | focus (right; simp; omega))))).mono ?_)); rintro e w1 ⟨rfl, hu1⟩; (have q0 : w1.cell? ⟨w.heap.size, 0, none⟩ = some (.int .i64 N) := hu1.was (by simp)))
      | fail)
    go_ret
    exact ⟨⟨_, rfl⟩, u0.trans (((Upd.refl _ _).alloc _).trans hu1)⟩
end Go.Proofs.Ytaeipfpdimjfoaa
