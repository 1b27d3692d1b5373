/-
  The edges that are tight: package proof. Conditions: those of each lemma.
-/
import Derived.Test.YtaeipfpdimjfoaaPrL
import Derived.Deep.DeepCutAuto
set_option linter.unusedVariables false
set_option linter.unusedSimpArgs false
namespace Go.Proofs.Ytaeipfpdimjfoaa
open Go Go.RowKit

/-- Is an edge tight? -/
def tightB (D : List Int) (e : Ed) : Bool := fitsB (D.getD e.f.toNat 0) && decide (D.getD e.t.toNat 0 = D.getD e.f.toNat 0 + e.w)
def tightL (D : List Int) (E : List Ed) (k : Nat) : List Int := ((List.range k).filter (fun i => tightB D (E.getD i default))).map (fun (i : Nat) => (i : Int))
theorem tightL_succ (D : List Int) (E : List Ed) (k : Nat) : tightL D E (k + 1) = if tightB D (E.getD k default) then tightL D E k ++ [(k : Int)] else tightL D E k := by
  unfold tightL
  rw [List.range_succ, List.filter_append, List.map_append]
  cases h : tightB D (E.getD k default) with
  | false => simp only [List.filter_cons, List.filter_nil, h]; simp
  | true => simp only [List.filter_cons, List.filter_nil, h]; simp
theorem tightL_len (D : List Int) (E : List Ed) (k : Nat) : (tightL D E k).length ≤ k := by
  unfold tightL
  rw [List.length_map]
  exact Nat.le_trans (List.length_filter_le (fun i => tightB D (E.getD i default)) (List.range k)) (by simp)
theorem wp_named3 {c : Code} {K : Exit → Act → World → Prop} {a : Act} {W : World} (R : World → Prop) (h : R W) (k : ∀ W', R W' → Code.wp Try.prog c K a W') : Code.wp Try.prog c K a W := k W h
set_option maxHeartbeats 4000000 in
set_option maxRecDepth 10000 in
theorem ptight_any (w : World) (N : Int) (va vd : Value) (E : List Ed) (D : List Int) (hE : SlE w va E) (hD : SlI w [] vd D) (hwE : weighB N E = true) (hN : (D.length : Int) = N) (hb : ∀ x, x ∈ D → -9223372036854775808 ≤ x ∧ x ≤ 9223372036854775807) :
    Calls Try.prog 9 #[.agg #[.int .i64 N, va], vd] w fun r w' => ∃ v, r = .returned v ∧ Upd [] w w' ∧ w'.ownsRow w.heap.size 3 1 v (tightL D E E.length).length (intsZ (tightL D E E.length)) := by
  have hr := weigh_right hwE
  have hbd := right_bd hr
  have kw := fun W (hW : Upd [] w W) => gweigh_any W N va E (hE.upd hW) (fun e he => by
    have h1 := weigh_mem hwE he
    have h2 := right_mem hr he
    have : (9223372036854775807 : Int) / N ≤ 9223372036854775807 := Int.ediv_le_self _ (by omega)
    omega)
  rw [hwE, show errW true = 0 from rfl] at kw
  obtain ⟨a, cap, rfl, hcap⟩ := hE.shape
  obtain ⟨a2, cap2, rfl, hc1, hc2, hcell⟩ := hD
  have HE := Lib.hid hE
  have HD := Lib.hid hcell
  have HW := Lib.hid (And.intro hwE (And.intro hr (And.intro hN hb)))
  have u0 : Upd [] w (w.alloc (.cells #[.int .i64 N, .slice a E.length cap] 24)) := (Upd.refl _ _).alloc _
  have hNe : (D.length != N) = false ∨ True := Or.inr trivial
  have hNb : ((D.length : Int) != N) = false := by simpa using hN
  have ki := fun x W => fits_any x W
  clear hE hcell hwE hr hb hNe
  generalize hm : D.length = md at *
  have HMD := Lib.hid hm
  generalize hn : E.length = n at *
  have HN := Lib.hid hn
  clear hm hn hN
  go_enter Try.func9, Try.ntmps9
  go_wp2_with (first
    | ((go_at_call 11; (with_reducible refine (kw _ (by (repeat (first | assumption | exact Upd.refl _ _ | refine Upd.alloc ?_ _ | refine Upd.drew ?_ | refine Upd.drewN ?_ _ | refine Upd.setCell ?_ ?_ _ | focus (left; simp; done) | focus (right; simp; done) | focus (right; simp; omega))))).mono ?_)); rintro e w1 ⟨rfl, hu1⟩; (have q0 : w1.cell? ⟨w.heap.size, 0, none⟩ = some (.int .i64 N) := hu1.was (by simp)); (have q1 : w1.cell? ⟨w.heap.size, 1, none⟩ = some (.slice a n cap) := hu1.was (by simp)))
    | fail)
  clear q0 q1
  go_loopw [5, 6, 7, 8, 22] (fun s5 _ _ _ i wr => ∃ k : Nat, k ≤ n ∧ i = .int .i64 (k : Int) ∧ wr.ownsRow (w.heap.size + 1) 3 1 s5 (tightL D E k).length (intsZ (tightL D E k)) ∧ Upd [] (w.alloc (.cells #[.int .i64 N, .slice a n cap] 24)) wr) (fun _ _ _ _ i _ => n - (intOf i).toNat)
  case atStart => exact ⟨0, by omega, rfl, by simpa [tightL, intsZ] using World.ownsRow_nil _ _ _ _, hu1⟩
  case round =>
    clear hu1 kw
    obtain ⟨k, hk, rfl, ho, hu⟩ := hrel
    rename World => wr
    have hsz : w.heap.size < wr.heap.size := by have := hu.size; simp at this; omega
    have hll := tightL_len D E k
    have HT := Lib.hid (tightL_succ D E k)
    generalize htl : tightL D E k = tl at *
    generalize htn : tl.length = tn at *
    have HTL := Lib.hid (And.intro htl htn)
    clear htl htn
    obtain ⟨at5, c5, rfl, hc5⟩ := own_slice ho
    by_cases hkn : k < n
    · have hkE : k < E.length := by rw [HN.out]; exact hkn
      have hx : E[k]? = some (E.getD k default) := by simp [List.getD_eq_getElem?_getD, hkE]
      have hmem : E.getD k default ∈ E := List.mem_of_getElem? hx
      obtain ⟨g, off, rfl, hg, c0, c1, c2⟩ := (HE.out.upd (u0.trans hu)).at k hkE
      have h1 := right_mem HW.out.2.1 hmem
      have h2 := weigh_mem HW.out.1 hmem
      generalize E.getD k default = e at *
      have hwr : IntKind.i64.wrap ((k : Int) + 1) = (k : Int) + 1 := IntWalk.i64_in _ (by omega)
      obtain ⟨ef, et, ew⟩ := e
      dsimp only at c0 c1 c2 h1 h2
      obtain ⟨f, rfl⟩ : ∃ f : Nat, ef = f := ⟨ef.toNat, by omega⟩
      obtain ⟨t, rfl⟩ : ∃ t : Nat, et = t := ⟨et.toNat, by omega⟩
      have hf' : f < D.length := by have := HW.out.2.2.1; have := HMD.out; omega
      have ht' : t < D.length := by have := HW.out.2.2.1; have := HMD.out; omega
      have x1 : D[f]? = some (D.getD f 0) := by simp [List.getD_eq_getElem?_getD, hf']
      have x2 : D[t]? = some (D.getD t 0) := by simp [List.getD_eq_getElem?_getD, ht']
      obtain ⟨g2, o2, rfl, hg2, _, d1'⟩ := HD.out f _ x1
      obtain ⟨_, _, he2, _, _, d2'⟩ := HD.out t _ x2
      cases he2
      have b1 := HW.out.2.2.2 _ (List.mem_of_getElem? x1)
      have b2 := HW.out.2.2.2 _ (List.mem_of_getElem? x2)
      have d1 := (u0.trans hu).was d1'
      have d2 := (u0.trans hu).was d2'
      have hfm : (f : Int) < (md : Int) := by have := HMD.out; omega
      have htm : (t : Int) < (md : Int) := by have := HMD.out; omega
      have hgr := Nat.lt_of_lt_of_le hg2 (u0.trans hu).size
      have hTB : tightB D ⟨f, t, ew⟩ = (fitsB (D.getD f 0) && decide (D.getD t 0 = D.getD f 0 + ew)) := rfl
      generalize D.getD f 0 = x at *
      generalize D.getD t 0 = y at *
      have HTB := Lib.hid hTB
      have hq : (9223372036854775807 : Int) / N ≤ 9223372036854775807 := Int.ediv_le_self _ (by omega)
      have hew : 0 ≤ ew ∧ ew ≤ 9223372036854775807 := by omega
      have HO := Lib.hid ho
      have HU := Lib.hid hu
      have kf := fun W => ki x W
      have HX := Lib.hid (show fitsB x = (decide (0 ≤ x) && decide (x ≠ 9223372036854775807)) from rfl)
      clear hx hmem x1 x2 d1' d2' hTB h2 hq ki HE HD
      cases hfx : fitsB x with
      | false =>
        rw [hfx] at kf
        have HF : Hid (tightB D ⟨f, t, ew⟩ = false) := Lib.hid (by rw [HTB.out, hfx]; rfl)
        clear hfx
        go_wp2
        go_quiet ((go_at_call 18; exact Calls.quiet_of_same (kf _)))
        go_wp2
        exact ⟨⟨k + 1, by omega, by go_num, by rw [HT.out, HF.out, if_neg (by simp), HTL.out.2]; exact owns_upd (S := []) HO.out (by (repeat (first | assumption | exact Upd.refl _ _ | refine Upd.alloc ?_ _ | refine Upd.drew ?_ | refine Upd.drewN ?_ _ | refine Upd.setCell ?_ ?_ _ | focus (left; simp; done) | focus (right; simp; done) | focus (right; simp; omega)))) (by simp), by have := HU.out; (repeat (first | assumption | exact Upd.refl _ _ | refine Upd.alloc ?_ _ | refine Upd.drew ?_ | refine Upd.drewN ?_ _ | refine Upd.setCell ?_ ?_ _ | focus (left; simp; done) | focus (right; simp; done) | focus (right; simp; omega)))⟩, by simp [intOf]; omega⟩
      | true =>
        rw [hfx] at kf
        have hx0 : 0 ≤ x ∧ x ≠ 9223372036854775807 := by
          have h := HX.out
          rw [hfx] at h
          have h' := h.symm
          simp only [Bool.and_eq_true, decide_eq_true_eq] at h'
          exact h'
        have HFX := Lib.hid hfx
        have hs1 : IntKind.i64.wrap (9223372036854775807 - x) = 9223372036854775807 - x := IntWalk.i64_in _ (by omega)
        by_cases h3 : ew ≤ 9223372036854775807 - x
        · have hs2 : IntKind.i64.wrap (x + ew) = x + ew := IntWalk.i64_in _ (by omega)
          have h3b : decide (ew ≤ 9223372036854775807 - x) = true := by simpa using h3
          by_cases h4 : y = x + ew
          · have HF : Hid (tightB D ⟨f, t, ew⟩ = true) := Lib.hid (by rw [HTB.out, HFX.out, h4]; simp)
            have h4b : (y == x + ew) = true := by simpa using h4
            clear hfx h4
            go_wp2
            go_quiet ((go_at_call 18; exact Calls.quiet_of_same (kf _)))
            go_upto_region 9 with (fail)
            refine wp_named3 (fun W => W.ownsRow (w.heap.size + 1) 3 1 (.slice at5 tn c5) tn (intsZ tl) ∧ Upd [] wr W) ⟨owns_upd (S := []) HO.out (by (repeat (first | assumption | exact Upd.refl _ _ | refine Upd.alloc ?_ _ | refine Upd.drew ?_ | refine Upd.drewN ?_ _ | refine Upd.setCell ?_ ?_ _ | focus (left; simp; done) | focus (right; simp; done) | focus (right; simp; omega)))) (by simp), by (repeat (first | assumption | exact Upd.refl _ _ | refine Upd.alloc ?_ _ | refine Upd.drew ?_ | refine Upd.drewN ?_ _ | refine Upd.setCell ?_ ?_ _ | focus (left; simp; done) | focus (right; simp; done) | focus (right; simp; omega)))⟩ ?_
            rintro W9 ⟨ho9, hu9⟩
            have hs9 := hu9.size
            go_wp2_with (first
              | ((at_builtin; refine wpList_append_sep rfl _ _ 26 rfl (w.heap.size + 1) 3 (.int .i64 0) 1 8 Try.underlying26 intInfo rfl (by decide) _ _ _ rfl (ho9) [.int .i64 (k : Int)] rfl (by simp [Value.oneCell']) (by first | rfl | (rw [World.size_alloc]; rfl)) (by unfold maxLen; omega) (by omega) ((by omega)) ?_; intro v2 w2 ho2 hu2 hsep2))
              | fail)
            have hw2 := Upd.own (HU.out.trans hu9) ho9 (by simp) hu2
            obtain ⟨a9, c9, rfl, _⟩ := own_slice ho2
            exact ⟨⟨k + 1, by omega, by go_num, by rw [HT.out, HF.out, if_pos rfl, intsZ_append, List.length_append, HTL.out.2]; exact ho2, hw2⟩, by simp [intOf]; omega⟩
          · have HF : Hid (tightB D ⟨f, t, ew⟩ = false) := Lib.hid (by rw [HTB.out, decide_eq_false h4]; simp)
            have h4b : (y == x + ew) = false := by simpa using h4
            have h4c : decide (y = x + ew) = false := by simpa using h4
            clear hfx
            go_wp2
            go_quiet ((go_at_call 18; exact Calls.quiet_of_same (kf _)))
            go_wp2
            exact ⟨⟨k + 1, by omega, by go_num, by rw [HT.out, HF.out, if_neg (by simp), HTL.out.2]; exact owns_upd (S := []) HO.out (by (repeat (first | assumption | exact Upd.refl _ _ | refine Upd.alloc ?_ _ | refine Upd.drew ?_ | refine Upd.drewN ?_ _ | refine Upd.setCell ?_ ?_ _ | focus (left; simp; done) | focus (right; simp; done) | focus (right; simp; omega)))) (by simp), by have := HU.out; (repeat (first | assumption | exact Upd.refl _ _ | refine Upd.alloc ?_ _ | refine Upd.drew ?_ | refine Upd.drewN ?_ _ | refine Upd.setCell ?_ ?_ _ | focus (left; simp; done) | focus (right; simp; done) | focus (right; simp; omega)))⟩, by simp [intOf]; omega⟩
        · have HF : Hid (tightB D ⟨f, t, ew⟩ = false) := Lib.hid (by rw [HTB.out, decide_eq_false (by omega : ¬ y = x + ew)]; simp)
          have h3b : decide (ew ≤ 9223372036854775807 - x) = false := by simpa using h3
          clear hfx
          go_wp2
          go_quiet ((go_at_call 18; exact Calls.quiet_of_same (kf _)))
          go_wp2
          exact ⟨⟨k + 1, by omega, by go_num, by rw [HT.out, HF.out, if_neg (by simp), HTL.out.2]; exact owns_upd (S := []) HO.out (by (repeat (first | assumption | exact Upd.refl _ _ | refine Upd.alloc ?_ _ | refine Upd.drew ?_ | refine Upd.drewN ?_ _ | refine Upd.setCell ?_ ?_ _ | focus (left; simp; done) | focus (right; simp; done) | focus (right; simp; omega)))) (by simp), by have := HU.out; (repeat (first | assumption | exact Upd.refl _ _ | refine Upd.alloc ?_ _ | refine Upd.drew ?_ | refine Upd.drewN ?_ _ | refine Upd.setCell ?_ ?_ _ | focus (left; simp; done) | focus (right; simp; done) | focus (right; simp; omega)))⟩, by simp [intOf]; omega⟩
    · obtain rfl : k = n := by omega
      have HO := Lib.hid ho
      clear ho
      go_wp2
      go_ret
      refine ⟨_, rfl, u0.trans hu, ?_⟩
      have e1 := HN.out
      have e2 := HTL.out.1
      have e3 := HTL.out.2
      have hO := HO.out
      subst e1
      subst e2
      subst e3
      exact owns_mono hO (by omega)
end Go.Proofs.Ytaeipfpdimjfoaa
