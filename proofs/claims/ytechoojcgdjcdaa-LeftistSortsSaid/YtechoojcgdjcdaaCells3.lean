/-
  Slots that are in heaps (package cells): Drop, Lower. Conditions: those of each lemma.
-/
import Derived.Test.YtechoojcgdjcdaaCells2
set_option linter.unusedVariables false
set_option linter.unusedSimpArgs false
namespace Go.Proofs.Ytechoojcgdjcdaa
open Go Go.RowKit

theorem manyF_drop {A : NS} {x : Nat} (hx : x < A.cs.length) (hz : 0 < (A.c x).i) (q : Int) :
    (if q = (A.c x).i then (if (lenN A (A.c x).i : Int) - 1 = 0 then none else some ((lenN A (A.c x).i : Int) - 1)) else manyF A q) = manyF (withN A x Cl.z) q := by
  have := lenN_with A x Cl.z q hx
  have hp : 0 < lenN A (A.c x).i := lenN_pos.2 ⟨x, hx, rfl, hz⟩
  unfold manyF
  by_cases e : q = (A.c x).i
  · subst e
    rw [if_pos rfl]
    rw [if_pos ⟨rfl, hz⟩, if_neg (show ¬ (Cl.z.i = (A.c x).i ∧ 0 < (A.c x).i) from fun h => by have : (0 : Int) = (A.c x).i := h.1; omega)] at this
    by_cases h1 : lenN A (A.c x).i = 1
    · rw [if_pos (by omega), if_neg (by omega)]
    · rw [if_neg (by omega), if_pos (by omega)]
      congr 1; omega
  · rw [if_neg e]
    rw [if_neg (fun h => e h.1.symm), if_neg (show ¬ (Cl.z.i = q ∧ 0 < q) from fun h => by have : (0 : Int) = q := h.1; omega)] at this
    simp only [Nat.add_zero] at this
    rw [this]
theorem cdrop_no {w : World} {c st : Nat} {F : List Nat} {A : NS} (h : CellsAt w c F A st) (x : Int) (hx : inN A x = false) :
    Calls Try.prog 104 #[.pointer (some ⟨c, 0, none⟩), .int .i64 x] w fun e w' => e = .returned (.bool false) ∧ w' = w := by
  have k := chome_no h x hx
  clear h hx
  go_enter Try.func104, Try.ntmps104
  go_wp2_with ((go_at_call 54; (with_reducible refine (k).mono ?_); rintro e w9 ⟨rfl, hw9⟩; rw [hw9]; clear hw9 w9))
  go_ret
  exact ⟨rfl, rfl⟩
set_option maxHeartbeats 4000000 in
theorem cdrop_yes {w : World} {c st : Nat} {F : List Nat} {A : NS} (h : CellsAt w c F A st) (x : Nat) (hx : inN A x = true) :
    Calls Try.prog 104 #[.pointer (some ⟨c, 0, none⟩), .int .i64 (x : Int)] w fun e w' => e = .returned (.bool true) ∧ CellsAt w' c F (dropN A x) st ∧ Upd F w w' := by
  have k := chome_yes h x hx
  obtain ⟨hx1, hx2⟩ := (inN_nat _ _).1 hx
  have hrng := h.ok.nat x hx1
  have hA1 := h.ok.h1
  have hA2 := h.ok.c1
  obtain ⟨hh, hhe⟩ : ∃ r : Nat, (A.c x).i = r := ⟨(A.c x).i.toNat, by omega⟩
  have hp : 0 < lenN A (hh : Int) := lenN_pos.2 ⟨x, hx1, hhe, by omega⟩
  have hlen := lenN_le h.ok (hh : Int)
  have hM := fun q => manyF_drop hx1 hx2 q
  have ok' := dropN_ok h.ok x
  have e : dropN A (x : Int) = withN A x Cl.z := by unfold dropN; rw [if_pos hx]; simp
  rw [hhe] at k hM hrng
  have HE := Lib.hid e
  have HM := Lib.hid hM
  have hh1 : 1 ≤ hh := by omega
  have HO := Lib.hid ok'
  obtain ⟨len, hle⟩ : ∃ n, n = A.cs.length := ⟨_, rfl⟩
  have HL := Lib.hid hle
  clear h hx hM ok' e hle hx2 hhe
  have hx1 : x < len := by have := HL.out; omega
  obtain ⟨m, hm⟩ : ∃ m : Int, m = (lenN A (hh : Int) : Int) := ⟨_, rfl⟩
  rw [← hm] at HM
  have HZ := Lib.hid hm
  have hm1 : 0 < m := by omega
  have hm2 : m ≤ 65536 := by omega
  clear hm hp hlen
  go_enter Try.func104, Try.ntmps104
  go_wp2_with fail
  refine k.mono ?_
  rintro e w1 ⟨rfl, hC, hu⟩
  have hsz := hu.size
  have hlt := hC.lt
  obtain ⟨ca, nm, mb, g, cap, l, rt, dp, raw, h, rfl⟩ := hC
  have c1 := h.c1
  have c3 := h.c3
  rw [← HL.out] at c1
  have d0 := h.row.cell (x * 3) (by rw [← HL.out]; omega)
  have d1 := h.row.cell (x * 3 + 1) (by rw [← HL.out]; omega)
  have d2 := h.row.cell (x * 3 + 2) (by rw [← HL.out]; omega)
  have f0 := h.row.free (x * 3)
  have f1 := h.row.free (x * 3 + 1)
  have f2 := h.row.free (x * 3 + 2)
  have l1 := hlt c (by simp)
  have l2 := hlt ca (by simp)
  have l3 := hlt mb (by simp)
  have hs := h.sep
  have H := Lib.hid h
  have HU := Lib.hid hu
  clear h hlt k hu
  have fin : ∀ (w2 : World), MapI w2 mb (manyF (withN A x Cl.z)) → Upd [mb] (((w1.setCell ⟨ca, x * 3, none⟩ (.int .i64 0)).setCell ⟨ca, x * 3 + 1, none⟩ (.int .i64 0)).setCell ⟨ca, x * 3 + 2, none⟩ (.int .u64 0)) w2 →
      CellsAt w2 c [c, ca, nm, mb, g] (dropN A x) st ∧ Upd [c, ca, nm, mb, g] w w2 := fun w2 hm2 hu2 => by
    have hu3 : Upd [ca] w1 (((w1.setCell ⟨ca, x * 3, none⟩ (.int .i64 0)).setCell ⟨ca, x * 3 + 1, none⟩ (.int .i64 0)).setCell ⟨ca, x * 3 + 2, none⟩ (.int .u64 0)) := by (repeat (first | assumption | exact Upd.refl _ _ | refine Upd.alloc ?_ _ | refine Upd.drew ?_ | refine Upd.drewN ?_ _ | refine Upd.setCell ?_ ?_ _ | focus (left; simp; done) | focus (right; simp; done) | focus (right; simp; omega)))
    have hr3 := (row3 (i := x) H.out.row Cl.z).upd hu2 (by first | (simp; done) | (simp; omega))
    have hu4 : Upd [ca, mb] w1 w2 := (hu3.mono (by first | (simp; done) | (simp; omega))).joined hu2 (fun y hy => Or.inl (by simp at hy; simp [hy]))
    refine ⟨⟨ca, nm, mb, g, cap, l, rt, dp, fun y => if y = x then Cl.z else raw y, ?_, rfl⟩, HU.out.trans (hu4.mono (by first | (simp; done) | (simp; omega)))⟩
    have ok' := HO.out
    rw [HE.out] at ok' ⊢
    exact H.out.turn hu4 hr3 hm2 ok' (len_with _ _ _) rfl (rel_with H.out.rel (by rw [← HL.out]; exact hx1) (Or.inl ⟨rfl, rfl⟩))
  have FIN := Lib.hid fin
  clear fin
  by_cases h1 : m = 1
  · have hb : (m - 1 == 0) = true := by simp; omega
    have H1 := Lib.hid h1
    clear h1
    go_wp2_with (first
      | (at_lookup; refine wpList_mlook (o := ⟨some 27, _, _, _, _, _⟩) (by rfl) _ _ (by rfl) mb (manyF A) (by rfl) (H.out.many.upd (S := [ca]) (by (repeat (first | assumption | exact Upd.refl _ _ | refine Upd.alloc ?_ _ | refine Upd.drew ?_ | refine Upd.drewN ?_ _ | refine Upd.setCell ?_ ?_ _ | focus (left; simp; done) | focus (right; simp; done) | focus (right; simp; omega)))) (by first | (simp; done) | (simp; omega))) (hh : Int) (by rfl) (by omega) m ((manyF_get _ _).trans HZ.out.symm) ?_)
      | (at_lookup; refine wpList_mlook (o := ⟨some 34, _, _, _, _, _⟩) (by rfl) _ _ (by rfl) mb _ (by rfl) hm2 (hh : Int) (by rfl) (by omega) (m - 1) (by simp) ?_)
      | (at_mapUpdate; refine wpList_mput rfl _ _ _ rfl mb (manyF A) rfl (H.out.many.upd (S := [ca]) (by (repeat (first | assumption | exact Upd.refl _ _ | refine Upd.alloc ?_ _ | refine Upd.drew ?_ | refine Upd.drewN ?_ _ | refine Upd.setCell ?_ ?_ _ | focus (left; simp; done) | focus (right; simp; done) | focus (right; simp; omega)))) (by first | (simp; done) | (simp; omega))) (hh : Int) (m - 1) rfl rfl (by omega) (by omega) ?_; intro w2 hm2 hu2; (have q1 := hu2.cell (p := ⟨c, 3, none⟩) (by simp; exact l1) (by first | (simp; done) | (simp; omega))))
      | (at_delete; refine wpList_mdel rfl _ _ rfl mb _ rfl hm2 (hh : Int) rfl (by omega) ?_; intro w3 hm3 hu3))
    go_ret
    have hm4 : MapI w3 mb (manyF (withN A x Cl.z)) := MapI.ext hm3 (fun q => by
      rw [← HM.out q]
      by_cases e : q = (hh : Int)
      · rw [if_pos e, if_pos e, if_pos (by have := H1.out; omega)]
      · rw [if_neg e, if_neg e, if_neg e])
    exact ⟨rfl, FIN.out w3 hm4 (hu2.trans hu3)⟩
  · have hb : (m - 1 == 0) = false := by simp; omega
    have H1 := Lib.hid h1
    clear h1
    go_wp2_with (first
      | (at_lookup; refine wpList_mlook (o := ⟨some 27, _, _, _, _, _⟩) (by rfl) _ _ (by rfl) mb (manyF A) (by rfl) (H.out.many.upd (S := [ca]) (by (repeat (first | assumption | exact Upd.refl _ _ | refine Upd.alloc ?_ _ | refine Upd.drew ?_ | refine Upd.drewN ?_ _ | refine Upd.setCell ?_ ?_ _ | focus (left; simp; done) | focus (right; simp; done) | focus (right; simp; omega)))) (by first | (simp; done) | (simp; omega))) (hh : Int) (by rfl) (by omega) m ((manyF_get _ _).trans HZ.out.symm) ?_)
      | (at_lookup; refine wpList_mlook (o := ⟨some 34, _, _, _, _, _⟩) (by rfl) _ _ (by rfl) mb _ (by rfl) hm2 (hh : Int) (by rfl) (by omega) (m - 1) (by simp) ?_)
      | (at_mapUpdate; refine wpList_mput rfl _ _ _ rfl mb (manyF A) rfl (H.out.many.upd (S := [ca]) (by (repeat (first | assumption | exact Upd.refl _ _ | refine Upd.alloc ?_ _ | refine Upd.drew ?_ | refine Upd.drewN ?_ _ | refine Upd.setCell ?_ ?_ _ | focus (left; simp; done) | focus (right; simp; done) | focus (right; simp; omega)))) (by first | (simp; done) | (simp; omega))) (hh : Int) (m - 1) rfl rfl (by omega) (by omega) ?_; intro w2 hm2 hu2; (have q1 := hu2.cell (p := ⟨c, 3, none⟩) (by simp; exact l1) (by first | (simp; done) | (simp; omega)))))
    go_ret
    have hm4 : MapI w2 mb (manyF (withN A x Cl.z)) := MapI.ext hm2 (fun q => by
      rw [← HM.out q]
      by_cases e : q = (hh : Int)
      · rw [if_pos e, if_pos e, if_neg (by have := H1.out; omega)]
      · rw [if_neg e, if_neg e])
    exact ⟨rfl, FIN.out w2 hm4 hu2⟩
end Go.Proofs.Ytechoojcgdjcdaa
