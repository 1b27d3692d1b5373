/-
  The document's nest (haycockref05): Ahead, Min, New. Conditions: those of each lemma.
-/
import Derived.Test.YtighgbdijagolaaGr
import Derived.Test.YtighgbdijagolaaRefN4
set_option linter.unusedVariables false
set_option linter.unusedSimpArgs false
namespace Go.Proofs.Ytighgbdijagolaa
open Go Go.RowKit

def minP (A : NS) (h : Int) (j : Nat) : Option Nat := (List.range j).foldl (minF A h) none
def bestV (o : Option Nat) : Int := match o with | some y => (y : Int) | none => -1
theorem minP_zero (A : NS) (h : Int) : minP A h 0 = none := rfl
theorem minP_succ (A : NS) (h : Int) (j : Nat) : minP A h (j + 1) = minF A h (minP A h j) j := by unfold minP; rw [List.range_succ, List.foldl_append]; rfl
theorem minP_full (A : NS) (h : Int) : minP A h A.cs.length = minN A h := rfl
theorem if_or {α : Type} (p : Prop) [Decidable p] (a b : α) : (if p then a else b) = a ∨ (if p then a else b) = b := by
  by_cases h : p
  · left; rw [if_pos h]
  · right; rw [if_neg h]
theorem minF_or (A : NS) (h : Int) (b : Option Nat) (x : Nat) : minF A h b x = some x ∨ minF A h b x = b := by unfold minF; exact if_or _ _ _
theorem minP_lt (A : NS) (h : Int) : ∀ (j y : Nat), minP A h j = some y → y < j
  | 0, y, hy => by rw [minP_zero] at hy; cases hy
  | j + 1, y, hy => by
    rw [minP_succ] at hy
    have ih := minP_lt A h j
    generalize minP A h j = b at *
    rcases minF_or A h b j with e | e
    · rw [e] at hy; cases hy; omega
    · rw [e] at hy; have := ih y hy; omega
section
variable {w : World} {F : List Nat} {v : Value} {A : NS}
set_option maxHeartbeats 2000000 in
theorem rahead_any (h : RefAt w F v A) (ok : A.Ok) (a b : Int) :
    Calls Try.prog 74 #[v, .int .i64 a, .int .i64 b] w fun e w' => e = .returned (.bool (aheadN A a b)) ∧ Upd [] w w' := by
  obtain ⟨gh, oh, ch, gc, oc, cc, rfl, h⟩ := h
  have k1 := fun W (hW : Upd [] w W) => rinN_any ⟨gh, oh, ch, gc, oc, cc, rfl, h.upd0 hW⟩ ok a
  have k2 := fun W (hW : Upd [] w W) => rinN_any ⟨gh, oh, ch, gc, oc, cc, rfl, h.upd0 hW⟩ ok b
  have h1 := h.hcap
  have h2 := h.ccap
  have h3 := ok.h1
  have h4 := ok.c1
  have hlc := h.lt
  have H := Lib.hid h
  unfold refV at *
  generalize hn : A.cs.length = n at *
  generalize hm : A.hs.length = m at *
  have R : Hid (∀ W, Upd [] (w.alloc (.cells #[.slice (some ⟨gh, oh, none⟩) m ch, .slice (some ⟨gc, oc, none⟩) n cc] 53)) W →
      W.cell? ⟨w.heap.size, 0, none⟩ = some (.slice (some ⟨gh, oh, none⟩) m ch) ∧ W.cell? ⟨w.heap.size, 1, none⟩ = some (.slice (some ⟨gc, oc, none⟩) n cc)) := fun W h =>
    ⟨h.was (by go_simp), h.was (by go_simp)⟩
  have hn' := Lib.hid hn
  have e0 : aheadN A a b = (inN A a && inN A b && decide (lt3 A a.toNat b.toNat)) := rfl
  rw [e0]
  cases e1 : inN A a
  · rw [e1] at k1
    clear h ok hn hm e1 e0 k2
    go_enter Try.func74, Try.ntmps74
    go_wp2_with (((go_at_call 35; (with_reducible refine (k1 _ (by (repeat (first | assumption | exact Upd.refl _ _ | refine Upd.alloc ?_ _ | refine Upd.drew ?_ | refine Upd.drewN ?_ _ | refine Upd.setCell ?_ ?_ _ | focus (left; simp; done) | focus (right; simp; done) | focus (right; simp; omega))))).mono ?_)); rintro e w1 ⟨rfl, hu1⟩; (have v1 : Upd [] w w1 := Upd.trans (by (repeat (first | assumption | exact Upd.refl _ _ | refine Upd.alloc ?_ _ | refine Upd.drew ?_ | refine Upd.drewN ?_ _ | refine Upd.setCell ?_ ?_ _ | focus (left; simp; done) | focus (right; simp; done) | focus (right; simp; omega)))) hu1); obtain ⟨q0, q1⟩ := R.out w1 hu1))
    go_ret
    exact ⟨rfl, by (repeat (first | assumption | exact Upd.refl _ _ | refine Upd.alloc ?_ _ | refine Upd.drew ?_ | refine Upd.drewN ?_ _ | refine Upd.setCell ?_ ?_ _ | focus (left; simp; done) | focus (right; simp; done) | focus (right; simp; omega)))⟩
  · cases e2 : inN A b
    · rw [e1] at k1
      rw [e2] at k2
      clear h ok hn hm e1 e2 e0
      go_enter Try.func74, Try.ntmps74
      go_wp2_with fail
      refine (k1 _ (by (repeat (first | assumption | exact Upd.refl _ _ | refine Upd.alloc ?_ _ | refine Upd.drew ?_ | refine Upd.drewN ?_ _ | refine Upd.setCell ?_ ?_ _ | focus (left; simp; done) | focus (right; simp; done) | focus (right; simp; omega))))).mono ?_
      rintro e w1 ⟨rfl, hu1⟩
      have v1 : Upd [] w w1 := Upd.trans (by (repeat (first | assumption | exact Upd.refl _ _ | refine Upd.alloc ?_ _ | refine Upd.drew ?_ | refine Upd.drewN ?_ _ | refine Upd.setCell ?_ ?_ _ | focus (left; simp; done) | focus (right; simp; done) | focus (right; simp; omega)))) hu1
      obtain ⟨q0, q1⟩ := R.out w1 hu1
      go_wp2_with fail
      refine (k2 _ v1).mono ?_
      rintro e w2 ⟨rfl, hu2⟩
      have v2 : Upd [] w w2 := Upd.trans v1 hu2
      go_wp2
      go_ret
      exact ⟨rfl, v2⟩
    · rw [e1] at k1
      rw [e2] at k2
      have ha := (inN_iff _ _).1 e1
      have hb := (inN_iff _ _).1 e2
      obtain ⟨x, rfl⟩ : ∃ x : Nat, a = x := ⟨a.toNat, by omega⟩
      obtain ⟨y, rfl⟩ : ∃ y : Nat, b = y := ⟨b.toNat, by omega⟩
      have d1 := H.out.c1 x (by omega)
      have d2 := H.out.c2 x (by omega)
      have d3 := H.out.c1 y (by omega)
      have d4 := H.out.c2 y (by omega)
      have hxn : x < n := by omega
      have hyn : y < n := by omega
      have kl := fun W => rless_any (A.c x).k (A.c x).s (A.c y).k (A.c y).s W
      have hr := lt3_less A x y
      simp only [Int.toNat_natCast, Bool.true_and]
      rw [← hr]
      generalize hl : lessE (A.c x).k (A.c x).s (A.c y).k (A.c y).s = le at *
      generalize (A.c x).k = ka at *
      generalize (A.c x).s = sa at *
      generalize (A.c y).k = kb at *
      generalize (A.c y).s = sb at *
      clear h ok hn hm e1 e2 e0 hr hl ha hb
      go_enter Try.func74, Try.ntmps74
      go_wp2_with fail
      refine (k1 _ (by (repeat (first | assumption | exact Upd.refl _ _ | refine Upd.alloc ?_ _ | refine Upd.drew ?_ | refine Upd.drewN ?_ _ | refine Upd.setCell ?_ ?_ _ | focus (left; simp; done) | focus (right; simp; done) | focus (right; simp; omega))))).mono ?_
      rintro e w1 ⟨rfl, hu1⟩
      have v1 : Upd [] w w1 := Upd.trans (by (repeat (first | assumption | exact Upd.refl _ _ | refine Upd.alloc ?_ _ | refine Upd.drew ?_ | refine Upd.drewN ?_ _ | refine Upd.setCell ?_ ?_ _ | focus (left; simp; done) | focus (right; simp; done) | focus (right; simp; omega)))) hu1
      obtain ⟨q0, q1⟩ := R.out w1 hu1
      go_wp2_with fail
      refine (k2 _ v1).mono ?_
      rintro e w2 ⟨rfl, hu2⟩
      have v2 : Upd [] w w2 := Upd.trans v1 hu2
      obtain ⟨p0, p1⟩ := R.out w2 (hu1.trans hu2)
      have g1 := v2.was d1
      have g2 := v2.was d2
      have g3 := v2.was d3
      have g4 := v2.was d4
      have l2 : gc < w2.heap.size := Nat.lt_of_lt_of_le hlc.2 v2.size
      have l3 : w.heap.size < w2.heap.size := World.block_lt_of_cell? w2 _ p0
      clear k2 d1 d2 d3 d4 q0 q1
      go_wp2_with (go_at_call 75; (with_reducible refine (kl _).mono ?_); rintro e w3 ⟨rfl, hu3⟩; (have v3 : Upd [] w w3 := Upd.trans (by (repeat (first | assumption | exact Upd.refl _ _ | refine Upd.alloc ?_ _ | refine Upd.drew ?_ | refine Upd.drewN ?_ _ | refine Upd.setCell ?_ ?_ _ | focus (left; simp; done) | focus (right; simp; done) | focus (right; simp; omega)))) hu3); (have s1 : w3.cell? ⟨w2.heap.size, 0, none⟩ = some (.int .i64 ka) := hu3.was (by go_simp)); (have s2 : w3.cell? ⟨w2.heap.size, 1, none⟩ = some (.int .u64 sa) := hu3.was (by go_simp)); (have s3 : w3.cell? ⟨w2.heap.size + 1, 0, none⟩ = some (.int .i64 kb) := hu3.was (by go_simp)); (have s4 : w3.cell? ⟨w2.heap.size + 1, 1, none⟩ = some (.int .u64 sb) := hu3.was (by go_simp)))
      all_goals
        go_ret
        refine ⟨ret_bool ?_, v3⟩
        clear R H k1 kl
        first
          | (simp [*]; done)
          | simp_all
theorem madeCells3' (n j : Nat) (hj : j < n * 3) : (madeCells (Value.agg #[Value.int .i64 0, .int .i64 0, .int .u64 0]).cells (n * 3)).toList.getD j undef = if j % 3 = 0 then .int .i64 0 else if j % 3 = 1 then .int .i64 0 else .int .u64 0 := by
  show (madeCells #[Value.int .i64 0, .int .i64 0, .int .u64 0] (n * 3)).toList.getD j undef = _
  rw [List.getD_eq_getElem?_getD, List.getElem?_eq_getElem (by simp [size_madeCells]; omega)]
  simp only [Option.getD_some, madeCells, Array.getElem_toList, Array.getElem_map, Array.getElem_range]
  rcases (by omega : j % 3 = 0 ∨ j % 3 = 1 ∨ j % 3 = 2) with e | e | e <;> simp [e]
set_option maxHeartbeats 2000000 in
theorem rnew_any (n : Nat) (w : World) (F : List Nat) (hF : ∀ x, x ∈ F → x < w.heap.size) (hn : n ≤ 65536) :
    Calls Try.prog 24 #[.int .i64 (n : Int)] w fun e w' => ∃ v', e = .returned v' ∧ RefAt w' F v' (NS.new n) ∧ Upd [] w w' := by
  go_enter Try.func24, Try.ntmps24
  go_wp2_with (at_make; refine wpList_make_row rfl _ 51 rfl 81 (.agg #[.int .i64 0, .int .i64 0, .int .u64 0]) 3 24 Try.underlying51 refCellInfo n rfl (by omega) (by unfold maxLen; omega) ?_; intro w2 hr2 hu2; (have p0 : w2.cell? ⟨w.heap.size, 0, none⟩ = some (.slice none 0 0) := hu2.was (by go_simp)); (have p1 : w2.cell? ⟨w.heap.size, 1, none⟩ = some (.slice none 0 0) := hu2.was (by go_simp)); (have p2 : w2.frozen? ⟨w.heap.size, 0, none⟩ = false := hu2.keptF (v := .slice none 0 0) (by go_simp) (by simp) (by go_simp)); (have p3 : w2.frozen? ⟨w.heap.size, 1, none⟩ = false := hu2.keptF (v := .slice none 0 0) (by go_simp) (by simp) (by go_simp)))
  have hsz := hu2.size
  have hlt := hr2.lt
  have hs1 : (NS.new n).cs.length = n := by simp [NS.new]
  have hwb : Upd [] w w2 := Upd.trans (by (repeat (first | assumption | exact Upd.refl _ _ | refine Upd.alloc ?_ _ | refine Upd.drew ?_ | refine Upd.drewN ?_ _ | refine Upd.setCell ?_ ?_ _ | focus (left; simp; done) | focus (right; simp; done) | focus (right; simp; omega)))) hu2
  have hu : Upd [] w ((w2.setCell ⟨w.heap.size, 0, none⟩ (.slice (some ⟨w.heap.size + 1, 0, none⟩) 1 1)).setCell ⟨w.heap.size, 1, none⟩ (.slice (some ⟨w.heap.size + 1 + 1, 0, none⟩) n n)) := by (repeat (first | assumption | exact Upd.refl _ _ | refine Upd.alloc ?_ _ | refine Upd.drew ?_ | refine Upd.drewN ?_ _ | refine Upd.setCell ?_ ?_ _ | focus (left; simp; done) | focus (right; simp; done) | focus (right; simp; omega)))
  have hu3 : Upd [w.heap.size] w2 ((w2.setCell ⟨w.heap.size, 0, none⟩ (.slice (some ⟨w.heap.size + 1, 0, none⟩) 1 1)).setCell ⟨w.heap.size, 1, none⟩ (.slice (some ⟨w.heap.size + 1 + 1, 0, none⟩) n n)) := by (repeat (first | assumption | exact Upd.refl _ _ | refine Upd.alloc ?_ _ | refine Upd.drew ?_ | refine Upd.drewN ?_ _ | refine Upd.setCell ?_ ?_ _ | focus (left; simp; done) | focus (right; simp; done) | focus (right; simp; omega)))
  have hc0 : w2.cell? ⟨w.heap.size + 1, 0, none⟩ = some (.bool false) := hu2.was (by go_simp)
  simp at hsz hlt
  simp only [World.size_alloc] at hr2
  have hrow : ∀ j, j < n * 3 → w2.cell? ⟨w.heap.size + 1 + 1, j, none⟩ = some (if j % 3 = 0 then .int .i64 0 else if j % 3 = 1 then .int .i64 0 else .int .u64 0) := fun j hj => by
    rw [hr2.cell j hj]
    exact congrArg some (madeCells3' n j hj)
  refine bodyPost_ret (v := .agg #[.slice (some ⟨w.heap.size + 1, 0, none⟩) 1 1, .slice (some ⟨w.heap.size + 1 + 1, 0, none⟩) n n]) (by simp [results, Try.results24, go_sem, p0, p1]) rfl ⟨_, rfl, ⟨w.heap.size + 1, 0, 1, w.heap.size + 1 + 1, 0, n, ?_, ?_⟩, hu⟩
  · unfold refV; rw [hs1]; rfl
  · have cw : ∀ j, j < n * 3 → ((w2.setCell ⟨w.heap.size, 0, none⟩ (.slice (some ⟨w.heap.size + 1, 0, none⟩) 1 1)).setCell ⟨w.heap.size, 1, none⟩ (.slice (some ⟨w.heap.size + 1 + 1, 0, none⟩) n n)).cell? ⟨w.heap.size + 1 + 1, j, none⟩ = some (if j % 3 = 0 then .int .i64 0 else if j % 3 = 1 then .int .i64 0 else .int .u64 0) := fun j hj => hu3.kept (hrow j hj) (by first | (simp; done) | (simp; omega))
    refine ⟨⟨Nat.le_refl _, by show (1 : Nat) ≤ _; omega⟩, ⟨by rw [hs1]; exact Nat.le_refl _, by omega⟩, ⟨Nat.lt_of_lt_of_le (by omega) hu3.size, Nat.lt_of_lt_of_le (by omega) hu3.size⟩, ⟨fun m => by have := hF _ m; omega, fun m => by have := hF _ m; omega⟩, fun j hj => ?_, fun x hx => ?_, fun x hx => ?_, fun x hx => ?_⟩
    · have hj0 : j = 0 := by simp [NS.new] at hj; exact hj
      subst hj0
      exact hu3.kept hc0 (by first | (simp; done) | (simp; omega))
    · rw [hs1] at hx; rw [NS.new_c, Nat.zero_add, cw (x * 3) (by omega), if_pos (by omega)]; rfl
    · rw [hs1] at hx; rw [NS.new_c, Nat.zero_add, cw (x * 3 + 1) (by omega), if_neg (by omega), if_pos (by omega)]; rfl
    · rw [hs1] at hx; rw [NS.new_c, Nat.zero_add, cw (x * 3 + 2) (by omega), if_neg (by omega), if_neg (by omega)]; rfl
set_option maxHeartbeats 4000000 in
theorem rmin_any (h : RefAt w F v A) (ok : A.Ok) (hh : Int) :
    Calls Try.prog 52 #[v, .int .i64 hh] w fun e w' => e = .returned (.tuple #[.int .i64 (slotV (minN A hh)), .bool (minN A hh).isSome]) ∧ Upd [] w w' := by
  obtain ⟨gh, oh, ch, gc, oc, cc, rfl, h⟩ := h
  have k1 := fun W (hW : Upd [] w W) (a b : Int) => rahead_any ⟨gh, oh, ch, gc, oc, cc, rfl, h.upd0 hW⟩ ok a b
  have h1 := h.hcap
  have h2 := h.ccap
  have h3 := ok.h1
  have h4 := ok.c1
  have hlc := h.lt
  have H := Lib.hid h
  unfold refV at *
  have HF := Lib.hid (minP_full A hh)
  have HT := Lib.hid (minP_succ A hh)
  have HB := Lib.hid (minP_lt A hh)
  clear h ok
  generalize hn : A.cs.length = n at *
  generalize hm : A.hs.length = m at *
  have HN := Lib.hid hn
  clear hn hm
  go_enter Try.func52, Try.ntmps52
  go_wp2
  go_loopw [6, 12] (fun b i wr => ∃ j : Nat, j ≤ n ∧ i = .int .i64 (j : Int) ∧ b = .int .i64 (bestV (minP A hh j)) ∧ Upd [] w wr ∧ wr.cell? ⟨w.heap.size, 0, none⟩ = some (.slice (some ⟨gh, oh, none⟩) m ch) ∧ wr.cell? ⟨w.heap.size, 1, none⟩ = some (.slice (some ⟨gc, oc, none⟩) n cc)) (fun _ i _ => n - (intOf i).toNat)
  case atStart => exact ⟨0, by omega, rfl, rfl, by (repeat (first | assumption | exact Upd.refl _ _ | refine Upd.alloc ?_ _ | refine Upd.drew ?_ | refine Upd.drewN ?_ _ | refine Upd.setCell ?_ ?_ _ | focus (left; simp; done) | focus (right; simp; done) | focus (right; simp; omega))), by go_simp, by go_simp⟩
  case round =>
    obtain ⟨j, hj, rfl, rfl, hu, b0, b1⟩ := hrel
    by_cases hlt : j < n
    · have hm := H.out.upd0 hu
      have q0 := hm.c0 j (by rw [HN.out]; exact hlt)
      have q1 := hm.c1 j (by rw [HN.out]; exact hlt)
      have q2 := hm.c2 j (by rw [HN.out]; exact hlt)
      have hgc := hm.lt.2
      have hgw := World.block_lt_of_cell? wr _ b0
      have HS : Hid (minP A hh (j + 1) = if decide (0 < hh) && decide ((A.c j).i = hh) && (match minP A hh j with | none => true | some y => aheadN A j y) then some j else minP A hh j) := HT.out j
      have hbj := HB.out j
      clear hm
      generalize minP A hh j = best at *
      generalize (A.c j).i = y at *
      by_cases hc : 0 < hh
      · by_cases hy : y = hh
        · have hy' : (y == hh) = true := by simpa using hy
          have HY := Lib.hid hy
          clear hy
          cases best with
          | none =>
            have hs2 : minP A hh (j + 1) = some j := by rw [HS.out]; simp [hc, HY.out]
            have HS2 := Lib.hid hs2
            clear hs2 HS
            unfold bestV
            go_wp2
            go_roundw
            case rel => exact ⟨j + 1, by omega, by go_num, by first | (rw [HS2.out]; done) | (rw [HS2.out]; rfl), by (repeat (first | assumption | exact Upd.refl _ _ | refine Upd.alloc ?_ _ | refine Upd.drew ?_ | refine Upd.drewN ?_ _ | refine Upd.setCell ?_ ?_ _ | focus (left; simp; done) | focus (right; simp; done) | focus (right; simp; omega))), by go_simp, by go_simp⟩
            case measure => simp [intOf]; omega
          | some z =>
            have hs2 : minP A hh (j + 1) = if aheadN A j z then some j else some z := by rw [HS.out]; simp [hc, HY.out]
            have k2 := k1 _ (show Upd [] w (wr.alloc (.cells #[.int .i64 y, .int .i64 (A.c j).k, .int .u64 (A.c j).s] 81)) by (repeat (first | assumption | exact Upd.refl _ _ | refine Upd.alloc ?_ _ | refine Upd.drew ?_ | refine Upd.drewN ?_ _ | refine Upd.setCell ?_ ?_ _ | focus (left; simp; done) | focus (right; simp; done) | focus (right; simp; omega)))) j z
            have hzj := hbj z rfl
            clear hbj k1
            unfold bestV
            have hz0 : ¬ (z : Int) < 0 := by omega
            cases ha : aheadN A j z
            · rw [ha] at hs2 k2
              have HS2 := Lib.hid hs2
              clear hs2 HS ha
              go_wp2_with (go_at_call 74; (with_reducible refine (k2).mono ?_); rintro e w1 ⟨rfl, hu1⟩; (have v1 : Upd [] w w1 := Upd.trans (by (repeat (first | assumption | exact Upd.refl _ _ | refine Upd.alloc ?_ _ | refine Upd.drew ?_ | refine Upd.drewN ?_ _ | refine Upd.setCell ?_ ?_ _ | focus (left; simp; done) | focus (right; simp; done) | focus (right; simp; omega)))) hu1); (have p0 : w1.cell? ⟨w.heap.size, 0, none⟩ = some (.slice (some ⟨gh, oh, none⟩) m ch) := hu1.was (by go_simp)); (have p1 : w1.cell? ⟨w.heap.size, 1, none⟩ = some (.slice (some ⟨gc, oc, none⟩) n cc) := hu1.was (by go_simp)))
              go_roundw
              case rel => exact ⟨j + 1, by omega, by go_num, by first | (rw [HS2.out]; done) | (rw [HS2.out]; rfl), v1, p0, p1⟩
              case measure => simp [intOf]; omega
            · rw [ha] at hs2 k2
              have HS2 := Lib.hid hs2
              clear hs2 HS ha
              go_wp2_with (go_at_call 74; (with_reducible refine (k2).mono ?_); rintro e w1 ⟨rfl, hu1⟩; (have v1 : Upd [] w w1 := Upd.trans (by (repeat (first | assumption | exact Upd.refl _ _ | refine Upd.alloc ?_ _ | refine Upd.drew ?_ | refine Upd.drewN ?_ _ | refine Upd.setCell ?_ ?_ _ | focus (left; simp; done) | focus (right; simp; done) | focus (right; simp; omega)))) hu1); (have p0 : w1.cell? ⟨w.heap.size, 0, none⟩ = some (.slice (some ⟨gh, oh, none⟩) m ch) := hu1.was (by go_simp)); (have p1 : w1.cell? ⟨w.heap.size, 1, none⟩ = some (.slice (some ⟨gc, oc, none⟩) n cc) := hu1.was (by go_simp)))
              go_roundw
              case rel => exact ⟨j + 1, by omega, by go_num, by first | (rw [HS2.out]; done) | (rw [HS2.out]; rfl), v1, p0, p1⟩
              case measure => simp [intOf]; omega
        · have hy' : (y == hh) = false := by simpa using hy
          have hs2 : minP A hh (j + 1) = best := by rw [HS.out]; simp [hy]
          have HS2 := Lib.hid hs2
          clear hs2 HS hy hbj
          go_wp2
          go_roundw
          case rel => exact ⟨j + 1, by omega, by go_num, by rw [HS2.out], by (repeat (first | assumption | exact Upd.refl _ _ | refine Upd.alloc ?_ _ | refine Upd.drew ?_ | refine Upd.drewN ?_ _ | refine Upd.setCell ?_ ?_ _ | focus (left; simp; done) | focus (right; simp; done) | focus (right; simp; omega))), by go_simp, by go_simp⟩
          case measure => simp [intOf]; omega
      · have hs2 : minP A hh (j + 1) = best := by rw [HS.out]; simp [hc]
        have HS2 := Lib.hid hs2
        clear hs2 HS hbj
        go_wp2
        go_roundw
        case rel => exact ⟨j + 1, by omega, by go_num, by rw [HS2.out], by (repeat (first | assumption | exact Upd.refl _ _ | refine Upd.alloc ?_ _ | refine Upd.drew ?_ | refine Upd.drewN ?_ _ | refine Upd.setCell ?_ ?_ _ | focus (left; simp; done) | focus (right; simp; done) | focus (right; simp; omega))), by go_simp, by go_simp⟩
        case measure => simp [intOf]; omega
    · obtain rfl : j = n := by omega
      rw [HF.out]
      cases hmn : minN A hh with
      | none =>
        have HM := Lib.hid hmn
        clear hmn
        unfold bestV
        go_wp2
        go_ret2
        exact ⟨by rw [HM.out]; rfl, hu⟩
      | some z =>
        have HM := Lib.hid hmn
        clear hmn
        unfold bestV
        have hz0 : ¬ (z : Int) < 0 := by omega
        go_wp2
        go_ret2
        exact ⟨by rw [HM.out]; rfl, hu⟩
end
end Go.Proofs.Ytighgbdijagolaa

set_option linter.unusedVariables false
set_option linter.unusedSimpArgs false
namespace Go.Proofs.Ytighgbdijagolaa
open Go Go.RowKit

/-- A heap comes out, one slot behind the other: what is left, and what came out. -/
def ordS (A : NS) (h : Int) : Nat → NS × List Nat
  | 0 => (A, [])
  | k + 1 => match minN (ordS A h k).1 h with | none => ordS A h k | some m => (dropN (ordS A h k).1 m, (ordS A h k).2 ++ [m])
def ordL (A : NS) (h : Int) : List Nat := (ordS A h (lenN A h)).2
theorem minN_in {A : NS} {h : Int} {m : Nat} (hm : minN A h = some m) : 0 < h ∧ m < A.cs.length ∧ (A.c m).i = h ∧ inN A m = true := by
  by_cases hh : 0 < h
  · have h1 := (minN_some hh).1 hm
    exact ⟨hh, h1.1, h1.2.1, (inN_nat _ _).2 ⟨h1.1, by rw [h1.2.1]; exact hh⟩⟩
  · rw [minN_neg hh] at hm; cases hm
theorem dropN_min {A : NS} {h : Int} {m : Nat} (hm : minN A h = some m) : dropN A (m : Int) = withN A m Cl.z := by
  unfold dropN; rw [if_pos (minN_in hm).2.2.2]; simp
theorem lenN_drop_min {A : NS} {h : Int} {m : Nat} (hm : minN A h = some m) : lenN (dropN A m) h + 1 = lenN A h := by
  obtain ⟨h0, h1, h2, _⟩ := minN_in hm
  rw [dropN_min hm]
  have := lenN_with A m Cl.z h h1
  rw [if_pos ⟨h2, h0⟩, if_neg (show ¬ (Cl.z.i = h ∧ 0 < h) from fun e => by have : (0 : Int) = h := e.1; omega)] at this
  omega
theorem lenN_drop_other {A : NS} {h g : Int} {m : Nat} (hm : minN A h = some m) (hg : g ≠ h) : lenN (dropN A m) g = lenN A g := by
  obtain ⟨h0, h1, h2, _⟩ := minN_in hm
  rw [dropN_min hm]
  have := lenN_with A m Cl.z g h1
  rw [if_neg (fun e => hg (by rw [← e.1, h2])), if_neg (show ¬ (Cl.z.i = g ∧ 0 < g) from fun e => by have : (0 : Int) = g := e.1; omega)] at this
  omega
theorem minN_none_iff {A : NS} {h : Int} : minN A h = none ↔ lenN A h = 0 := by
  by_cases hh : 0 < h
  · exact minN_none hh
  · rw [minN_neg hh, lenN_neg hh]; simp
theorem dropN_len (A : NS) (x : Int) : (dropN A x).cs.length = A.cs.length := by unfold dropN; split; exact len_with _ _ _; rfl
theorem dropN_hs (A : NS) (x : Int) : (dropN A x).hs = A.hs := by unfold dropN; split <;> rfl
theorem ordS_ok {A : NS} (hA : A.Ok) (h : Int) : ∀ k, (ordS A h k).1.Ok ∧ (ordS A h k).1.cs.length = A.cs.length ∧ (ordS A h k).1.hs = A.hs
  | 0 => ⟨hA, rfl, rfl⟩
  | k + 1 => by
    have ih := ordS_ok hA h k
    unfold ordS
    cases hm : minN (ordS A h k).1 h with
    | none => exact ih
    | some m => exact ⟨dropN_ok ih.1 _, by simp only; rw [dropN_len]; exact ih.2.1, by simp only; rw [dropN_hs]; exact ih.2.2⟩
theorem ordS_len {A : NS} (h : Int) : ∀ k, k ≤ lenN A h → (ordS A h k).2.length = k ∧ lenN (ordS A h k).1 h + k = lenN A h
  | 0, _ => ⟨rfl, rfl⟩
  | k + 1, hk => by
    have ih := ordS_len (A := A) h k (by omega)
    unfold ordS
    cases hm : minN (ordS A h k).1 h with
    | none => have := minN_none_iff.1 hm; omega
    | some m =>
      have := lenN_drop_min hm
      refine ⟨by simp only [List.length_append, List.length_cons, List.length_nil]; omega, by simp only; omega⟩
theorem ordS_pre {A : NS} (h : Int) (k : Nat) : ∀ j, ∃ t, (ordS A h (k + j)).2 = (ordS A h k).2 ++ t
  | 0 => ⟨[], by simp⟩
  | j + 1 => by
    obtain ⟨t, ht⟩ := ordS_pre h k j
    rw [show k + (j + 1) = (k + j) + 1 by omega]
    show ∃ t, (match minN (ordS A h (k + j)).1 h with | none => ordS A h (k + j) | some m => (dropN (ordS A h (k + j)).1 m, (ordS A h (k + j)).2 ++ [m])).2 = _
    cases hm : minN (ordS A h (k + j)).1 h with
    | none => exact ⟨t, ht⟩
    | some m => exact ⟨t ++ [m], by simp only; rw [ht, List.append_assoc]⟩
/-- What comes out next. -/
theorem ordL_get {A : NS} {h : Int} {k : Nat} (hk : k < lenN A h) : ∃ m, minN (ordS A h k).1 h = some m ∧ (ordL A h)[k]? = some m ∧ (ordS A h (k + 1)).1 = dropN (ordS A h k).1 m := by
  have h1 := ordS_len (A := A) h k (by omega)
  cases hm : minN (ordS A h k).1 h with
  | none => have := minN_none_iff.1 hm; omega
  | some m =>
    have e : ordS A h (k + 1) = (dropN (ordS A h k).1 m, (ordS A h k).2 ++ [m]) := by
      show (match minN (ordS A h k).1 h with | none => ordS A h k | some m => (dropN (ordS A h k).1 m, (ordS A h k).2 ++ [m])) = _
      rw [hm]
    refine ⟨m, rfl, ?_, by rw [e]⟩
    obtain ⟨t, ht⟩ := ordS_pre (A := A) h (k + 1) (lenN A h - (k + 1))
    rw [show k + 1 + (lenN A h - (k + 1)) = lenN A h by omega] at ht
    unfold ordL
    rw [ht, e]
    simp only
    rw [List.getElem?_append_left (by simp; omega), List.getElem?_append_right (by omega)]
    simp [h1.1]
theorem ordL_len (A : NS) (h : Int) : (ordL A h).length = lenN A h := (ordS_len h _ (Nat.le_refl _)).1
def lenOf : Value → Nat | .slice _ l _ => l | _ => 0
def natsZ (l : List Nat) : List Int := l.map (fun (x : Nat) => (x : Int))
section
variable {w : World} {F : List Nat} {v : Value} {A : NS}
set_option maxHeartbeats 8000000 in
theorem rorder_any (h : RefAt w F v A) (ok : A.Ok) (hF : ∀ x, x ∈ F → x < w.heap.size) (hh : Int) :
    Calls Try.prog 78 #[v, .int .i64 hh] w fun e w' => ∃ v', e = .returned v' ∧ SlI w' F v' (natsZ (ordL A hh)) ∧ Upd [] w w' := by
  obtain ⟨gh, oh, ch, gc, oc, cc, rfl, h⟩ := h
  have hlc := h.lt
  have H := Lib.hid ((h.add (b := w.heap.size + 1) (by omega) (by omega)).add (b := w.heap.size) (by omega) (by omega))
  have HF := Lib.hid hF
  have OK := Lib.hid (ordS_ok ok hh)
  have OL := Lib.hid (ordS_len (A := A) hh)
  have h1 := h.hcap
  have h2 := h.ccap
  have h3 := ok.h1
  have h4 := ok.c1
  have hlen := lenN_le ok hh
  clear h hF ok
  unfold refV
  go_enter Try.func78, Try.ntmps78
  go_wp2
  go_loopw [5] (fun v wr => ∃ (k : Nat) (gh oh ch gc oc cc : Nat), k ≤ lenN A hh ∧ wr.ownsRow (w.heap.size + 1) 3 1 v k (intsZ (natsZ (ordS A hh k).2)) ∧ RefM wr (w.heap.size :: (v.ownBlock.toList ++ F)) gh oh ch gc oc cc (ordS A hh k).1 ∧ Upd [] w wr ∧
      wr.cell? ⟨w.heap.size, 0, none⟩ = some (.slice (some ⟨gh, oh, none⟩) (ordS A hh k).1.hs.length ch) ∧ wr.cell? ⟨w.heap.size, 1, none⟩ = some (.slice (some ⟨gc, oc, none⟩) (ordS A hh k).1.cs.length cc) ∧
      wr.frozen? ⟨w.heap.size, 0, none⟩ = false ∧ wr.frozen? ⟨w.heap.size, 1, none⟩ = false) (fun v _ => lenN A hh - lenOf v)
  case atStart =>
    refine ⟨0, gh, oh, ch, gc, oc, cc, by omega, ?_, H.out.upd0 (by (repeat (first | assumption | exact Upd.refl _ _ | refine Upd.alloc ?_ _ | refine Upd.drew ?_ | refine Upd.drewN ?_ _ | refine Upd.setCell ?_ ?_ _ | focus (left; simp; done) | focus (right; simp; done) | focus (right; simp; omega)))), by (repeat (first | assumption | exact Upd.refl _ _ | refine Upd.alloc ?_ _ | refine Upd.drew ?_ | refine Upd.drewN ?_ _ | refine Upd.setCell ?_ ?_ _ | focus (left; simp; done) | focus (right; simp; done) | focus (right; simp; omega))), by go_simp; rfl, by go_simp; rfl, by go_simp, by go_simp⟩
    exact own_lit_at _ _ (by simp) [] 3 (w.heap.size + 1) 1 0 rfl (by simp) (by unfold maxLen; omega)
  case round =>
    obtain ⟨k, gh, oh, ch, gc, oc, cc, hk, ho, hM, hu, b0, b1, b2, b3⟩ := hrel
    obtain ⟨okB, hcB, hhB⟩ := OK.out k
    have hlk := OL.out k hk
    have e1 : ordS A hh (k + 1) = (match minN (ordS A hh k).1 hh with | none => ordS A hh k | some m => (dropN (ordS A hh k).1 m, (ordS A hh k).2 ++ [m])) := rfl
    have hbw := World.block_lt_of_cell? wr _ b0
    obtain ⟨a5, c5, rfl, hc5⟩ := own_slice ho
    have hob : ∀ g, (Value.slice a5 k c5).ownBlock = some g → w.heap.size + 1 ≤ g := fun g hg => (ho.lt g hg).1
    have k1 := rmin_any ⟨gh, oh, ch, gc, oc, cc, rfl, hM⟩ okB hh
    have EQ := Lib.hid e1
    have EK := Lib.hid hlk
    have EN := Lib.hid (And.intro hcB hhB)
    have HO := Lib.hid ho
    have OKB := Lib.hid okB
    have HM := Lib.hid hM
    clear e1 hlk hcB hhB ho okB hM
    generalize hB : (ordS A hh k).1 = B at *
    generalize hL : (ordS A hh k).2 = L at *
    have HB := Lib.hid (And.intro hB hL)
    clear hB hL
    cases hmn : minN B hh with
    | none =>
      have h0 := minN_none_iff.1 hmn
      rw [hmn] at k1
      have HMN := Lib.hid hmn
      have hkl : k = lenN A hh := by have := EK.out.2; rw [h0] at this; omega
      have HKL := Lib.hid hkl
      clear hmn h0 hkl
      unfold refV at k1
      generalize B.hs.length = m at *
      generalize B.cs.length = n at *
      go_wp2_with (go_at_call 52; (with_reducible refine (k1).mono ?_); rintro e w1 ⟨rfl, hu1⟩)
      go_ret
      have hL : natsZ (ordL A hh) = natsZ L := by unfold ordL; rw [← HKL.out, HB.out.2]
      have hll : (natsZ L).length = k := by unfold natsZ; rw [List.length_map]; exact EK.out.1
      refine ⟨_, rfl, ?_, hu.trans hu1⟩
      rw [hL]
      have ho := owns_upd HO.out hu1 (by simp)
      exact SlI.of_own (base := w.heap.size + 1) (by rw [hll]; exact ho) (fun g hg => by have := HF.out g hg; omega)
    | some m =>
      have hmi := minN_in hmn
      rw [hmn] at k1
      have hdrop := lenN_drop_min hmn
      have hme : (match (some m : Option Nat) with | none => ordS A hh k | some m => (dropN B m, L ++ [m])) = (dropN B m, L ++ [m]) := rfl
      have EQ2 : Hid (ordS A hh (k + 1) = (dropN B m, L ++ [m])) := by have := EQ.out; rw [hmn] at this; exact this
      have hmn2 := hmi.2.2.2
      have hk1 : k + 1 ≤ lenN A hh := by have := EK.out.2; omega
      have HMN := Lib.hid hmn
      have hdB : (dropN B (m : Int)).hs.length = B.hs.length ∧ (dropN B (m : Int)).cs.length = B.cs.length := ⟨by rw [dropN_hs], dropN_len _ _⟩
      have HDB := Lib.hid hdB
      clear hmn hme EQ hdrop hdB hmi
      unfold refV at k1
      simp only [slotV, Option.isSome_some] at k1
      generalize hbm : B.hs.length = bm at *
      generalize hbn : B.cs.length = bn at *
      have HBM := Lib.hid (And.intro hbm (And.intro hbn hmn2))
      clear hbm hbn hmn2
      go_wp2_with (first
        | (go_at_call 52; (with_reducible refine (k1).mono ?_); rintro e w1 ⟨rfl, hu1⟩; (have b1' := hu1.was b1); (have b0' := hu1.was b0); (have b2' := hu1.keptF b0 (by simp) b2); (have b3' := hu1.keptF b1 (by simp) b3); (have ho1 := owns_upd HO.out hu1 (by simp)); (have l1 : w.heap.size < w1.heap.size := Nat.lt_of_lt_of_le hbw hu1.size))
        | ((at_builtin; refine wpList_append_sep rfl _ _ 63 rfl (w.heap.size + 1) 3 (.int .i64 0) 1 8 Try.underlying63 intInfo rfl (by decide) _ _ _ rfl (ho1) [.int .i64 (m : Int)] rfl (by simp [Value.oneCell']) (by first | rfl | (rw [World.size_alloc]; rfl)) (by unfold maxLen; omega) (by omega) ((by omega)) ?_; intro v2 w2 ho2 hu2 hsep2); obtain ⟨a6, c6, rfl, hc6⟩ := own_slice ho2; (have hnb : w.heap.size ∉ (Value.slice a5 k c5).ownBlock.toList := fun hm => by (have := hob w.heap.size (by simpa using hm); omega)); (have hu2' : Upd (Value.slice a5 k c5).ownBlock.toList w1 w2 := hu2); (have d0 := hu2'.kept b0' hnb); (have d1 := hu2'.kept b1' hnb); (have d2 := hu2'.keptF b0' hnb b2'); (have d3 := hu2'.keptF b1' hnb b3'))
        | fail)
      have hu2n : Upd (w.heap.size :: ((Value.slice a5 k c5).ownBlock.toList ++ F)) w1 w2 := hu2'.mono (fun x hx => by simp at hx ⊢; exact Or.inr (Or.inl hx))
      have hM2 : RefM w2 (w.heap.size :: ((Value.slice a6 (k + 1) c6).ownBlock.toList ++ F)) gh oh ch gc oc cc B := (HM.out.upd0 hu1).fresh hu2n (fun x hx => by
        rcases List.mem_cons.1 hx with h | h
        · exact Or.inl (by rw [h]; simp)
        · rcases List.mem_append.1 h with h | h
          · rcases hsep2 with e | e
            · refine Or.inl (List.mem_cons_of_mem _ (List.mem_append_left _ ?_))
              have e' : (Value.slice a6 (k + 1) c6).ownBlock = (Value.slice a5 k c5).ownBlock := e
              rw [← e']; exact h
            · exact Or.inr (Nat.le_of_lt (e x (by simpa using h)))
          · exact Or.inl (List.mem_cons_of_mem _ (List.mem_append_right _ h)))
      have hw2 : Upd [] w w2 := (hu.trans hu1).joined hu2' (fun x hx => Or.inr (by have := hob x (by simpa using hx); omega))
      have hF2 : ∀ x, x ∈ w.heap.size :: ((Value.slice a6 (k + 1) c6).ownBlock.toList ++ F) → x < w2.heap.size := fun x hx => by
        rcases List.mem_cons.1 hx with h | h
        · rw [h]; exact Nat.lt_of_lt_of_le l1 hu2'.size
        · rcases List.mem_append.1 h with h | h
          · exact (ho2.lt x (by simpa using h)).2
          · exact Nat.lt_of_lt_of_le (HF.out x h) hw2.size
      have kd := rdrop_any ⟨gh, oh, ch, gc, oc, cc, rfl, hM2⟩ OKB.out hF2 (m : Int)
      unfold refV at kd
      rw [HBM.out.1, HBM.out.2.1] at kd
      refine kd.mono ?_
      rintro e w3 ⟨v', rfl, ⟨gh', oh', ch', gc', oc', cc', rfl, hM3⟩, hu3⟩
      unfold refV
      rw [HDB.out.1, HDB.out.2]
      have t0 := hu3.was d0
      have t1 := hu3.was d1
      have t2 := hu3.keptF d0 (by simp) d2
      have t3 := hu3.keptF d1 (by simp) d3
      have HM3 := Lib.hid hM3
      have HO2 := Lib.hid ho2
      have hw3 := hw2.trans hu3
      clear kd hM3 ho2 hM2 hu2n hF2 hu2 hsep2 k1 d0 d1 d2 d3 b0 b1 b2 b3 b0' b1' b2' b3' ho1
      go_wp2
      have hub : Upd [w.heap.size] w3 ((w3.setCell ⟨w.heap.size, 0, none⟩ (.slice (some ⟨gh', oh', none⟩) bm ch')).setCell ⟨w.heap.size, 1, none⟩ (.slice (some ⟨gc', oc', none⟩) bn cc')) := by (repeat (first | assumption | exact Upd.refl _ _ | refine Upd.alloc ?_ _ | refine Upd.drew ?_ | refine Upd.drewN ?_ _ | refine Upd.setCell ?_ ?_ _ | focus (left; simp; done) | focus (right; simp; done) | focus (right; simp; omega)))
      have hln : intsZ (natsZ (L ++ [m])) = intsZ (natsZ L) ++ [.int .i64 (m : Int)] := by unfold intsZ natsZ; simp
      refine ⟨⟨k + 1, gh', oh', ch', gc', oc', cc', hk1, ?_, ?_, hw3.joined hub (fun x hx => Or.inr (by simp at hx; omega)), ?_, ?_, ?_, ?_⟩, by show lenN A hh - (k + 1) < lenN A hh - k; omega⟩
      · rw [EQ2.out]
        simp only
        rw [hln]
        exact owns_upd (owns_upd HO2.out hu3 (by simp)) hub (fun x hx => by have := (HO2.out.lt x hx).1; simp; omega)
      · rw [EQ2.out]
        exact HM3.out.upd (hub.mono (by simp))
      · rw [EQ2.out]
        simp only
        rw [HDB.out.1]
        go_simp
      · rw [EQ2.out]
        simp only
        rw [HDB.out.2]
        go_simp
      · go_simp
      · go_simp
end
end Go.Proofs.Ytighgbdijagolaa
