/-
  The document's nest (haycockref05): Ahead, Min, New. Conditions: those of each lemma.
-/
import Derived.Test.YtechoojcgdjcdaaRefN2
set_option linter.unusedVariables false
set_option linter.unusedSimpArgs false
namespace Go.Proofs.Ytechoojcgdjcdaa
open Go Go.RowKit

def minP (A : NS) (h : Int) (j : Nat) : Option Nat := (List.range j).foldl (minF A h) none
def bestV (o : Option Nat) : Int := match o with | some y => (y : Int) | none => -1
theorem minP_zero (A : NS) (h : Int) : minP A h 0 = none := rfl
theorem minP_succ (A : NS) (h : Int) (j : Nat) : minP A h (j + 1) = minF A h (minP A h j) j := by unfold minP; rw [List.range_succ, List.foldl_append]; rfl
theorem minP_full (A : NS) (h : Int) : minP A h A.cs.length = minN A h := rfl
theorem if_or {α : Type} (p : Prop) [Decidable p] (a b : α) : (if p then a else b) = a ∨ (if p then a else b) = b := by
  by_cases h : p
  · left; rw [if_pos h]
  · right; rw [if_neg h]
theorem minF_or (A : NS) (h : Int) (b : Option Nat) (x : Nat) : minF A h b x = some x ∨ minF A h b x = b := by unfold minF; exact if_or _ _ _
theorem minP_lt (A : NS) (h : Int) : ∀ (j y : Nat), minP A h j = some y → y < j
  | 0, y, hy => by rw [minP_zero] at hy; cases hy
  | j + 1, y, hy => by
    rw [minP_succ] at hy
    have ih := minP_lt A h j
    generalize minP A h j = b at *
    rcases minF_or A h b j with e | e
    · rw [e] at hy; cases hy; omega
    · rw [e] at hy; have := ih y hy; omega
section
variable {w : World} {F : List Nat} {v : Value} {A : NS}
set_option maxHeartbeats 2000000 in
theorem rahead_any (h : RefAt w F v A) (ok : A.Ok) (a b : Int) :
    Calls Try.prog 32 #[v, .int .i64 a, .int .i64 b] w fun e w' => e = .returned (.bool (aheadN A a b)) ∧ Upd [] w w' := by
  obtain ⟨gh, oh, ch, gc, oc, cc, rfl, h⟩ := h
  have k1 := fun W (hW : Upd [] w W) => rinN_any ⟨gh, oh, ch, gc, oc, cc, rfl, h.upd0 hW⟩ ok a
  have k2 := fun W (hW : Upd [] w W) => rinN_any ⟨gh, oh, ch, gc, oc, cc, rfl, h.upd0 hW⟩ ok b
  have h1 := h.hcap
  have h2 := h.ccap
  have h3 := ok.h1
  have h4 := ok.c1
  have hlc := h.lt
  have H := Lib.hid h
  unfold refV at *
  generalize hn : A.cs.length = n at *
  generalize hm : A.hs.length = m at *
  have R : Hid (∀ W, Upd [] (w.alloc (.cells #[.slice (some ⟨gh, oh, none⟩) m ch, .slice (some ⟨gc, oc, none⟩) n cc] 55)) W →
      W.cell? ⟨w.heap.size, 0, none⟩ = some (.slice (some ⟨gh, oh, none⟩) m ch) ∧ W.cell? ⟨w.heap.size, 1, none⟩ = some (.slice (some ⟨gc, oc, none⟩) n cc)) := fun W h =>
    ⟨h.was (by go_simp), h.was (by go_simp)⟩
  have hn' := Lib.hid hn
  have e0 : aheadN A a b = (inN A a && inN A b && decide (lt3 A a.toNat b.toNat)) := rfl
  rw [e0]
  cases e1 : inN A a
  · rw [e1] at k1
    clear h ok hn hm e1 e0 k2
    go_enter Try.func32, Try.ntmps32
    go_wp2_with (((go_at_call 31; (with_reducible refine (k1 _ (by (repeat (first | assumption | exact Upd.refl _ _ | refine Upd.alloc ?_ _ | refine Upd.drew ?_ | refine Upd.drewN ?_ _ | refine Upd.setCell ?_ ?_ _ | focus (left; simp; done) | focus (right; simp; done) | focus (right; simp; omega))))).mono ?_)); rintro e w1 ⟨rfl, hu1⟩; (have v1 : Upd [] w w1 := Upd.trans (by (repeat (first | assumption | exact Upd.refl _ _ | refine Upd.alloc ?_ _ | refine Upd.drew ?_ | refine Upd.drewN ?_ _ | refine Upd.setCell ?_ ?_ _ | focus (left; simp; done) | focus (right; simp; done) | focus (right; simp; omega)))) hu1); obtain ⟨q0, q1⟩ := R.out w1 hu1))
    go_ret
    exact ⟨rfl, by (repeat (first | assumption | exact Upd.refl _ _ | refine Upd.alloc ?_ _ | refine Upd.drew ?_ | refine Upd.drewN ?_ _ | refine Upd.setCell ?_ ?_ _ | focus (left; simp; done) | focus (right; simp; done) | focus (right; simp; omega)))⟩
  · cases e2 : inN A b
    · rw [e1] at k1
      rw [e2] at k2
      clear h ok hn hm e1 e2 e0
      go_enter Try.func32, Try.ntmps32
      go_wp2_with fail
      refine (k1 _ (by (repeat (first | assumption | exact Upd.refl _ _ | refine Upd.alloc ?_ _ | refine Upd.drew ?_ | refine Upd.drewN ?_ _ | refine Upd.setCell ?_ ?_ _ | focus (left; simp; done) | focus (right; simp; done) | focus (right; simp; omega))))).mono ?_
      rintro e w1 ⟨rfl, hu1⟩
      have v1 : Upd [] w w1 := Upd.trans (by (repeat (first | assumption | exact Upd.refl _ _ | refine Upd.alloc ?_ _ | refine Upd.drew ?_ | refine Upd.drewN ?_ _ | refine Upd.setCell ?_ ?_ _ | focus (left; simp; done) | focus (right; simp; done) | focus (right; simp; omega)))) hu1
      obtain ⟨q0, q1⟩ := R.out w1 hu1
      go_wp2_with fail
      refine (k2 _ v1).mono ?_
      rintro e w2 ⟨rfl, hu2⟩
      have v2 : Upd [] w w2 := Upd.trans v1 hu2
      go_wp2
      go_ret
      exact ⟨rfl, v2⟩
    · rw [e1] at k1
      rw [e2] at k2
      have ha := (inN_iff _ _).1 e1
      have hb := (inN_iff _ _).1 e2
      obtain ⟨x, rfl⟩ : ∃ x : Nat, a = x := ⟨a.toNat, by omega⟩
      obtain ⟨y, rfl⟩ : ∃ y : Nat, b = y := ⟨b.toNat, by omega⟩
      have d1 := H.out.c1 x (by omega)
      have d2 := H.out.c2 x (by omega)
      have d3 := H.out.c1 y (by omega)
      have d4 := H.out.c2 y (by omega)
      have hxn : x < n := by omega
      have hyn : y < n := by omega
      have kl := fun W => rless_any (A.c x).k (A.c x).s (A.c y).k (A.c y).s W
      have hr := lt3_less A x y
      simp only [Int.toNat_natCast, Bool.true_and]
      rw [← hr]
      generalize hl : lessE (A.c x).k (A.c x).s (A.c y).k (A.c y).s = le at *
      generalize (A.c x).k = ka at *
      generalize (A.c x).s = sa at *
      generalize (A.c y).k = kb at *
      generalize (A.c y).s = sb at *
      clear h ok hn hm e1 e2 e0 hr hl ha hb
      go_enter Try.func32, Try.ntmps32
      go_wp2_with fail
      refine (k1 _ (by (repeat (first | assumption | exact Upd.refl _ _ | refine Upd.alloc ?_ _ | refine Upd.drew ?_ | refine Upd.drewN ?_ _ | refine Upd.setCell ?_ ?_ _ | focus (left; simp; done) | focus (right; simp; done) | focus (right; simp; omega))))).mono ?_
      rintro e w1 ⟨rfl, hu1⟩
      have v1 : Upd [] w w1 := Upd.trans (by (repeat (first | assumption | exact Upd.refl _ _ | refine Upd.alloc ?_ _ | refine Upd.drew ?_ | refine Upd.drewN ?_ _ | refine Upd.setCell ?_ ?_ _ | focus (left; simp; done) | focus (right; simp; done) | focus (right; simp; omega)))) hu1
      obtain ⟨q0, q1⟩ := R.out w1 hu1
      go_wp2_with fail
      refine (k2 _ v1).mono ?_
      rintro e w2 ⟨rfl, hu2⟩
      have v2 : Upd [] w w2 := Upd.trans v1 hu2
      obtain ⟨p0, p1⟩ := R.out w2 (hu1.trans hu2)
      have g1 := v2.was d1
      have g2 := v2.was d2
      have g3 := v2.was d3
      have g4 := v2.was d4
      have l2 : gc < w2.heap.size := Nat.lt_of_lt_of_le hlc.2 v2.size
      have l3 : w.heap.size < w2.heap.size := World.block_lt_of_cell? w2 _ p0
      clear k2 d1 d2 d3 d4 q0 q1
      go_wp2_with (go_at_call 55; (with_reducible refine (kl _).mono ?_); rintro e w3 ⟨rfl, hu3⟩; (have v3 : Upd [] w w3 := Upd.trans (by (repeat (first | assumption | exact Upd.refl _ _ | refine Upd.alloc ?_ _ | refine Upd.drew ?_ | refine Upd.drewN ?_ _ | refine Upd.setCell ?_ ?_ _ | focus (left; simp; done) | focus (right; simp; done) | focus (right; simp; omega)))) hu3); (have s1 : w3.cell? ⟨w2.heap.size, 0, none⟩ = some (.int .i64 ka) := hu3.was (by go_simp)); (have s2 : w3.cell? ⟨w2.heap.size, 1, none⟩ = some (.int .u64 sa) := hu3.was (by go_simp)); (have s3 : w3.cell? ⟨w2.heap.size + 1, 0, none⟩ = some (.int .i64 kb) := hu3.was (by go_simp)); (have s4 : w3.cell? ⟨w2.heap.size + 1, 1, none⟩ = some (.int .u64 sb) := hu3.was (by go_simp)))
      all_goals
        go_ret
        refine ⟨ret_bool ?_, v3⟩
        clear R H k1 kl
        first
          | (simp [*]; done)
          | simp_all
theorem madeCells3' (n j : Nat) (hj : j < n * 3) : (madeCells (Value.agg #[Value.int .i64 0, .int .i64 0, .int .u64 0]).cells (n * 3)).toList.getD j undef = if j % 3 = 0 then .int .i64 0 else if j % 3 = 1 then .int .i64 0 else .int .u64 0 := by
  show (madeCells #[Value.int .i64 0, .int .i64 0, .int .u64 0] (n * 3)).toList.getD j undef = _
  rw [List.getD_eq_getElem?_getD, List.getElem?_eq_getElem (by simp [size_madeCells]; omega)]
  simp only [Option.getD_some, madeCells, Array.getElem_toList, Array.getElem_map, Array.getElem_range]
  rcases (by omega : j % 3 = 0 ∨ j % 3 = 1 ∨ j % 3 = 2) with e | e | e <;> simp [e]
set_option maxHeartbeats 2000000 in
theorem rnew_any (n : Nat) (w : World) (F : List Nat) (hF : ∀ x, x ∈ F → x < w.heap.size) (hn : n ≤ 65536) :
    Calls Try.prog 24 #[.int .i64 (n : Int)] w fun e w' => ∃ v', e = .returned v' ∧ RefAt w' F v' (NS.new n) ∧ Upd [] w w' := by
  go_enter Try.func24, Try.ntmps24
  go_wp2_with (at_make; refine wpList_make_row rfl _ 53 rfl 102 (.agg #[.int .i64 0, .int .i64 0, .int .u64 0]) 3 24 Try.underlying53 refCellInfo n rfl (by omega) (by unfold maxLen; omega) ?_; intro w2 hr2 hu2; (have p0 : w2.cell? ⟨w.heap.size, 0, none⟩ = some (.slice none 0 0) := hu2.was (by go_simp)); (have p1 : w2.cell? ⟨w.heap.size, 1, none⟩ = some (.slice none 0 0) := hu2.was (by go_simp)); (have p2 : w2.frozen? ⟨w.heap.size, 0, none⟩ = false := hu2.keptF (v := .slice none 0 0) (by go_simp) (by simp) (by go_simp)); (have p3 : w2.frozen? ⟨w.heap.size, 1, none⟩ = false := hu2.keptF (v := .slice none 0 0) (by go_simp) (by simp) (by go_simp)))
  have hsz := hu2.size
  have hlt := hr2.lt
  have hs1 : (NS.new n).cs.length = n := by simp [NS.new]
  have hwb : Upd [] w w2 := Upd.trans (by (repeat (first | assumption | exact Upd.refl _ _ | refine Upd.alloc ?_ _ | refine Upd.drew ?_ | refine Upd.drewN ?_ _ | refine Upd.setCell ?_ ?_ _ | focus (left; simp; done) | focus (right; simp; done) | focus (right; simp; omega)))) hu2
  have hu : Upd [] w ((w2.setCell ⟨w.heap.size, 0, none⟩ (.slice (some ⟨w.heap.size + 1, 0, none⟩) 1 1)).setCell ⟨w.heap.size, 1, none⟩ (.slice (some ⟨w.heap.size + 1 + 1, 0, none⟩) n n)) := by (repeat (first | assumption | exact Upd.refl _ _ | refine Upd.alloc ?_ _ | refine Upd.drew ?_ | refine Upd.drewN ?_ _ | refine Upd.setCell ?_ ?_ _ | focus (left; simp; done) | focus (right; simp; done) | focus (right; simp; omega)))
  have hu3 : Upd [w.heap.size] w2 ((w2.setCell ⟨w.heap.size, 0, none⟩ (.slice (some ⟨w.heap.size + 1, 0, none⟩) 1 1)).setCell ⟨w.heap.size, 1, none⟩ (.slice (some ⟨w.heap.size + 1 + 1, 0, none⟩) n n)) := by (repeat (first | assumption | exact Upd.refl _ _ | refine Upd.alloc ?_ _ | refine Upd.drew ?_ | refine Upd.drewN ?_ _ | refine Upd.setCell ?_ ?_ _ | focus (left; simp; done) | focus (right; simp; done) | focus (right; simp; omega)))
  have hc0 : w2.cell? ⟨w.heap.size + 1, 0, none⟩ = some (.bool false) := hu2.was (by go_simp)
  simp at hsz hlt
  simp only [World.size_alloc] at hr2
  have hrow : ∀ j, j < n * 3 → w2.cell? ⟨w.heap.size + 1 + 1, j, none⟩ = some (if j % 3 = 0 then .int .i64 0 else if j % 3 = 1 then .int .i64 0 else .int .u64 0) := fun j hj => by
    rw [hr2.cell j hj]
    exact congrArg some (madeCells3' n j hj)
  refine bodyPost_ret (v := .agg #[.slice (some ⟨w.heap.size + 1, 0, none⟩) 1 1, .slice (some ⟨w.heap.size + 1 + 1, 0, none⟩) n n]) (by simp [results, Try.results24, go_sem, p0, p1]) rfl ⟨_, rfl, ⟨w.heap.size + 1, 0, 1, w.heap.size + 1 + 1, 0, n, ?_, ?_⟩, hu⟩
  · unfold refV; rw [hs1]; rfl
  · have cw : ∀ j, j < n * 3 → ((w2.setCell ⟨w.heap.size, 0, none⟩ (.slice (some ⟨w.heap.size + 1, 0, none⟩) 1 1)).setCell ⟨w.heap.size, 1, none⟩ (.slice (some ⟨w.heap.size + 1 + 1, 0, none⟩) n n)).cell? ⟨w.heap.size + 1 + 1, j, none⟩ = some (if j % 3 = 0 then .int .i64 0 else if j % 3 = 1 then .int .i64 0 else .int .u64 0) := fun j hj => hu3.kept (hrow j hj) (by first | (simp; done) | (simp; omega))
    refine ⟨⟨Nat.le_refl _, by show (1 : Nat) ≤ _; omega⟩, ⟨by rw [hs1]; exact Nat.le_refl _, by omega⟩, ⟨Nat.lt_of_lt_of_le (by omega) hu3.size, Nat.lt_of_lt_of_le (by omega) hu3.size⟩, ⟨fun m => by have := hF _ m; omega, fun m => by have := hF _ m; omega⟩, fun j hj => ?_, fun x hx => ?_, fun x hx => ?_, fun x hx => ?_⟩
    · have hj0 : j = 0 := by simp [NS.new] at hj; exact hj
      subst hj0
      exact hu3.kept hc0 (by first | (simp; done) | (simp; omega))
    · rw [hs1] at hx; rw [NS.new_c, Nat.zero_add, cw (x * 3) (by omega), if_pos (by omega)]; rfl
    · rw [hs1] at hx; rw [NS.new_c, Nat.zero_add, cw (x * 3 + 1) (by omega), if_neg (by omega), if_pos (by omega)]; rfl
    · rw [hs1] at hx; rw [NS.new_c, Nat.zero_add, cw (x * 3 + 2) (by omega), if_neg (by omega), if_neg (by omega)]; rfl
set_option maxHeartbeats 4000000 in
theorem rmin_any (h : RefAt w F v A) (ok : A.Ok) (hh : Int) :
    Calls Try.prog 27 #[v, .int .i64 hh] w fun e w' => e = .returned (.tuple #[.int .i64 (slotV (minN A hh)), .bool (minN A hh).isSome]) ∧ Upd [] w w' := by
  obtain ⟨gh, oh, ch, gc, oc, cc, rfl, h⟩ := h
  have k1 := fun W (hW : Upd [] w W) (a b : Int) => rahead_any ⟨gh, oh, ch, gc, oc, cc, rfl, h.upd0 hW⟩ ok a b
  have h1 := h.hcap
  have h2 := h.ccap
  have h3 := ok.h1
  have h4 := ok.c1
  have hlc := h.lt
  have H := Lib.hid h
  unfold refV at *
  have HF := Lib.hid (minP_full A hh)
  have HT := Lib.hid (minP_succ A hh)
  have HB := Lib.hid (minP_lt A hh)
  clear h ok
  generalize hn : A.cs.length = n at *
  generalize hm : A.hs.length = m at *
  have HN := Lib.hid hn
  clear hn hm
  go_enter Try.func27, Try.ntmps27
  go_wp2
  go_loopw [6, 12] (fun b i wr => ∃ j : Nat, j ≤ n ∧ i = .int .i64 (j : Int) ∧ b = .int .i64 (bestV (minP A hh j)) ∧ Upd [] w wr ∧ wr.cell? ⟨w.heap.size, 0, none⟩ = some (.slice (some ⟨gh, oh, none⟩) m ch) ∧ wr.cell? ⟨w.heap.size, 1, none⟩ = some (.slice (some ⟨gc, oc, none⟩) n cc)) (fun _ i _ => n - (intOf i).toNat)
  case atStart => exact ⟨0, by omega, rfl, rfl, by (repeat (first | assumption | exact Upd.refl _ _ | refine Upd.alloc ?_ _ | refine Upd.drew ?_ | refine Upd.drewN ?_ _ | refine Upd.setCell ?_ ?_ _ | focus (left; simp; done) | focus (right; simp; done) | focus (right; simp; omega))), by go_simp, by go_simp⟩
  case round =>
    obtain ⟨j, hj, rfl, rfl, hu, b0, b1⟩ := hrel
    by_cases hlt : j < n
    · have hm := H.out.upd0 hu
      have q0 := hm.c0 j (by rw [HN.out]; exact hlt)
      have q1 := hm.c1 j (by rw [HN.out]; exact hlt)
      have q2 := hm.c2 j (by rw [HN.out]; exact hlt)
      have hgc := hm.lt.2
      have hgw := World.block_lt_of_cell? wr _ b0
      have HS : Hid (minP A hh (j + 1) = if decide (0 < hh) && decide ((A.c j).i = hh) && (match minP A hh j with | none => true | some y => aheadN A j y) then some j else minP A hh j) := HT.out j
      have hbj := HB.out j
      clear hm
      generalize minP A hh j = best at *
      generalize (A.c j).i = y at *
      by_cases hc : 0 < hh
      · by_cases hy : y = hh
        · have hy' : (y == hh) = true := by simpa using hy
          have HY := Lib.hid hy
          clear hy
          cases best with
          | none =>
            have hs2 : minP A hh (j + 1) = some j := by rw [HS.out]; simp [hc, HY.out]
            have HS2 := Lib.hid hs2
            clear hs2 HS
            unfold bestV
            go_wp2
            go_roundw
            case rel => exact ⟨j + 1, by omega, by go_num, by first | (rw [HS2.out]; done) | (rw [HS2.out]; rfl), by (repeat (first | assumption | exact Upd.refl _ _ | refine Upd.alloc ?_ _ | refine Upd.drew ?_ | refine Upd.drewN ?_ _ | refine Upd.setCell ?_ ?_ _ | focus (left; simp; done) | focus (right; simp; done) | focus (right; simp; omega))), by go_simp, by go_simp⟩
            case measure => simp [intOf]; omega
          | some z =>
            have hs2 : minP A hh (j + 1) = if aheadN A j z then some j else some z := by rw [HS.out]; simp [hc, HY.out]
            have k2 := k1 _ (show Upd [] w (wr.alloc (.cells #[.int .i64 y, .int .i64 (A.c j).k, .int .u64 (A.c j).s] 102)) by (repeat (first | assumption | exact Upd.refl _ _ | refine Upd.alloc ?_ _ | refine Upd.drew ?_ | refine Upd.drewN ?_ _ | refine Upd.setCell ?_ ?_ _ | focus (left; simp; done) | focus (right; simp; done) | focus (right; simp; omega)))) j z
            have hzj := hbj z rfl
            clear hbj k1
            unfold bestV
            have hz0 : ¬ (z : Int) < 0 := by omega
            cases ha : aheadN A j z
            · rw [ha] at hs2 k2
              have HS2 := Lib.hid hs2
              clear hs2 HS ha
              go_wp2_with (go_at_call 32; (with_reducible refine (k2).mono ?_); rintro e w1 ⟨rfl, hu1⟩; (have v1 : Upd [] w w1 := Upd.trans (by (repeat (first | assumption | exact Upd.refl _ _ | refine Upd.alloc ?_ _ | refine Upd.drew ?_ | refine Upd.drewN ?_ _ | refine Upd.setCell ?_ ?_ _ | focus (left; simp; done) | focus (right; simp; done) | focus (right; simp; omega)))) hu1); (have p0 : w1.cell? ⟨w.heap.size, 0, none⟩ = some (.slice (some ⟨gh, oh, none⟩) m ch) := hu1.was (by go_simp)); (have p1 : w1.cell? ⟨w.heap.size, 1, none⟩ = some (.slice (some ⟨gc, oc, none⟩) n cc) := hu1.was (by go_simp)))
              go_roundw
              case rel => exact ⟨j + 1, by omega, by go_num, by first | (rw [HS2.out]; done) | (rw [HS2.out]; rfl), v1, p0, p1⟩
              case measure => simp [intOf]; omega
            · rw [ha] at hs2 k2
              have HS2 := Lib.hid hs2
              clear hs2 HS ha
              go_wp2_with (go_at_call 32; (with_reducible refine (k2).mono ?_); rintro e w1 ⟨rfl, hu1⟩; (have v1 : Upd [] w w1 := Upd.trans (by (repeat (first | assumption | exact Upd.refl _ _ | refine Upd.alloc ?_ _ | refine Upd.drew ?_ | refine Upd.drewN ?_ _ | refine Upd.setCell ?_ ?_ _ | focus (left; simp; done) | focus (right; simp; done) | focus (right; simp; omega)))) hu1); (have p0 : w1.cell? ⟨w.heap.size, 0, none⟩ = some (.slice (some ⟨gh, oh, none⟩) m ch) := hu1.was (by go_simp)); (have p1 : w1.cell? ⟨w.heap.size, 1, none⟩ = some (.slice (some ⟨gc, oc, none⟩) n cc) := hu1.was (by go_simp)))
              go_roundw
              case rel => exact ⟨j + 1, by omega, by go_num, by first | (rw [HS2.out]; done) | (rw [HS2.out]; rfl), v1, p0, p1⟩
              case measure => simp [intOf]; omega
        · have hy' : (y == hh) = false := by simpa using hy
          have hs2 : minP A hh (j + 1) = best := by rw [HS.out]; simp [hy]
          have HS2 := Lib.hid hs2
          clear hs2 HS hy hbj
          go_wp2
          go_roundw
          case rel => exact ⟨j + 1, by omega, by go_num, by rw [HS2.out], by (repeat (first | assumption | exact Upd.refl _ _ | refine Upd.alloc ?_ _ | refine Upd.drew ?_ | refine Upd.drewN ?_ _ | refine Upd.setCell ?_ ?_ _ | focus (left; simp; done) | focus (right; simp; done) | focus (right; simp; omega))), by go_simp, by go_simp⟩
          case measure => simp [intOf]; omega
      · have hs2 : minP A hh (j + 1) = best := by rw [HS.out]; simp [hc]
        have HS2 := Lib.hid hs2
        clear hs2 HS hbj
        go_wp2
        go_roundw
        case rel => exact ⟨j + 1, by omega, by go_num, by rw [HS2.out], by (repeat (first | assumption | exact Upd.refl _ _ | refine Upd.alloc ?_ _ | refine Upd.drew ?_ | refine Upd.drewN ?_ _ | refine Upd.setCell ?_ ?_ _ | focus (left; simp; done) | focus (right; simp; done) | focus (right; simp; omega))), by go_simp, by go_simp⟩
        case measure => simp [intOf]; omega
    · obtain rfl : j = n := by omega
      rw [HF.out]
      cases hmn : minN A hh with
      | none =>
        have HM := Lib.hid hmn
        clear hmn
        unfold bestV
        go_wp2
        go_ret2
        exact ⟨by rw [HM.out]; rfl, hu⟩
      | some z =>
        have HM := Lib.hid hmn
        clear hmn
        unfold bestV
        have hz0 : ¬ (z : Int) < 0 := by omega
        go_wp2
        go_ret2
        exact ⟨by rw [HM.out]; rfl, hu⟩
end
end Go.Proofs.Ytechoojcgdjcdaa
