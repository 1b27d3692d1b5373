/-
  limits of a nest of whatever kind says yes, if its steps are few enough. Conditions: those of each lemma.
-/
import Derived.Test.YtighgbdijagolaaRuns
import Derived.Test.YtighgbdijagolaaSize
import Derived.Test.YtighgbdijagolaaGaugeC
set_option linter.unusedVariables false
set_option linter.unusedSimpArgs false
namespace Go.Proofs.Ytighgbdijagolaa
open Go Go.RowKit

section
variable {K : NestK} {w : World} {p : Nat} {F : List Nat} {A : NS} {st : Nat} {g : K.G} {v : Value}
theorem satS_sub (st k : Nat) (h : st ≤ 4611686018427387904) : st ≤ satS st k ∧ satS st k - st ≤ k ∧ satS st k ≤ 4611686018427387904 := by unfold satS; omega
set_option maxHeartbeats 8000000 in
set_option maxRecDepth 10000 in
theorem limits_any (kd d : Int) (n len : Nat) (f : Nat → AC) (hK : K.at_ w p F (NS.new n) st g) (hcost : ∀ W p F A st g a, K.at_ W p F A st g → a.Ok → (K.cost A a g : Int) ≤ limit kd d (sizeX A a + sizeY A a + 1))
    (hn : n ≤ 65536) (hs : ActsN w v len f) (hF0 : 0 < len → ∀ a cap, v = .slice (some a) len cap → a.block ∉ F) (hl : len ≤ 1000) :
    Calls Try.prog 59 #[.iface K.ty (.pointer (some ⟨p, 0, none⟩)), .agg #[.int .i64 kd, .int .i64 d], .int .i64 (n : Int), .bool false, v] w fun e w' => e = .returned (.bool true) ∧ Goes F w w' (fun _ => True) := by
  obtain ⟨a, cap, rfl, hlm, hok, hcell⟩ := hs
  have hlt := K.lt hK
  have kn := fun W (hW : Upd [] w W) => rnew_any n W F (fun x hx => Nat.lt_of_lt_of_le (hlt x hx) hW.size) hn
  have HC := Lib.hid (And.intro hcell (And.intro hok hF0))
  have HCO := Lib.hid hcost
  clear hcell hok hF0 hcost
  go_enter Try.func59, Try.ntmps59
  go_wp2_with (first
    | ((go_at_call 24; (with_reducible refine (kn _ (by (repeat (first | assumption | exact Upd.refl _ _ | refine Upd.alloc ?_ _ | refine Upd.drew ?_ | refine Upd.drewN ?_ _ | refine Upd.setCell ?_ ?_ _ | focus (left; simp; done) | focus (right; simp; done) | focus (right; simp; omega))))).mono ?_)); rintro e w1 ⟨v1, rfl, ⟨gh, oh, ch, gc, oc, cc, rfl, hR1⟩, hu1⟩; (unfold refV); (have hw1 : Upd [] w w1 := Upd.trans (by (repeat (first | assumption | exact Upd.refl _ _ | refine Upd.alloc ?_ _ | refine Upd.drew ?_ | refine Upd.drewN ?_ _ | refine Upd.setCell ?_ ?_ _ | focus (left; simp; done) | focus (right; simp; done) | focus (right; simp; omega)))) hu1); (have t0 : w1.cell? ⟨w.heap.size, 0, none⟩ = some (.int .i64 kd) := hu1.was (by go_simp)); (have t1 : w1.cell? ⟨w.heap.size, 1, none⟩ = some (.int .i64 d) := hu1.was (by go_simp)); (have hs1 : w.heap.size + 1 ≤ w1.heap.size := (by have := hu1.size; simp at this; omega)))
    | fail)
  have hb7 : w1.heap.size ∉ F := fun hm => by have := hlt _ hm; have := hw1.size; omega
  have hcf : w.heap.size ∉ F := fun hm => by have := hlt _ hm; omega
  have hR1' : RefM w1 ([w1.heap.size] ++ F) gh oh ch gc oc cc (NS.new n) := hR1.add (by have := hR1.lt; omega) (by have := hR1.lt; omega)
  obtain ⟨w0, hw0⟩ : ∃ w0, w0 = w1.alloc (.cells #[Value.slice (some ⟨gh, oh, none⟩) (NS.new n).hs.length ch, Value.slice (some ⟨gc, oc, none⟩) (NS.new n).cs.length cc] 53) := ⟨_, rfl⟩
  have u2 : Upd [] w1 w0 := by rw [hw0]; (repeat (first | assumption | exact Upd.refl _ _ | refine Upd.alloc ?_ _ | refine Upd.drew ?_ | refine Upd.drewN ?_ _ | refine Upd.setCell ?_ ?_ _ | focus (left; simp; done) | focus (right; simp; done) | focus (right; simp; omega)))
  have hb0 : w1.heap.size < w0.heap.size := by rw [hw0]; simp
  have hB0 : Both K w0 p w1.heap.size n F (NS.new n) := by
    refine ⟨_, _, gh, oh, ch, gc, oc, cc, K.upd hK (hw1.trans u2) (by simp), hR1'.upd0 u2, hb7, by simp [NS.new], ?_, ?_, ?_, ?_, hb0⟩
    · rw [hw0]; simp
    · rw [hw0]; simp
    · rw [hw0]; simp
    · rw [hw0]; simp
  rw [← hw0]
  have c0 := u2.was t0
  have c1 := u2.was t1
  have hs7 : w.heap.size < w1.heap.size := by omega
  have hsb : w1.heap.size ≤ w0.heap.size := by omega
  have HW := Lib.hid (And.intro (hw1.trans u2) (And.intro hlt hcf))
  generalize hb : w1.heap.size = b at *
  clear hR1 hR1' u2 kn hlt hw0 t0 t1 hw1 hu1 hs1 hb hcf
  go_loopw [24] (fun j wr => ∃ i : Nat, i ≤ len ∧ j = .int .i64 (i : Int) ∧ Upd (b :: F) w0 wr ∧ ∃ F' A, (∀ x, x ∈ F' → x ∈ F ∨ w0.heap.size ≤ x) ∧ Both K wr p b n F' A) (fun j _ => len - (intOf j).toNat)
  case atStart => exact ⟨0, by omega, rfl, Upd.refl _ _, F, _, fun x hx => Or.inl hx, hB0⟩
  case round =>
    obtain ⟨i, hi, rfl, hu2, F1, A, hF2, st1, g1, gh1, oh1, ch1, gc1, oc1, cc1, hA, hR, hbF, hAn, y0, y1, yf0, yf1, hbl⟩ := hrel
    rename World => w2
    have hG := Lib.hid (And.intro hu2 hF2)
    have hW := HW.out
    have hcb : w.heap.size ∉ b :: F := fun hm => by
      rcases List.mem_cons.1 hm with h | h
      · omega
      · exact hW.2.2 h
    have f0 := hu2.kept c0 hcb
    have f1 := hu2.kept c1 hcb
    have hcF1 : w.heap.size ∉ F1 := fun hm => by
      rcases hF2 _ hm with h | h
      · exact hW.2.2 h
      · omega
    by_cases hil : i < len
    · obtain ⟨ba, off, ha, hba, hca⟩ := HC.out.1 (by omega)
      subst ha
      have hbaF := HC.out.2.2 (by omega) _ _ rfl
      have hba2 : ba ∉ b :: F := fun hm => by
        rcases List.mem_cons.1 hm with h | h
        · omega
        · exact hbaF h
      obtain ⟨k0, k1, k2, k3, k4⟩ := ((hca i hil).kept hW.1 (by simp)).kept hu2 hba2
      have hoki := HC.out.2.1 i hil
      have hltF := K.lt hA
      have hw2F : w2.heap.size ∉ F1 := fun hm => by have := hltF _ hm; omega
      have kd' := fun W (hW : Upd [] w2 W) => do_open (X := [b]) (K.upd hA hW (by simp)) (hR.upd0 hW) (fun x hx => by simp at hx; subst hx; exact Nat.lt_of_lt_of_le hbl hW.size) (f i) hoki
      have kz := fun W (hW : Upd [] w2 W) => size_any (hR.upd0 hW) (K.ok hA) (f i)
      have kst := fun W (hW : Upd [] w2 W) => K.steps (K.upd hA hW (by simp))
      have hcst := HCO.out _ _ _ _ _ _ (f i) hA hoki
      obtain ⟨z1, z2, z3, z4⟩ := size_bd (K.ok hA) (f i)
      have hst := K.st62 hA
      obtain ⟨q1, q2, q3⟩ := satS_sub st1 (K.cost A (f i) g1) hst
      have hwa : IntKind.i64.wrap (sizeX A (f i) + sizeY A (f i)) = sizeX A (f i) + sizeY A (f i) := IntWalk.i64_in _ (by omega)
      have hwb : IntKind.i64.wrap (sizeX A (f i) + sizeY A (f i) + 1) = sizeX A (f i) + sizeY A (f i) + 1 := IntWalk.i64_in _ (by omega)
      have krl := fun W => rlimit_any kd d (sizeX A (f i) + sizeY A (f i) + 1) W
      have hib : (i : Int) < (len : Int) := by omega
      have hwr : IntKind.i64.wrap ((i : Int) + 1) = (i : Int) + 1 := IntWalk.i64_in _ (by omega)
      have hnb : b ≠ w2.heap.size := by omega
      have hwc : IntKind.i64.wrap (((satS st1 (K.cost A (f i) g1) : Nat) : Int) - (st1 : Int)) = ((satS st1 (K.cost A (f i) g1) : Nat) : Int) - (st1 : Int) := IntWalk.i64_in _ (by omega)
      have hg1 : ¬ ((satS st1 (K.cost A (f i) g1) : Nat) : Int) < (st1 : Int) := by omega
      have hg2 : ¬ (((satS st1 (K.cost A (f i) g1) : Nat) : Int) - (st1 : Int) > limit kd d (sizeX A (f i) + sizeY A (f i) + 1)) := by omega
      have HAN := Lib.hid hAn
      clear hca hu2 hF2 hAn z1 z2 z3 z4 q1 q2 q3 hcst hst hltF hW
      generalize sizeX A (f i) = sx at *
      generalize sizeY A (f i) = sy at *
      generalize satS st1 (K.cost A (f i) g1) = st9 at *
      generalize hlim : limit kd d (sx + sy + 1) = lim at *
      cases hk6 : ((f i).kind == 6)
      all_goals
        go_wp2_with (first
          | ((go_at_call 79; (with_reducible refine (kz _ (by (repeat (first | assumption | exact Upd.refl _ _ | refine Upd.alloc ?_ _ | refine Upd.drew ?_ | refine Upd.drewN ?_ _ | refine Upd.setCell ?_ ?_ _ | focus (left; simp; done) | focus (right; simp; done) | focus (right; simp; omega))))).mono ?_)); rintro e w3 ⟨rfl, hu3⟩; (have g0 := hu3.was (((Upd.refl [] w2).alloc _).was f0)); (have g1' := hu3.was (((Upd.refl [] w2).alloc _).was f1)); (have v3 : Upd [] w2 w3 := Upd.trans (by (repeat (first | assumption | exact Upd.refl _ _ | refine Upd.alloc ?_ _ | refine Upd.drew ?_ | refine Upd.drewN ?_ _ | refine Upd.setCell ?_ ?_ _ | focus (left; simp; done) | focus (right; simp; done) | focus (right; simp; omega)))) hu3); (have x0 : w3.cell? ⟨w2.heap.size, 0, none⟩ = some (.int .i64 (f i).kind) := hu3.was (by go_simp)); (have x1 : w3.cell? ⟨w2.heap.size, 1, none⟩ = some (.int .i64 (f i).h) := hu3.was (by go_simp)); (have x2 : w3.cell? ⟨w2.heap.size, 2, none⟩ = some (.int .i64 (f i).x) := hu3.was (by go_simp)); (have x3 : w3.cell? ⟨w2.heap.size, 3, none⟩ = some (.int .i64 (f i).k) := hu3.was (by go_simp)); (have x4 : w3.cell? ⟨w2.heap.size, 4, none⟩ = some (.int .u64 (f i).s) := hu3.was (by go_simp)))
          | ((go_at_call 80; (with_reducible refine (krl _).mono ?_)); rintro e w4 ⟨rfl, hu4⟩; (have v4 : Upd [] w2 w4 := v3.trans hu4); (have X0 := hu4.was x0); (have X1 := hu4.was x1); (have X2 := hu4.was x2); (have X3 := hu4.was x3); (have X4 := hu4.was x4); (have Y0 := v4.was y0); (have Y1 := v4.was y1); obtain ⟨fs, vs, hens, hms, hcs⟩ := (kst w4 v4).now; (unfold Enters at hens))
          | ((with_reducible refine (hcs).mono ?_); rintro e w9 ⟨rfl, hw9⟩; rw [hw9]; clear hw9 w9)
          | ((go_at_call 25; (with_reducible refine (kd' _ v4).mono ?_)); rintro e w5 ⟨F5, gh5, oh5, ch5, gc5, oc5, cc5, rfl, hA5, hR5, hu5, hf5⟩; (have hbF5 : b ∉ F5 := fun hm => by (rcases hf5 _ hm with h' | h'; exact hbF h'; (have := v4.size); omega)); (have hl5 : b < w5.heap.size := by (have := hu5.size; have := v4.size; omega)); (have Z0 := hu5.kept Y0 hbF); (have Z1 := hu5.kept Y1 hbF); (have Zf0 := hu5.keptF Y0 hbF (v4.keptF y0 (by simp) yf0)); (have Zf1 := hu5.keptF Y1 hbF (v4.keptF y1 (by simp) yf1)); (have ks5 := fun W (hW : Upd [b] w5 W) => (K.steps (K.upd hA5 hW (fun x hx => by simp at hx; subst hx; exact hbF5)))); (have u6 : Upd [b] w5 (((w5.setCell ⟨b, 0, none⟩ (.slice (some ⟨gh5, oh5, none⟩) (doN A (f i)).hs.length ch5)).setCell ⟨b, 1, none⟩ (.slice (some ⟨gc5, oc5, none⟩) (doN A (f i)).cs.length cc5)).alloc (.cells #[Value.slice (some ⟨gh5, oh5, none⟩) (doN A (f i)).hs.length ch5, Value.slice (some ⟨gc5, oc5, none⟩) (doN A (f i)).cs.length cc5] 53)) := by (repeat (first | assumption | exact Upd.refl _ _ | refine Upd.alloc ?_ _ | refine Upd.drew ?_ | refine Upd.drewN ?_ _ | refine Upd.setCell ?_ ?_ _ | focus (left; simp; done) | focus (right; simp; done) | focus (right; simp; omega)))); obtain ⟨f6, v6, hen6, hm6, hc6⟩ := (ks5 _ u6).now; (unfold Enters at hen6))
          | ((with_reducible refine (hc6).mono ?_); rintro e w9 ⟨rfl, hw9⟩; rw [hw9]; clear hw9 w9)
          | fail)
        have hG' := hG.out
        have hst5 : Upd (b :: F1) w2 w5 := ((v4.mono (by simp)).trans (hu5.mono (fun x hx => List.mem_cons_of_mem _ hx)))
        have hs26 := (hst5.trans (u6.mono (by simp))).size
        refine ⟨⟨i + 1, by omega, by go_num, hG'.1.joined (hst5.trans (u6.mono (by simp))) (fun x hx => ?_), F5, doN A (f i), fun x hx => ?_, _, _, gh5, oh5, ch5, gc5, oc5, cc5, K.upd hA5 u6 (fun x hx => by simp at hx; subst hx; exact hbF5), hR5.upd (u6.mono (by simp)), hbF5, by rw [doN_len]; exact HAN.out, ?_, ?_, ?_, ?_, ?_⟩, by simp [intOf]; omega⟩
        · rcases List.mem_cons.1 hx with rfl | hx
          · exact Or.inl (by simp)
          · rcases hG'.2 x hx with h | h
            · exact Or.inl (List.mem_cons_of_mem _ h)
            · exact Or.inr h
        · rcases hf5 x hx with h | h
          · exact hG'.2 x h
          · right; have := hG'.1.size; have := v4.size; omega
        · go_simp
        · go_simp
        · go_simp
        · go_simp
        · simp; omega
    · obtain rfl : i = len := by omega
      clear hil
      have hib : ¬ (i : Int) < (i : Int) := by omega
      have ka := fun W => limit_any kd d 9 W
      have kb := fun W => rlimit_any kd d 9 W
      generalize limit kd d 9 = l9 at *
      have r0 : ∀ W, Upd [] w2 W → W.cell? ⟨w.heap.size, 0, none⟩ = some (.int .i64 kd) := fun W hW => hW.was f0
      have r1 : ∀ W, Upd [] w2 W → W.cell? ⟨w.heap.size, 1, none⟩ = some (.int .i64 d) := fun W hW => hW.was f1
      clear hA hR hbF hAn y0 y1 yf0 yf1 hW hu2 hF2
      go_wp2
      go_region_held3 (Upd [] w2) (repeat (first | assumption | exact Upd.refl _ _ | refine Upd.drew ?_ | refine Upd.alloc ?_ _ | (apply Upd.trans; rotate_left; assumption)))
        (first
          | ((go_at_call 81; (with_reducible refine (ka _).mono ?_)); rintro e w3 ⟨rfl, hu3⟩; (have hv3 : Upd [] w2 w3 := by (repeat (first | assumption | exact Upd.refl _ _ | refine Upd.drew ?_ | refine Upd.alloc ?_ _ | (apply Upd.trans; rotate_left; assumption)))))
          | ((go_at_call 80; (with_reducible refine (kb _).mono ?_)); rintro e w3 ⟨rfl, hu3⟩; (have hv3 : Upd [] w2 w3 := by (repeat (first | assumption | exact Upd.refl _ _ | refine Upd.drew ?_ | refine Upd.alloc ?_ _ | (apply Upd.trans; rotate_left; assumption))))))
      go_wp2
      go_ret
      have hG' := hG.out
      have hW' := HW.out
      refine ⟨by first | rfl | (refine ret_bool ?_; simp), F1, trivial, ?_, fun x hx => ?_⟩
      · refine Upd.trans ((hW'.1.mono (by simp)).joined hG'.1 (fun x hx => ?_)) (Upd.mono (S := []) (by (repeat (first | assumption | exact Upd.refl _ _ | refine Upd.drew ?_ | refine Upd.alloc ?_ _ | (apply Upd.trans; rotate_left; assumption)))) (by simp))
        rcases List.mem_cons.1 hx with rfl | hx
        · right; omega
        · exact Or.inl hx
      · rcases hG'.2 x hx with h | h
        · exact Or.inl h
        · right; omega
theorem bigLimits_any (kd d : Int) (n len : Nat) (f : Nat → AC) (hK : K.at_ w p F (NS.new n) st g) (hcost : ∀ W p F A st g a, K.at_ W p F A st g → a.Ok → (K.cost A a g : Int) ≤ limit kd d (sizeX A a + sizeY A a + 1))
    (hn : n ≤ 65536) (hs : ActsN w v len f) (hF0 : 0 < len → ∀ a cap, v = .slice (some a) len cap → a.block ∉ F) (hl : len ≤ 1000) :
    Calls Try.prog 31 #[.iface K.ty (.pointer (some ⟨p, 0, none⟩)), .agg #[.int .i64 kd, .int .i64 d], .int .i64 (n : Int), .bool false, v] w fun e w' => e = .returned (.int .i64 1) ∧ Goes F w w' (fun _ => True) := by
  have k := fun W (hW : Upd [] w W) => limits_any (v := v) kd d n len f (K.upd hK hW (by simp)) hcost hn (hs.upd hW) hF0 hl
  have k2 := fun W => one_yes W
  obtain ⟨a, cap, rfl, -⟩ := hs
  go_enter Try.func31, Try.ntmps31
  go_wp2_with (first
    | ((go_at_call 59; (with_reducible refine (k _ (by (repeat (first | assumption | exact Upd.refl _ _ | refine Upd.alloc ?_ _ | refine Upd.drew ?_ | refine Upd.drewN ?_ _ | refine Upd.setCell ?_ ?_ _ | focus (left; simp; done) | focus (right; simp; done) | focus (right; simp; omega))))).mono ?_)); rintro e w1 ⟨rfl, F1, -, hu1, hF1⟩; (have hG1 : Goes F w w1 (fun _ => True) := ⟨F1, trivial, (Upd.mono (S := []) (by (repeat (first | assumption | exact Upd.refl _ _ | refine Upd.alloc ?_ _ | refine Upd.drew ?_ | refine Upd.drewN ?_ _ | refine Upd.setCell ?_ ?_ _ | focus (left; simp; done) | focus (right; simp; done) | focus (right; simp; omega)))) (by simp)).trans hu1, fun x hx => (hF1 x hx).imp id (fun h => by simp at h; omega)⟩))
    | (go_at_call 47; (with_reducible refine ((k2 _)).mono ?_); rintro e w9 ⟨rfl, hw9⟩; rw [hw9]; clear hw9 w9)
    | fail)
  go_ret
  exact ⟨rfl, hG1⟩
end
end Go.Proofs.Ytighgbdijagolaa
