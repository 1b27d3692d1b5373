/-
  wholes of a nest of whatever kind says yes, if its steps together are few enough. Conditions: those of each lemma.
-/
import Derived.Test.YtighgbdijagolaaLimits
set_option linter.unusedVariables false
set_option linter.unusedSimpArgs false
namespace Go.Proofs.Ytighgbdijagolaa
open Go Go.RowKit

theorem wp_into {c : Code} {K : Exit → Act → World → Prop} {a : Act} {W : World} (R : World → Prop) (h : R W) (k : ∀ W', R W' → Code.wp Try.prog c K a W') : Code.wp Try.prog c K a W := k W h
def WB (K : NestK) (w : World) (p b n : Nat) (F : List Nat) (A : NS) (Inv : Nat → NS → Nat → K.G → Prop) (i : Nat) : Prop :=
  ∃ st g, Inv i A st g ∧ ∃ gh oh ch gc oc cc, K.at_ w p F A st g ∧ RefM w ([b] ++ F) gh oh ch gc oc cc A ∧ b ∉ F ∧ A.cs.length = n ∧ w.cell? ⟨b, 0, none⟩ = some (.slice (some ⟨gh, oh, none⟩) A.hs.length ch) ∧ w.cell? ⟨b, 1, none⟩ = some (.slice (some ⟨gc, oc, none⟩) A.cs.length cc) ∧ w.frozen? ⟨b, 0, none⟩ = false ∧ w.frozen? ⟨b, 1, none⟩ = false ∧ b < w.heap.size
section
variable {K : NestK} {w : World} {p : Nat} {F : List Nat} {A : NS} {st : Nat} {g : K.G} {v : Value}
set_option maxHeartbeats 8000000 in
set_option maxRecDepth 10000 in
theorem wholes_any (kd d : Int) (n len : Nat) (f : Nat → AC) (hK : K.at_ w p F (NS.new n) st g) (Inv : Nat → NS → Nat → K.G → Prop) (hinv : Inv 0 (NS.new n) st g) (hcost : ∀ W p F A st g a i, K.at_ W p F A st g → a.Ok → i < 1000 → Inv i A st g → Inv (i + 1) (doN A a) (satS st (K.cost A a g)) (K.next A a g)) (hle : ∀ i A st g, Inv i A st g → (st : Int) ≤ whole kd d (i : Int))
    (hn : n ≤ 65536) (hs : ActsN w v len f) (hF0 : 0 < len → ∀ a cap, v = .slice (some a) len cap → a.block ∉ F) (hl : len ≤ 1000) :
    Calls Try.prog 67 #[.iface K.ty (.pointer (some ⟨p, 0, none⟩)), .agg #[.int .i64 kd, .int .i64 d], .int .i64 (n : Int), v] w fun e w' => e = .returned (.bool true) ∧ Goes F w w' (fun _ => True) := by
  obtain ⟨a, cap, rfl, hlm, hok, hcell⟩ := hs
  have hlt := K.lt hK
  have kn := fun W (hW : Upd [] w W) => rnew_any n W F (fun x hx => Nat.lt_of_lt_of_le (hlt x hx) hW.size) hn
  have HC := Lib.hid (And.intro hcell (And.intro hok hF0))
  have HCO := Lib.hid (And.intro hcost hle)
  clear hcell hok hF0 hcost hle
  go_enter Try.func67, Try.ntmps67
  go_wp2_with (first
    | ((go_at_call 24; (with_reducible refine (kn _ (by (repeat (first | assumption | exact Upd.refl _ _ | refine Upd.alloc ?_ _ | refine Upd.drew ?_ | refine Upd.drewN ?_ _ | refine Upd.setCell ?_ ?_ _ | focus (left; simp; done) | focus (right; simp; done) | focus (right; simp; omega))))).mono ?_)); rintro e w1 ⟨v1, rfl, ⟨gh, oh, ch, gc, oc, cc, rfl, hR1⟩, hu1⟩; (unfold refV); (have hw1 : Upd [] w w1 := Upd.trans (by (repeat (first | assumption | exact Upd.refl _ _ | refine Upd.alloc ?_ _ | refine Upd.drew ?_ | refine Upd.drewN ?_ _ | refine Upd.setCell ?_ ?_ _ | focus (left; simp; done) | focus (right; simp; done) | focus (right; simp; omega)))) hu1); (have t0 : w1.cell? ⟨w.heap.size, 0, none⟩ = some (.int .i64 kd) := hu1.was (by go_simp)); (have t1 : w1.cell? ⟨w.heap.size, 1, none⟩ = some (.int .i64 d) := hu1.was (by go_simp)); (have hs1 : w.heap.size + 1 ≤ w1.heap.size := (by have := hu1.size; simp at this; omega)))
    | fail)
  have hb7 : w1.heap.size ∉ F := fun hm => by have := hlt _ hm; have := hw1.size; omega
  have hcf : w.heap.size ∉ F := fun hm => by have := hlt _ hm; omega
  have hR1' : RefM w1 ([w1.heap.size] ++ F) gh oh ch gc oc cc (NS.new n) := hR1.add (by have := hR1.lt; omega) (by have := hR1.lt; omega)
  obtain ⟨w0, hw0⟩ : ∃ w0, w0 = w1.alloc (.cells #[Value.slice (some ⟨gh, oh, none⟩) (NS.new n).hs.length ch, Value.slice (some ⟨gc, oc, none⟩) (NS.new n).cs.length cc] 53) := ⟨_, rfl⟩
  have u2 : Upd [] w1 w0 := by rw [hw0]; (repeat (first | assumption | exact Upd.refl _ _ | refine Upd.alloc ?_ _ | refine Upd.drew ?_ | refine Upd.drewN ?_ _ | refine Upd.setCell ?_ ?_ _ | focus (left; simp; done) | focus (right; simp; done) | focus (right; simp; omega)))
  have hb0 : w1.heap.size < w0.heap.size := by rw [hw0]; simp
  have hB0 : WB K w0 p w1.heap.size n F (NS.new n) Inv 0 := by
    refine ⟨st, g, hinv, gh, oh, ch, gc, oc, cc, K.upd hK (hw1.trans u2) (by simp), hR1'.upd0 u2, hb7, by simp [NS.new], ?_, ?_, ?_, ?_, hb0⟩
    · rw [hw0]; simp
    · rw [hw0]; simp
    · rw [hw0]; simp
    · rw [hw0]; simp
  rw [← hw0]
  have c0 := u2.was t0
  have c1 := u2.was t1
  have hs7 : w.heap.size < w1.heap.size := by omega
  have hsb : w1.heap.size ≤ w0.heap.size := by omega
  have HW := Lib.hid (And.intro (hw1.trans u2) (And.intro hlt hcf))
  generalize hb : w1.heap.size = b at *
  clear hR1 hR1' u2 kn hlt hw0 t0 t1 hw1 hu1 hs1 hb hcf
  go_loopw [18] (fun j wr => ∃ i : Nat, i ≤ len ∧ j = .int .i64 (i : Int) ∧ Upd (b :: F) w0 wr ∧ ∃ F' A, (∀ x, x ∈ F' → x ∈ F ∨ w0.heap.size ≤ x) ∧ WB K wr p b n F' A Inv i) (fun j _ => len - (intOf j).toNat)
  case atStart => exact ⟨0, by omega, rfl, Upd.refl _ _, F, _, fun x hx => Or.inl hx, hB0⟩
  case round =>
    obtain ⟨i, hi, rfl, hu2, F1, A, hF2, st1, g1, hin1, gh1, oh1, ch1, gc1, oc1, cc1, hA, hR, hbF, hAn, y0, y1, yf0, yf1, hbl⟩ := hrel
    rename World => w2
    have hG := Lib.hid (And.intro hu2 hF2)
    have hW := HW.out
    have hcb : w.heap.size ∉ b :: F := fun hm => by
      rcases List.mem_cons.1 hm with h | h
      · omega
      · exact hW.2.2 h
    have f0 := hu2.kept c0 hcb
    have f1 := hu2.kept c1 hcb
    have hcF1 : w.heap.size ∉ F1 := fun hm => by
      rcases hF2 _ hm with h | h
      · exact hW.2.2 h
      · omega
    by_cases hil : i < len
    · obtain ⟨ba, off, ha, hba, hca⟩ := HC.out.1 (by omega)
      subst ha
      have hbaF := HC.out.2.2 (by omega) _ _ rfl
      have hba2 : ba ∉ b :: F := fun hm => by
        rcases List.mem_cons.1 hm with h | h
        · omega
        · exact hbaF h
      obtain ⟨k0, k1, k2, k3, k4⟩ := ((hca i hil).kept hW.1 (by simp)).kept hu2 hba2
      have hoki := HC.out.2.1 i hil
      have hltF := K.lt hA
      have hw2F : w2.heap.size ∉ F1 := fun hm => by have := hltF _ hm; omega
      have kd' := fun W (hW : Upd [] w2 W) => do_open (X := [b]) (K.upd hA hW (by simp)) (hR.upd0 hW) (fun x hx => by simp at hx; subst hx; exact Nat.lt_of_lt_of_le hbl hW.size) (f i) hoki
      have hin2 := HCO.out.1 _ _ _ _ _ _ (f i) i hA hoki (by omega) hin1
      have hle2 := HCO.out.2 _ _ _ _ hin2
      have krl := fun W => rwhole_any kd d ((i : Int) + 1) W
      have hib : (i : Int) < (len : Int) := by omega
      have hwr : IntKind.i64.wrap ((i : Int) + 1) = (i : Int) + 1 := IntWalk.i64_in _ (by omega)
      have hnb : b ≠ w2.heap.size := by omega
      have hncb : w.heap.size ≠ b := by omega
      have HAN := Lib.hid hAn
      have HIN := Lib.hid hin2
      rw [show (((i + 1 : Nat)) : Int) = (i : Int) + 1 by omega] at hle2
      clear hca hu2 hF2 hAn hltF hW hin1 hin2
      generalize hlim : whole kd d ((i : Int) + 1) = lim at *
      generalize hst9 : satS st1 (K.cost A (f i) g1) = st9 at *
      have hg2 : ¬ ((st9 : Int) > lim) := by omega
      go_wp2_with (first
        | ((go_at_call 25; (with_reducible refine (kd' _ (by (repeat (first | assumption | exact Upd.refl _ _ | refine Upd.alloc ?_ _ | refine Upd.drew ?_ | refine Upd.drewN ?_ _ | refine Upd.setCell ?_ ?_ _ | focus (left; simp; done) | focus (right; simp; done) | focus (right; simp; omega))))).mono ?_)); rintro e w5 ⟨F5, gh5, oh5, ch5, gc5, oc5, cc5, rfl, hA5, hR5, hu5, hf5⟩; (have u25 : Upd F1 w2 w5 := Upd.trans ((Upd.refl F1 w2).alloc _) hu5); (have hf5b : ∀ x, x ∈ F5 → x ∈ F1 ∨ w2.heap.size ≤ x := fun x hx => by (rcases hf5 x hx with h' | h'; exact Or.inl h'; right; rw [World.size_alloc] at h'; omega)); (have hbF5 : b ∉ F5 := fun hm => by (rcases hf5b _ hm with h' | h'; exact hbF h'; omega)); (have hl5 : b < w5.heap.size := by (have := u25.size; omega)); (have Z0 := u25.kept y0 hbF); (have Z1 := u25.kept y1 hbF); (have Zf0 := u25.keptF y0 hbF yf0); (have Zf1 := u25.keptF y1 hbF yf1); (have g0 := u25.kept f0 hcF1); (have g1' := u25.kept f1 hcF1))
        | fail)
      refine wp_into (fun W => Upd [b] w5 W ∧ (W.cell? ⟨b, 0, none⟩ = some (.slice (some ⟨gh5, oh5, none⟩) (doN A (f i)).hs.length ch5) ∧ W.cell? ⟨b, 1, none⟩ = some (.slice (some ⟨gc5, oc5, none⟩) (doN A (f i)).cs.length cc5)) ∧ W.frozen? ⟨b, 0, none⟩ = false ∧ W.frozen? ⟨b, 1, none⟩ = false) ?_ ?_
      · exact ⟨by (repeat (first | assumption | exact Upd.refl _ _ | refine Upd.alloc ?_ _ | refine Upd.drew ?_ | refine Upd.drewN ?_ _ | refine Upd.setCell ?_ ?_ _ | focus (left; simp; done) | focus (right; simp; done) | focus (right; simp; omega))), ⟨by go_simp, by go_simp⟩, by go_simp, by go_simp⟩
      rintro w6 ⟨hu6, ⟨t0', t1'⟩, z0', z1'⟩
      have hA6 := K.upd hA5 hu6 (fun x hx => by simp at hx; subst hx; exact hbF5)
      obtain ⟨fs, vs, hens, hfs⟩ := K.steps hA6
      unfold Enters at hens
      have r0 : ∀ W, Upd [] w6 W → W.cell? ⟨w.heap.size, 0, none⟩ = some (.int .i64 kd) := fun W hW => hW.was (hu6.kept g0 (by simp; omega))
      have r1 : ∀ W, Upd [] w6 W → W.cell? ⟨w.heap.size, 1, none⟩ = some (.int .i64 d) := fun W hW => hW.was (hu6.kept g1' (by simp; omega))
      have HEND := Lib.hid (fun (W : World) (hW : Upd [] w6 W) => show Upd (b :: F) w0 W ∧ (∀ x, x ∈ F5 → x ∈ F ∨ w0.heap.size ≤ x) ∧ WB K W p b n F5 (doN A (f i)) Inv (i + 1) from ⟨hG.out.1.joined (((u25.mono (T := b :: F1) (fun x hx => List.mem_cons_of_mem _ hx)).trans (hu6.mono (by simp))).trans (hW.mono (by simp))) (fun x hx => by
          rcases List.mem_cons.1 hx with rfl | hx
          · exact Or.inl (by simp)
          · rcases hG.out.2 x hx with h | h
            · exact Or.inl (List.mem_cons_of_mem _ h)
            · exact Or.inr h), fun x hx => by
          rcases hf5b x hx with h | h
          · exact hG.out.2 x h
          · right; have := hG.out.1.size; omega, st9, _, HIN.out, gh5, oh5, ch5, gc5, oc5, cc5, K.upd hA6 hW (by simp), (hR5.upd (hu6.mono (by simp))).upd0 hW, hbF5, by rw [doN_len]; exact HAN.out, hW.was t0', hW.was t1', hW.keptF t0' (by simp) z0', hW.keptF t1' (by simp) z1', by have := hu6.size; have := hW.size; omega⟩)
      clear hA6 hu6 t0' t1' z0' z1' hA5 hR5 hu5 hf5 u25 hf5b hbF5 Z0 Z1 Zf0 Zf1 g0 g1' hA hR y0 y1 yf0 yf1 f0 f1 kd'
      go_region_held3 (Upd [] w6) (repeat (first | assumption | exact Upd.refl _ _ | refine Upd.drew ?_ | refine Upd.alloc ?_ _ | (apply Upd.trans; rotate_left; assumption)))
        (first
          | ((with_reducible refine ((hfs _ (by (repeat (first | assumption | exact Upd.refl _ _ | refine Upd.drew ?_ | refine Upd.alloc ?_ _ | (apply Upd.trans; rotate_left; assumption))))).2).mono ?_); rintro e w9 ⟨rfl, hw9⟩; rw [hw9]; clear hw9 w9)
          | ((go_at_call 91; (with_reducible refine (krl _).mono ?_)); rintro e w4 ⟨rfl, hu4⟩; (have hv4 : Upd [] w6 w4 := by (repeat (first | assumption | exact Upd.refl _ _ | refine Upd.drew ?_ | refine Upd.alloc ?_ _ | (apply Upd.trans; rotate_left; assumption))))))
      go_wp2
      obtain ⟨x1, x2, x3⟩ := HEND.out _ (by (repeat (first | assumption | exact Upd.refl _ _ | refine Upd.drew ?_ | refine Upd.alloc ?_ _ | (apply Upd.trans; rotate_left; assumption))))
      exact ⟨⟨i + 1, by omega, by go_num, x1, F5, _, x2, x3⟩, by simp [intOf]; omega⟩
    · obtain rfl : i = len := by omega
      clear hil
      have hib : ¬ (i : Int) < (i : Int) := by omega
      have ka := fun W => whole_any kd d 9 W
      have kb := fun W => rwhole_any kd d 9 W
      generalize whole kd d 9 = l9 at *
      have r0 : ∀ W, Upd [] w2 W → W.cell? ⟨w.heap.size, 0, none⟩ = some (.int .i64 kd) := fun W hW => hW.was f0
      have r1 : ∀ W, Upd [] w2 W → W.cell? ⟨w.heap.size, 1, none⟩ = some (.int .i64 d) := fun W hW => hW.was f1
      clear hA hR hbF hAn y0 y1 yf0 yf1 hW hu2 hF2
      go_wp2
      go_region_held3 (Upd [] w2) (repeat (first | assumption | exact Upd.refl _ _ | refine Upd.drew ?_ | refine Upd.alloc ?_ _ | (apply Upd.trans; rotate_left; assumption)))
        (first
          | ((go_at_call 92; (with_reducible refine (ka _).mono ?_)); rintro e w3 ⟨rfl, hu3⟩; (have hv3 : Upd [] w2 w3 := by (repeat (first | assumption | exact Upd.refl _ _ | refine Upd.drew ?_ | refine Upd.alloc ?_ _ | (apply Upd.trans; rotate_left; assumption)))))
          | ((go_at_call 91; (with_reducible refine (kb _).mono ?_)); rintro e w3 ⟨rfl, hu3⟩; (have hv3 : Upd [] w2 w3 := by (repeat (first | assumption | exact Upd.refl _ _ | refine Upd.drew ?_ | refine Upd.alloc ?_ _ | (apply Upd.trans; rotate_left; assumption))))))
      go_wp2
      go_ret
      have hG' := hG.out
      have hW' := HW.out
      refine ⟨by first | rfl | (refine ret_bool ?_; simp), F1, trivial, ?_, fun x hx => ?_⟩
      · refine Upd.trans ((hW'.1.mono (by simp)).joined hG'.1 (fun x hx => ?_)) (Upd.mono (S := []) (by (repeat (first | assumption | exact Upd.refl _ _ | refine Upd.drew ?_ | refine Upd.alloc ?_ _ | (apply Upd.trans; rotate_left; assumption)))) (by simp))
        rcases List.mem_cons.1 hx with rfl | hx
        · right; omega
        · exact Or.inl hx
      · rcases hG'.2 x hx with h | h
        · exact Or.inl h
        · right; omega
theorem bigWholes_any (kd d : Int) (n len : Nat) (f : Nat → AC) (hK : K.at_ w p F (NS.new n) st g) (Inv : Nat → NS → Nat → K.G → Prop) (hinv : Inv 0 (NS.new n) st g) (hcost : ∀ W p F A st g a i, K.at_ W p F A st g → a.Ok → i < 1000 → Inv i A st g → Inv (i + 1) (doN A a) (satS st (K.cost A a g)) (K.next A a g)) (hle : ∀ i A st g, Inv i A st g → (st : Int) ≤ whole kd d (i : Int))
    (hn : n ≤ 65536) (hs : ActsN w v len f) (hF0 : 0 < len → ∀ a cap, v = .slice (some a) len cap → a.block ∉ F) (hl : len ≤ 1000) :
    Calls Try.prog 40 #[.iface K.ty (.pointer (some ⟨p, 0, none⟩)), .agg #[.int .i64 kd, .int .i64 d], .int .i64 (n : Int), v] w fun e w' => e = .returned (.int .i64 1) ∧ Goes F w w' (fun _ => True) := by
  have k := fun W (hW : Upd [] w W) => wholes_any (v := v) kd d n len f (K.upd hK hW (by simp)) Inv hinv hcost hle hn (hs.upd hW) hF0 hl
  have k2 := fun W => one_yes W
  obtain ⟨a, cap, rfl, -⟩ := hs
  go_enter Try.func40, Try.ntmps40
  go_wp2_with (first
    | ((go_at_call 67; (with_reducible refine (k _ (by (repeat (first | assumption | exact Upd.refl _ _ | refine Upd.alloc ?_ _ | refine Upd.drew ?_ | refine Upd.drewN ?_ _ | refine Upd.setCell ?_ ?_ _ | focus (left; simp; done) | focus (right; simp; done) | focus (right; simp; omega))))).mono ?_)); rintro e w1 ⟨rfl, F1, -, hu1, hF1⟩; (have hG1 : Goes F w w1 (fun _ => True) := ⟨F1, trivial, (Upd.mono (S := []) (by (repeat (first | assumption | exact Upd.refl _ _ | refine Upd.alloc ?_ _ | refine Upd.drew ?_ | refine Upd.drewN ?_ _ | refine Upd.setCell ?_ ?_ _ | focus (left; simp; done) | focus (right; simp; done) | focus (right; simp; omega)))) (by simp)).trans hu1, fun x hx => (hF1 x hx).imp id (fun h => by simp at h; omega)⟩))
    | (go_at_call 47; (with_reducible refine ((k2 _)).mono ?_); rintro e w9 ⟨rfl, hw9⟩; rw [hw9]; clear hw9 w9)
    | fail)
  go_ret
  exact ⟨rfl, hG1⟩
end
end Go.Proofs.Ytighgbdijagolaa
