/-
  Binomial heaps: binomialAlive says yes; a new nest as one of a kind. Conditions: those of each lemma.
-/
import Derived.Test.YtighgbdijagolaaBnDeg
import Derived.Test.YtighgbdijagolaaSortP
set_option linter.unusedVariables false
set_option linter.unusedSimpArgs false
namespace Go.Proofs.Ytighgbdijagolaa
open Go Go.RowKit

def bnKeys : List Int := [0, 1, 2, 3, 4, 5, 6, 7, 8, 9, 10, 11, 12]
set_option maxHeartbeats 4000000 in
theorem balive_any (w : World) : Calls Try.prog 16 #[] w fun e w' => e = .returned (.bool true) ∧ Upd [] w w' := by
  have kn := bnew_yes 13 w (by omega)
  rw [show (((13 : Nat) : Int)) = 13 from rfl] at kn
  go_enter Try.func16, Try.ntmps16
  go_wp2_with (first
    | ((go_at_call 17; (with_reducible refine (kn).mono ?_)); rintro e w1 ⟨p, F, rfl, hK, hu1, hF⟩; (have km := bmake_any hK); rw [show makeV (NS.new 13) = 1 from rfl] at km)
    | ((go_at_call 42; (with_reducible refine (km).mono ?_)); rintro e w2 ⟨rfl, F2, hK2, hu2, hF2⟩)
    | fail)
  have hs1 := hu1.size
  have hn2 : ∀ x, x ∈ F2 → w.heap.size ≤ x := fun x hx => by
    rcases hF2 x hx with h | h
    · exact hF x h
    · omega
  have hu02 : Upd [] w w2 := hu1.joined hu2 (fun x hx => Or.inr (hF x hx))
  have hK0 : BnK w2 p F2 (sortN bnKeys 0 0) 0 BG.none := by rw [← sortN_zero bnKeys 0]; exact hK2
  have HK := Lib.hid hK0
  clear hK hK2 hK0 km kn hF hF2 hu1 hu2
  go_loopw [3] (fun i wr => ∃ k : Nat, k ≤ 13 ∧ i = .int .i64 (k : Int) ∧ (∃ F st G, BnK wr p F (sortN bnKeys 0 k) st G ∧ st + (G.R 1).length = k ∧ ∀ x, x ∈ F → w.heap.size ≤ x) ∧ Upd [] w wr) (fun i _ => 13 - (intOf i).toNat)
  case atStart => exact ⟨0, by omega, rfl, ⟨F2, 0, BG.none, HK.out, rfl, hn2⟩, hu02⟩
  case round =>
    obtain ⟨k, hk, rfl, ⟨F, st, G, hK, hst, hF⟩, hu⟩ := hrel
    rename World => wr
    by_cases hk3 : k < 13
    · obtain ⟨p1, p2⟩ := sortN_put bnKeys 0 k hk3
      have ek : bnKeys.getD k 0 = (k : Int) := by
        have : ∀ k, k < 13 → bnKeys.getD k 0 = (k : Int) := by decide
        exact this k hk3
      rw [ek] at p2
      have ki := binsert_yes hK 1 k (k : Int) 0 (by omega) p1
      have hq := (put_bn (h := 1) (x := k) (k : Int) 0 hK.2 hK.ok p1).2.1
      rw [show (((1 : Nat) : Int)) = 1 from rfl] at ki hq
      rw [p2] at ki hq
      have HQ := Lib.hid (And.intro hq (And.intro hst hF))
      have hsz := hu.size
      clear p1 p2 hK hq hst ek
      go_wp2_with (first
        | ((go_at_call 43; (with_reducible refine (ki).mono ?_)); rintro e w3 ⟨rfl, F3, hK3, hu3, hF3⟩)
        | fail)
      obtain ⟨hq, hst, hF⟩ := HQ.out
      refine ⟨⟨k + 1, by omega, by go_num, ⟨F3, _, _, hK3, by unfold satS; omega, fun x hx => ?_⟩, hu.joined hu3 (fun x hx => Or.inr (hF x hx))⟩, by simp [intOf]; omega⟩
      rcases hF3 x hx with h | h
      · exact hF x h
      · omega
    · obtain rfl : k = 13 := by omega
      have hd := degsR_dig hK.2 hK.ok 1
      rw [show lenN (sortN bnKeys 0 13) 1 = 13 from sortN_lenN bnKeys 0 13 (by decide), show natsI (digB 17 0 13) = [0, 2, 3] by decide] at hd
      have hl : (G.R 1).length = 3 := by
        have e := degs_dig hK.2 hK.ok (h := 1) (by omega)
        rw [show (((1 : Nat) : Int)) = 1 from rfl, show lenN (sortN bnKeys 0 13) 1 = 13 from sortN_lenN bnKeys 0 13 (by decide), show digB 17 0 13 = [0, 2, 3] by decide] at e
        have := congrArg List.length e
        unfold degsN at this
        rw [List.length_map] at this
        simpa using this
      have kd := bdeg_any hK 1
      rw [hd, show ([0, 2, 3] : List Int).length = 3 from rfl] at kd
      obtain ⟨c, F1, h0, hC⟩ := hK.cl
      have hst10 : st = 10 := by omega
      subst hst10
      have HC := Lib.hid (And.intro h0 hC)
      have HU := Lib.hid hu
      have ksm := Lib.hid (fun (W : World) (va vb : Value) (ha : LstAt W 0 va 3 (intsZ [0, 2, 3])) (hb : LstAt W 0 vb 3 (intsZ [0, 2, 3])) => rsame_true W 0 va vb [0, 2, 3] ha hb)
      clear hK hd hl hst h0 hC hu
      go_wp2_with (first
        | ((go_at_call 27; (with_reducible refine (kd).mono ?_)); rintro e w4 ⟨v4, rfl, ho4, hu4⟩; obtain ⟨a4, c4, hv4, _⟩ := own_slice ho4; subst hv4; (have h04 := hu4.was HC.out.1); (have h05 : (w4.alloc (.cells #[.int .i64 0, .int .i64 2, .int .i64 3] 3)).cell? ⟨p, 0, none⟩ = some (.pointer (some ⟨c, 0, none⟩)) := ((Upd.refl [] w4).alloc _).was h04); (have ks := fun n => csteps_any ((HC.out.2.upd0 hu4).upd0 (((Upd.refl [] w4).alloc (.cells #[.int .i64 0, .int .i64 2, .int .i64 3] 3)).drewN n))); (have ks1 := ksm.out (w4.alloc (.cells #[.int .i64 0, .int .i64 2, .int .i64 3] 3)) (.slice a4 3 c4) (.slice (some ⟨w4.heap.size, 0, none⟩) 3 3) ((LstAt.of_owns ho4).mono (Nat.zero_le _) |>.upd ((Upd.refl [] w4).alloc _) (by simp)) (LstAt.of_owns (own_lit w4 (intsZ [0, 2, 3]) 3 0 1 3 rfl (Nat.zero_le _) (by unfold maxLen; omega)))))
        | ((go_at_call 26; (with_reducible refine (ks1).mono ?_)); rintro e w5 ⟨rfl, n5, rfl⟩)
        | (go_at_call 19; (with_reducible refine (ks _).mono ?_); rintro e w9 ⟨rfl, hw9⟩; rw [hw9]; clear hw9 w9)
        | fail)
      go_ret
      exact ⟨rfl, HU.out.trans (hu4.trans (by (repeat (first | assumption | exact Upd.refl _ _ | refine Upd.alloc ?_ _ | refine Upd.drew ?_ | refine Upd.drewN ?_ _ | refine Upd.setCell ?_ ?_ _ | focus (left; simp; done) | focus (right; simp; done) | focus (right; simp; omega)))))⟩
theorem bnewK_yes (n : Nat) (w : World) (h : n ≤ 65536) : Calls Try.prog 17 #[.int .i64 (n : Int)] w fun e w' => ∃ p F, e = .returned (.tuple #[.pointer (some ⟨p, 0, none⟩), .int .i64 0]) ∧ nestBn.at_ w' p F (NS.new n) 0 BG.none ∧ Upd [] w w' ∧ ∀ x, x ∈ F → w.heap.size ≤ x := bnew_yes n w h
theorem bn_ty : nestBn.ty = 23 := rfl
end Go.Proofs.Ytighgbdijagolaa
