/-
  Fibonacci heaps: fibonacciAlive says yes; a new nest as one of a kind. Conditions: those of each lemma.
-/
import Derived.Test.YtighgbdijagolaaFbK
import Derived.Test.YtighgbdijagolaaSortP
set_option linter.unusedVariables false
set_option linter.unusedSimpArgs false
namespace Go.Proofs.Ytighgbdijagolaa
open Go Go.RowKit

def fbKeys : List Int := [1, 2, 3, 4]
/-- The heap of the chapter's example behind so many inserts. -/
def fbV : Nat → FG
  | 0 => FG.none
  | k + 1 => insG (sortN fbKeys 0 (k + 1)) 1 k (fbV k)
theorem fbV_end : ((fbV 4).R 1).length = 4 ∧ minN (sortN fbKeys 0 4) 1 = some 0 ∧ ((fextG (sortN fbKeys 0 4) 1 (fbV 4)).R 1).length = 2 ∧
    (inN (extN (sortN fbKeys 0 4) 1) 1 = true ∧ inN (extN (sortN fbKeys 0 4) 1) 2 = true ∧ inN (extN (sortN fbKeys 0 4) 1) 3 = true) ∧
    ((fextG (sortN fbKeys 0 4) 1 (fbV 4)).K 1).length = 0 ∧ ((fextG (sortN fbKeys 0 4) 1 (fbV 4)).K 2).length = 1 ∧ ((fextG (sortN fbKeys 0 4) 1 (fbV 4)).K 3).length = 0 := by decide +kernel
set_option maxHeartbeats 4000000 in
theorem falive_any (w : World) : Calls Try.prog 33 #[] w fun e w' => e = .returned (.bool true) ∧ Upd [] w w' := by
  have kn := fnew_yes 4 w (by omega)
  rw [show (((4 : Nat) : Int)) = 4 from rfl] at kn
  go_enter Try.func33, Try.ntmps33
  go_wp2_with (first
    | ((go_at_call 34; (with_reducible refine (kn).mono ?_)); rintro e w1 ⟨p, F, rfl, hK, hu1, hF⟩; (have km := fmake_any hK); rw [show makeV (NS.new 4) = 1 from rfl] at km)
    | ((go_at_call 60; (with_reducible refine (km).mono ?_)); rintro e w2 ⟨rfl, F2, hK2, hu2, hF2⟩)
    | fail)
  have hs1 := hu1.size
  have hn2 : ∀ x, x ∈ F2 → w.heap.size ≤ x := fun x hx => by
    rcases hF2 x hx with h | h
    · exact hF x h
    · omega
  have hu02 : Upd [] w w2 := hu1.joined hu2 (fun x hx => Or.inr (hF x hx))
  have hK0 : FbK w2 p F2 (sortN fbKeys 0 0) 0 (fbV 0) := by rw [← sortN_zero fbKeys 0]; exact hK2
  have HK := Lib.hid hK0
  clear hK hK2 hK0 km kn hF hF2 hu1 hu2
  go_loopw [3] (fun i wr => ∃ k : Nat, k ≤ 4 ∧ i = .int .i64 (k : Int) ∧ (∃ F st, FbK wr p F (sortN fbKeys 0 k) st (fbV k) ∧ ∀ x, x ∈ F → w.heap.size ≤ x) ∧ Upd [] w wr) (fun i _ => 4 - (intOf i).toNat)
  case atStart => exact ⟨0, by omega, rfl, ⟨F2, 0, HK.out, hn2⟩, hu02⟩
  case round =>
    obtain ⟨k, hk, rfl, ⟨F, st, hK, hF⟩, hu⟩ := hrel
    rename World => wr
    by_cases hk3 : k < 4
    · obtain ⟨p1, p2⟩ := sortN_put fbKeys 0 k hk3
      have ek : fbKeys.getD k 0 = (k : Int) + 1 := by
        have : ∀ k, k < 4 → fbKeys.getD k 0 = (k : Int) + 1 := by decide
        exact this k hk3
      rw [ek] at p2
      have hw1 : IntKind.i64.wrap ((k : Int) + 1) = (k : Int) + 1 := IntWalk.i64_in _ (by omega)
      have ki := finsert_yes hK 1 k ((k : Int) + 1) 0 (by omega) p1
      rw [show (((1 : Nat) : Int)) = 1 from rfl] at ki
      rw [p2] at ki
      have HQ := Lib.hid hF
      have hsz := hu.size
      clear p1 p2 hK hF ek
      go_wp2_with (first
        | ((go_at_call 61; (with_reducible refine (ki).mono ?_)); rintro e w3 ⟨rfl, F3, hK3, hu3, hF3⟩)
        | fail)
      have hF := HQ.out
      refine ⟨⟨k + 1, by omega, by go_num, ⟨F3, _, hK3, fun x hx => ?_⟩, hu.joined hu3 (fun x hx => Or.inr (hF x hx))⟩, by simp [intOf]; omega⟩
      rcases hF3 x hx with h | h
      · exact hF x h
      · omega
    · obtain rfl : k = 4 := by omega
      obtain ⟨v1, v2, v3, ⟨v4, v5, v6⟩, v7, v8, v9⟩ := fbV_end
      have kr := froots_any hK 1 (by omega)
      rw [show (1 : Int).toNat = 1 from rfl, v1] at kr
      have ke := fun W (hW : Upd [] wr W) => fextract_any (hK.upd0 hW) 1 (by omega)
      rw [v2] at ke
      obtain ⟨G4, hG4⟩ : ∃ G4, fextG (sortN fbKeys 0 4) 1 (fbV 4) = G4 := ⟨_, rfl⟩
      obtain ⟨A4, hA4⟩ : ∃ A4, extN (sortN fbKeys 0 4) 1 = A4 := ⟨_, rfl⟩
      rw [hG4] at ke v3 v7 v8 v9
      rw [hA4] at ke v4 v5 v6
      have KR := Lib.hid (fun W F2 st2 (hK : FbK W p F2 A4 st2 G4) => by
        have := froots_any hK 1 (by omega)
        rw [show (1 : Int).toNat = 1 from rfl, v3] at this
        exact this)
      have kd : ∀ (x d : Nat), inN A4 (x : Int) = true → (G4.K x).length = d → ∀ W F2 st2, FbK W p F2 A4 st2 G4 → Calls Try.prog 39 #[.pointer (some ⟨p, 0, none⟩), .int .i64 (x : Int)] W fun e w' => e = .returned (.int .i64 (d : Int)) ∧ Goes F2 W w' (fun FF' => FbK w' p FF' A4 st2 G4) := fun x d hx hd W F2 st2 hK => by
        have := fdeg_any hK x
        rw [if_pos hx, Int.toNat_natCast, hd] at this
        exact this
      have kd1 : ∀ W F2 st2, FbK W p F2 A4 st2 G4 → Calls Try.prog 39 #[.pointer (some ⟨p, 0, none⟩), .int .i64 1] W fun e w' => e = .returned (.int .i64 0) ∧ Goes F2 W w' (fun FF' => FbK w' p FF' A4 st2 G4) := kd 1 0 v4 v7
      have kd2 : ∀ W F2 st2, FbK W p F2 A4 st2 G4 → Calls Try.prog 39 #[.pointer (some ⟨p, 0, none⟩), .int .i64 2] W fun e w' => e = .returned (.int .i64 1) ∧ Goes F2 W w' (fun FF' => FbK w' p FF' A4 st2 G4) := kd 2 1 v5 v8
      have kd3 : ∀ W F2 st2, FbK W p F2 A4 st2 G4 → Calls Try.prog 39 #[.pointer (some ⟨p, 0, none⟩), .int .i64 3] W fun e w' => e = .returned (.int .i64 0) ∧ Goes F2 W w' (fun FF' => FbK w' p FF' A4 st2 G4) := kd 3 0 v6 v9
      have KD := Lib.hid (And.intro kd1 (And.intro kd2 kd3))
      have HU := Lib.hid (And.intro hu hF)
      have hs := hu.size
      clear hK hu hF v1 v2 v3 v4 v5 v6 v7 v8 v9 hG4 hA4 kd kd1 kd2 kd3
      go_wp2_with (first
        | ((go_at_call 36; (with_reducible refine (kr).mono ?_)); rintro e w3 ⟨rfl, hu3⟩; (have ke3 := ke _ hu3); (have HU3 := Lib.hid hu3); clear kr ke hu3)
        | ((go_at_call 62; (with_reducible refine (ke3).mono ?_)); rintro e w4 ⟨rfl, F4, hK4, hu4, hF4⟩; (have kr4 := KR.out _ _ _ hK4); (have HK4 := Lib.hid (And.intro hK4 (And.intro hu4 hF4))); clear hK4 hu4 hF4 ke3)
        | ((go_at_call 36; (with_reducible refine (kr4).mono ?_)); rintro e w5 ⟨rfl, hu5⟩; (have kd5 := KD.out.1 _ _ _ (HK4.out.1.upd0 hu5)); (have HU5 := Lib.hid hu5); clear kr4 hu5)
        | ((go_at_call 39; (with_reducible refine (kd5).mono ?_)); rintro e w6 ⟨rfl, F6, hK6, hu6, hF6⟩; (have kd6 := KD.out.2.1 _ _ _ hK6); (have HK6 := Lib.hid (And.intro hu6 hF6)); clear kd5 hK6 hu6 hF6)
        | ((go_at_call 39; (with_reducible refine (kd6).mono ?_)); rintro e w7 ⟨rfl, F7, hK7, hu7, hF7⟩; (have kd7 := KD.out.2.2 _ _ _ hK7); (have HK7 := Lib.hid (And.intro hu7 hF7)); clear kd6 hK7 hu7 hF7)
        | ((go_at_call 39; (with_reducible refine (kd7).mono ?_)); rintro e w8 ⟨rfl, F8, hK8, hu8, hF8⟩)
        | fail)
      go_ret
      obtain ⟨hu, hF⟩ := HU.out
      obtain ⟨hK4, hu4, hF4⟩ := HK4.out
      obtain ⟨hu6, hF6⟩ := HK6.out
      obtain ⟨hu7, hF7⟩ := HK7.out
      have hu3 := HU3.out
      have hu5 := HU5.out
      have s3 := hu3.size
      have s4 := hu4.size
      have s5 := hu5.size
      have s6 := hu6.size
      have s7 := hu7.size
      have f4 : ∀ x, x ∈ F4 → w.heap.size ≤ x := fun x hx => by rcases hF4 x hx with h | h; exact hF x h; omega
      have f6 : ∀ x, x ∈ F6 → w.heap.size ≤ x := fun x hx => by rcases hF6 x hx with h | h; exact f4 x h; omega
      have f7 : ∀ x, x ∈ F7 → w.heap.size ≤ x := fun x hx => by rcases hF7 x hx with h | h; exact f6 x h; omega
      exact ⟨rfl, (((((hu.trans hu3).joined hu4 (fun x hx => Or.inr (hF x hx))).trans hu5).joined hu6 (fun x hx => Or.inr (f4 x hx))).joined hu7 (fun x hx => Or.inr (f6 x hx))).joined hu8 (fun x hx => Or.inr (f7 x hx))⟩
theorem fnewK_yes (n : Nat) (w : World) (h : n ≤ 65536) : Calls Try.prog 34 #[.int .i64 (n : Int)] w fun e w' => ∃ p F, e = .returned (.tuple #[.pointer (some ⟨p, 0, none⟩), .int .i64 0]) ∧ nestFb.at_ w' p F (NS.new n) 0 FG.none ∧ Upd [] w w' ∧ ∀ x, x ∈ F → w.heap.size ≤ x := fnew_yes n w h
theorem fb_ty : nestFb.ty = 72 := rfl
end Go.Proofs.Ytighgbdijagolaa
