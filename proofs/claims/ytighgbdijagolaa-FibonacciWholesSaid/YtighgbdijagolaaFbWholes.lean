/-
  The law FibonacciWholes: its walk. Conditions: those of each lemma.
-/
import Derived.Test.YtighgbdijagolaaFbAlive
import Derived.Test.YtighgbdijagolaaFbCost
set_option linter.unusedVariables false
set_option linter.unusedSimpArgs false
namespace Go.Proofs.Ytighgbdijagolaa
open Go Go.RowKit

set_option maxHeartbeats 4000000 in
theorem fbwholes_any (n : Int) (v : Value) (len : Nat) (f : Nat → AC) (w : World) (hn : (Lit.int .u8 n).wf = true) (h : ActsN w v len f) : Calls Try.prog 15 #[.int .u8 n, v] w fun e w' => e = .returned (.bool true) ∧ Upd [] w w' := by
  have hb : 0 ≤ n ∧ n < 256 := by simp [Lit.wf, IntKind.min, IntKind.max, IntKind.signed, IntKind.bits] at hn; omega
  clear hn
  obtain ⟨m, rfl⟩ : ∃ m : Nat, n = m := ⟨n.toNat, by omega⟩
  obtain ⟨k, hk, hk2⟩ : ∃ k : Nat, (m : Int) % 200 = k ∧ k < 200 := ⟨m % 200, by omega, by omega⟩
  have kn := fun W => fnewK_yes k W (by omega)
  have hl : len ≤ maxLen := by obtain ⟨a, cap, rfl, hl, _⟩ := h; exact hl
  have H := Lib.hid h
  obtain ⟨a, cap, hv⟩ : ∃ a cap, v = .slice a len cap := by obtain ⟨a, cap, rfl, _⟩ := h; exact ⟨a, cap, rfl⟩
  subst hv
  clear h
  unfold maxLen at hl
  by_cases hbig : len ≤ 300
  · have hb1 : ¬ (len : Int) > 300 := by omega
    have HF : Hid (∀ (W : World) (F : List Nat), w.heap.size ≤ W.heap.size → (∀ x, x ∈ F → W.heap.size ≤ x) → 0 < len → ∀ a' cap', Value.slice a len cap = .slice (some a') len cap' → a'.block ∉ F) := fun W F hW hF hp a' cap' e hm => by
      obtain ⟨a2, cap2, e2, _, _, h3⟩ := H.out
      obtain ⟨b, off, e3, hb3, _⟩ := h3 hp
      have : a = some a' := by injection e
      have h4 : a = a2 := by injection e2
      rw [h4, e3] at this
      have : a'.block = b := by injection this with this; rw [← this]
      have := hF _ hm
      omega
    go_enter Try.func15, Try.ntmps15
    go_wp2_with (first
      | ((go_at_call 33; (with_reducible refine (falive_any _).mono ?_)); rintro e w1 ⟨rfl, hu1⟩)
      | ((go_at_call 34; (with_reducible refine (kn _).mono ?_)); rintro e w2 ⟨p, F, rfl, hK, hu2, hF⟩; (have ks2 := fun W (hW : Upd [] w2 W) => bigWholes_any (K := nestFb) 5 0 k len f (nestFb.upd hK hW (by simp)) fbInv (fb_inv0 _) fb_cost fb_le (by omega) (((H.out.upd hu1).upd hu2).upd hW) (HF.out w1 F hu1.size hF) (by omega)); rw [fb_ty] at ks2)
      | ((go_at_call 41; (with_reducible refine (config16 _).mono ?_)); rintro e w3 ⟨rfl, hu3⟩)
      | ((go_at_call 40; (with_reducible refine (ks2 _ hu3).mono ?_)); rintro e w4 ⟨rfl, F4, -, hu4, hF4⟩)
      | fail)
    go_ret
    exact ⟨rfl, hu1.trans ((hu2.trans hu3).joined hu4 (fun x hx => Or.inr (hF x hx)))⟩
  · have hb1 : (len : Int) > 300 := by omega
    go_enter Try.func15, Try.ntmps15
    go_wp2_with (first
      | ((go_at_call 33; (with_reducible refine (falive_any _).mono ?_)); rintro e w1 ⟨rfl, hu1⟩)
      | ((go_at_call 34; (with_reducible refine (kn _).mono ?_)); rintro e w2 ⟨p, F, rfl, hK, hu2, hF⟩)
      | fail)
    go_ret
    exact ⟨by first | rfl | exact ret_bool (by simp; omega), hu1.trans hu2⟩
end Go.Proofs.Ytighgbdijagolaa
