/-
  The document's Same on lists wherever they lie. Conditions: those of each lemma.
-/
import Derived.Test.YtaeipfpdimjfoaaSameW
set_option linter.unusedVariables false
set_option linter.unusedSimpArgs false
namespace Go.Proofs.Ytaeipfpdimjfoaa
open Go Go.RowKit

set_option maxHeartbeats 1000000 in
theorem same_sl (w : World) (F1 F2 : List Nat) (va vb : Value) (za zb : List Int) (ha : SlI w F1 va za) (hb : SlI w F2 vb zb) :
    Calls Try.prog 8 #[va, vb] w fun e w' => e = .returned (.bool (decide (za = zb))) ∧ ∃ k, w' = w.drewN k := by
  obtain ⟨a, ca, rfl, hla, hca, hpa⟩ := ha
  obtain ⟨b, cb, rfl, hlb, hcb, hpb⟩ := hb
  have HA := Lib.hid hpa
  have HB := Lib.hid hpb
  clear hpa hpb
  by_cases hl : za.length = zb.length
  · have hl' : ((za.length : Int) != (zb.length : Int)) = false := by rw [hl]; simp
    generalize hlen : za.length = len at *
    have HLEN := Lib.hid (And.intro hlen hl)
    have hll : zb.length = len := hl.symm
    rw [hll] at *
    clear hl hll hlen hl'
    go_enter Try.func8, Try.ntmps8
    go_wp2
    go_loopw [13] (fun i wr => ∃ k : Nat, k ≤ len ∧ i = .int .i64 (k : Int) ∧ (∀ j, j < k → za.getD j 0 = zb.getD j 0) ∧ ∃ d, wr = w.drewN d) (fun i _ => len - (intOf i).toNat)
    case atStart => exact ⟨0, by omega, rfl, fun j hj => by omega, 0, rfl⟩
    case round =>
      obtain ⟨k, hk, rfl, he, d, rfl⟩ := hrel
      have HE := Lib.hid he
      clear he
      by_cases hlt : k < len
      · obtain ⟨ga, oa, rfl, _, _, c1⟩ := HA.out k (za.getD k 0) (by simp [List.getD_eq_getElem?_getD, HLEN.out.1, hlt])
        obtain ⟨gb, ob, rfl, _, _, c2⟩ := HB.out k (zb.getD k 0) (by simp [List.getD_eq_getElem?_getD, ← HLEN.out.2, hlt])
        have HP : Hid (∀ j, j < k + 1 → za.getD k 0 = zb.getD k 0 → za.getD j 0 = zb.getD j 0) := fun j hj e => by
          rcases (by omega : j < k ∨ j = k) with h | h
          · exact HE.out j h
          · rw [h]; exact e
        have HN : Hid (za.getD k 0 ≠ zb.getD k 0 → ¬ za = zb) := fun e1 e2 => e1 (by rw [e2])
        generalize za.getD k 0 = x1 at *
        generalize zb.getD k 0 = x2 at *
        by_cases hxx : x1 = x2
        · have b1 : (x1 != x2) = false := by simpa using hxx
          have HXX := Lib.hid hxx
          clear hxx
          go_wp2
          go_quiet (fail)
          go_wp2
          go_roundw
          case rel => exact ⟨k + 1, by omega, by go_num, fun j hj => HP.out j hj HXX.out, _, rfl⟩
          case measure => simp [intOf]; omega
        · have b1 : (x1 != x2) = true := by simpa using hxx
          have HXX := Lib.hid (HN.out hxx)
          clear hxx
          go_wp2
          go_quiet (fail)
          go_wp2
          go_ret
          exact ⟨ret_bool (by simp [HXX.out]), _, by rw [World.drewN_drewN]⟩
      · obtain rfl : k = len := by omega
        have HE2 := Lib.hid (same_at (by rw [HLEN.out.1, HLEN.out.2]) (fun j hj => HE.out j (by rw [← HLEN.out.1]; exact hj)))
        go_wp2
        go_ret
        exact ⟨ret_bool (by simp [HE2.out]), _, rfl⟩
  · have hl' : ((za.length : Int) != (zb.length : Int)) = true := by simp; omega
    have hne := Lib.hid (same_len_ne hl)
    clear hl
    go_enter Try.func8, Try.ntmps8
    go_wp2
    go_ret
    exact ⟨ret_bool (by simp [hne.out]), 0, rfl⟩
theorem same_yes (w : World) (F1 F2 : List Nat) (va vb : Value) (z : List Int) (ha : SlI w F1 va z) (hb : SlI w F2 vb z) :
    Calls Try.prog 8 #[va, vb] w fun e w' => e = .returned (.bool true) ∧ ∃ k, w' = w.drewN k :=
  (same_sl w F1 F2 va vb z z ha hb).mono fun e w' ⟨he, h⟩ => ⟨by rw [he, decide_eq_true rfl], h⟩
theorem SlI.any {w : World} {F : List Nat} {v : Value} {xs : List Int} (h : SlI w F v xs) : SlI w [] v xs := by
  obtain ⟨a, cap, rfl, h1, h2, h3⟩ := h
  exact ⟨a, cap, rfl, h1, h2, fun j u hj => by obtain ⟨g, off, rfl, hg, _, hc⟩ := h3 j u hj; exact ⟨g, off, rfl, hg, by simp, hc⟩⟩
/-- A row made here: of these integers. -/
theorem sl_row (W : World) (g : Nat) (hg : g = W.heap.size) (F : List Nat) (xs : List Int) (hn : xs.length ≤ 1000000) (hF : ∀ g, g ∈ F → g < W.heap.size) : SlI (W.alloc (.cells (intsZ xs).toArray 3)) F (.slice (some ⟨g, 0, none⟩) xs.length xs.length) xs := by
  subst hg
  refine ⟨_, xs.length, rfl, by omega, by omega, fun j u hj => ⟨W.heap.size, 0, rfl, by simp, fun hm => by have := hF _ hm; omega, ?_⟩⟩
  rw [Nat.zero_add]
  exact newCell0 W (intsZ xs) 3 j _ (by unfold intsZ; rw [List.getElem?_map, hj]; rfl)
end Go.Proofs.Ytaeipfpdimjfoaa
