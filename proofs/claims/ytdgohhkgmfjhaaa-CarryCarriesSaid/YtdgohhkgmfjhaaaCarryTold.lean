/-
  A forest's things, as it tells them: the walk of told. Conditions: those of each lemma.
-/
import Derived.Test.YtdgohhkgmfjhaaaFrAll
import Derived.Test.YtdgohhkgmfjhaaaFrRel
set_option linter.unusedVariables false
set_option linter.unusedSimpArgs false
namespace Go.Proofs.Ytdgohhkgmfjhaaa
open Go Go.RowKit

def toldZ (n : Nat) (F : CF) : List (List Int) := (List.range n).map F.k
theorem told_rel (n : Nat) (F : CF) : RelZ n F (toldZ n F) := ⟨by simp [toldZ], fun x hx => by simp [toldZ, hx]⟩

theorem SlI.less {w : World} {F G : List Nat} {v : Value} {xs : List Int} (h : SlI w F v xs) (hG : ∀ g, g ∈ G → g ∈ F) : SlI w G v xs := by
  obtain ⟨a, cap, rfl, h1, h2, h3⟩ := h
  exact ⟨a, cap, rfl, h1, h2, fun j u hj => by obtain ⟨g, off, rfl, hg, hn, hc⟩ := h3 j u hj; exact ⟨g, off, rfl, hg, fun hm => hn (hG g hm), hc⟩⟩
set_option maxHeartbeats 2000000 in
theorem told_any (F : List Nat) (w : World) (bt ba lo n : Nat) (S : CS) (h : ForestAt w bt ba lo n S) (hF : ∀ g, g ∈ F → g < w.heap.size) :
    Calls Try.prog 18 #[.pointer (some ⟨bt, 0, none⟩), .int .i64 (n : Int)] w fun e w' => ∃ a c, e = .returned (.slice a n c) ∧ FrAt w' F (.slice a n c) (toldZ n S.f) ∧ Upd [] w w' := by
  have hle := h.le
  have kK := fun W (hW : Upd [] w W) (y : Nat) => kids_any bt ba lo n S y W (h.upd0 hW)
  have hk : ∀ y, y < n → kidsOf n S (y : Nat) = S.k y := fun y hy => by unfold kidsOf; rw [if_pos (by omega)]; simp
  have HK := Lib.hid hk
  have HKK := Lib.hid kK
  clear hk kK h
  go_enter Try.func18, Try.ntmps18
  go_wp2_with (at_make; refine wpList_make_row rfl _ 43 rfl 30 (.slice none 0 0) 1 24 Try.underlying43 kidsInfo n rfl (by omega) (by unfold maxLen; omega) ?_; intro w1 hr1 hu1)
  have hlt := hr1.lt
  go_loopw [11] (fun s11 wr => ∃ (y : Nat) (g : Nat → Value), y ≤ n ∧ s11 = .int .i64 (y : Int) ∧ RowAt wr w.heap.size 30 (n * 1) g ∧ (∀ j, j < y → SlI wr (w.heap.size :: F) (g j) (S.k j)) ∧ Upd [] w wr) (fun s11 _ => n - (intOf s11).toNat)
  case atStart => exact ⟨0, _, by omega, rfl, hr1, fun j hj => by omega, hu1⟩
  case round =>
    obtain ⟨y, g, hy, rfl, hr, hs, hu⟩ := hrel
    by_cases hyn : y < n
    · have k1 := HKK.out wr hu y
      rw [HK.out y hyn] at k1
      have HS := Lib.hid hs
      have HR := Lib.hid hr
      have hlt2 := hr.lt
      clear hs hr hr1
      go_wp2_with ((go_at_call 13; (with_reducible refine (k1).mono ?_)); rintro e w2 ⟨v2, rfl, hL2, hu2⟩; have s2 := SlI.of_lst (F := w.heap.size :: F) hL2 (fun g hg => by rcases List.mem_cons.1 hg with rfl | hg; (first | omega | exact Nat.lt_of_lt_of_le (by assumption) (by assumption)); have := hF g hg; omega); obtain ⟨a2, c2, hv2, _⟩ := s2.shape'; subst hv2; have r2 := HR.out.upd hu2 (by simp); have d2 := r2.cell y (by omega); have f2 := r2.free y)
      go_roundw
      case rel =>
        have hu3 : Upd [w.heap.size] w2 (w2.setCell ⟨w.heap.size, y, none⟩ (.slice a2 (S.k y).length c2)) := (Upd.refl _ _).setCell (Or.inl (by simp)) _
        refine ⟨y + 1, _, by omega, by go_num, r2.set _ _, fun j hj => ?_, (hu.trans hu2).setCell (Or.inr (by simp)) _⟩
        by_cases hjy : j = y
        · subst hjy; rw [if_pos rfl]; exact s2.upd hu3 (by simp)
        · rw [if_neg hjy]; exact ((HS.out j (by omega)).upd hu2 (by simp)).upd hu3 (by simp)
      case measure => simp [intOf]; omega
    · obtain rfl : y = n := by omega
      have HS := Lib.hid hs
      clear hs hr1
      go_wp2
      go_ret
      have hl : (toldZ y S.f).length = y := by simp [toldZ]
      refine ⟨_, _, rfl, ⟨some ⟨w.heap.size, 0, none⟩, y, by rw [hl], by rw [hl]; exact Nat.le_refl _, by omega, fun j l hj => ?_⟩, hu⟩
      have hjy : j < y := by have := (List.getElem?_eq_some_iff.1 hj).1; rwa [hl] at this
      have hlj : l = S.k j := by have := (told_rel y S.f).2 j hjy; rw [hj] at this; exact Option.some.inj this
      subst hlj
      exact ⟨w.heap.size, 0, g j, rfl, hr.lt, fun hm => by have := hF _ hm; omega, by rw [Nat.zero_add]; exact hr.cell j (by omega), (HS.out j hjy).less (fun g hg => List.mem_cons_of_mem _ hg)⟩
end Go.Proofs.Ytdgohhkgmfjhaaa
