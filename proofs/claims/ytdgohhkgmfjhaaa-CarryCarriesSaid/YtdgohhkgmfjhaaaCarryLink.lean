/-
  The forests of package carry, Link. Conditions: those of each lemma.
-/
import Derived.Test.YtdgohhkgmfjhaaaCarry3
import Derived.Test.YtdgohhkgmfjhaaaAppend
import Derived.Deep.RegionHeldLaw
import Derived.Deep.RegionLaw
set_option linter.unusedVariables false
set_option linter.unusedSimpArgs false
namespace Go.Proofs.Ytdgohhkgmfjhaaa
open Go Go.RowKit

def linkS (S : CS) (v : Value) (a b : Nat) : CS := (S.setV a v (S.k a ++ [(b : Int)])).setU b a

set_option maxHeartbeats 1000000 in
theorem link_yes (bt ba lo n : Nat) (S : CS) (a b : Nat) (w : World) (h : ForestAt w bt ba lo n S) (ha : a < n) (hb : b < n) (hra : rootB n S a = true) (hrb : rootB n S b = true) (hne : a ≠ b) (hd : degOf n S a = degOf n S b) (hlen : (S.k a).length + 1 ≤ n) :
    Calls Try.prog 44 #[.pointer (some ⟨bt, 0, none⟩), .int .i64 (a : Int), .int .i64 (b : Int)] w fun e w' => ∃ v, e = .returned (.bool true) ∧ ForestAt w' bt ba lo n (linkS S v a b) ∧ Upd (ba :: S.blk n) w w' ∧ (∀ g, g ∈ (linkS S v a b).blk n → g ∈ S.blk n ∨ w.heap.size ≤ g) := by
  have hle := h.le
  have hl1 := h.lt1
  have hl2 := h.lt2
  have hlow := h.low
  have hnb := h.ne
  have k1 := root_any bt ba lo n S a w h
  have k2 := root_any bt ba lo n S b w h
  have k3 := degree_any bt ba lo n S a w h
  have k4 := degree_any bt ba lo n S b w h
  rw [hra] at k1
  rw [hrb] at k2
  rw [hd] at k3
  have b1 : ((a : Int) == (b : Int)) = false := by simp; omega
  have ho := h.own a ha
  obtain ⟨sa, cap, hv, hcap⟩ := own_slice ho
  have hFx : ∀ g, g ∈ (S.v a).ownBlock.toList → lo ≤ g ∧ g < w.heap.size := fun g hg => ho.lt g (by simpa using hg)
  have r1 : ∀ W, Upd (S.v a).ownBlock.toList w W → W.cell? ⟨bt, 0, none⟩ = some (.slice (some ⟨ba, 0, none⟩) n n) := fun W hW => by
    rw [hW.cell h.head.lt (fun hm => by have := hFx _ hm; simp at this; omega)]; exact h.head.cell 0 (by omega)
  have r2 : ∀ W, Upd (S.v a).ownBlock.toList w W → W.cell? ⟨ba, a * 2, none⟩ = some (S.v a) := fun W hW => by
    rw [hW.cell h.row.lt (fun hm => by have := hFx _ hm; simp at this; omega)]; exact h.row.cellAt (a * 2) (by omega) (nodeCell0 S a)
  have r3 : ∀ W, Upd (S.v a).ownBlock.toList w W → W.cell? ⟨ba, b * 2 + 1, none⟩ = some (.int .i64 (S.u b)) := fun W hW => by
    rw [hW.cell h.row.lt (fun hm => by have := hFx _ hm; simp at this; omega)]; exact h.row.cellAt (b * 2 + 1) (by omega) (nodeCell1 S b)
  have q1 : ∀ W, Upd (S.v a).ownBlock.toList w W → W.frozen? ⟨ba, a * 2, none⟩ = false := fun W hW => by
    rw [hW.frozen h.row.lt (fun hm => by have := hFx _ hm; simp at this; omega)]; exact h.row.free _
  have q2 : ∀ W, Upd (S.v a).ownBlock.toList w W → W.frozen? ⟨ba, b * 2 + 1, none⟩ = false := fun W hW => by
    rw [hW.frozen h.row.lt (fun hm => by have := hFx _ hm; simp at this; omega)]; exact h.row.free _
  have s0 : Upd (S.v a).ownBlock.toList w w := Upd.refl _ _
  have H := Lib.hid h
  have HV := Lib.hid hv
  have hk := intsZ_len (S.k a)
  have HLEN := Lib.hid hlen
  generalize hva : S.v a = va at *
  have HVA := Lib.hid hva
  subst hv
  clear h hra hrb hd hva hne
  go_enter Try.func44, Try.ntmps44
  go_wp2_with (first
    | (go_at_call 34; (with_reducible refine (k1).mono ?_); rintro e w9 ⟨rfl, hw9⟩; rw [hw9]; clear hw9 w9)
    | (go_at_call 34; (with_reducible refine (k2).mono ?_); rintro e w9 ⟨rfl, hw9⟩; rw [hw9]; clear hw9 w9)
    | (go_at_call 12; (with_reducible refine (k3).mono ?_); rintro e w9 ⟨rfl, hw9⟩; rw [hw9]; clear hw9 w9)
    | (go_at_call 12; (with_reducible refine (k4).mono ?_); rintro e w9 ⟨rfl, hw9⟩; rw [hw9]; clear hw9 w9))
  have s1 : Upd (Value.slice sa (S.k a).length cap).ownBlock.toList w (w.drew.alloc (.cells #[.int .i64 (b : Int)] 3)) := s0.drew.alloc _
  have g1 := r1 _ s0
  have g2 := r2 _ s0
  have a1 := r1 _ (s0.alloc (.cells #[.int .i64 (b : Int)] 3))
  have a2 := r2 _ (s0.alloc (.cells #[.int .i64 (b : Int)] 3))
  go_region_law
    (first
      | (refine step_append_one rfl _ _ 30 rfl lo 3 (.int .i64 0) 1 8 Try.underlying30 intInfo rfl (by decide) (.slice sa (S.k a).length cap) (S.k a).length (intsZ (S.k a)) rfl (ho.drew.alloc _) w.heap.size [.int .i64 (b : Int)] rfl rfl (fun j u hj => newCell0 w [.int .i64 (b : Int)] 3 j u hj) (by simp [Value.oneCell']) (by unfold maxLen; omega) (by omega) (by simp; omega) ?_
         intro v2 w2 ho2 hu2 hv2
         have hS2 : Upd (Value.slice sa (S.k a).length cap).ownBlock.toList w w2 := s1.trans hu2
         have g3 := r1 _ hS2
         have g4 := r2 _ hS2
         have g5 := q1 _ hS2
         obtain ⟨a2, cap2, rfl, hcap2⟩ := own_slice ho2))
  all_goals
    have ho3 : w2.ownsRow lo 3 1 (.slice a2 ((S.k a).length + 1) cap2) (S.k a ++ [(b : Int)]).length (intsZ (S.k a ++ [(b : Int)])) := by rw [intsZ_append, List.length_append]; exact ho2
    have hF := H.out.setKids a ha (.slice a2 ((S.k a).length + 1) cap2) (S.k a ++ [(b : Int)]) hS2 (fun g hg => by rw [HVA.out]; simpa using hg) ho3 (fun g hg => by
      rcases hv2 with h | h
      · rw [h] at hg; exact Or.inl (by rw [HVA.out]; exact hg)
      · rw [h] at hg; simp at hg; exact Or.inr (by omega)) (by rw [List.length_append]; exact hlen)
    have e0 := hF.head.cell 0 (by omega)
    have e1 := hF.row.cell (b * 2 + 1) (by omega)
    have e2 := hF.row.free (b * 2 + 1)
    have HF := Lib.hid hF
    have HV2 := Lib.hid hv2
    clear hF hv2 ho2 ho3 r1 r2 r3 q1 q2
    go_wp2
    go_ret
    refine ⟨_, rfl, HF.out.setUp b hb a, ?_, fun g hg => ?_⟩
    · refine ((hS2.mono (fun g hg => ?_)).setCell (Or.inl (by simp)) _).setCell (Or.inl (by simp)) _
      simp only [List.mem_cons]
      refine Or.inr ((S.mem_blk n g).2 ⟨a, ha, ?_⟩)
      rw [HVA.out]; simpa using hg
    · rcases S.setV_blk a (.slice a2 ((S.k a).length + 1) cap2) (S.k a ++ [(b : Int)]) n g hg with h | h
      · exact Or.inl h
      · rcases HV2.out with h2 | h2
        · exact Or.inl ((S.mem_blk n g).2 ⟨a, ha, by rw [HVA.out, ← h2]; exact h⟩)
        · rw [h2] at h; simp at h; exact Or.inr (by omega)
end Go.Proofs.Ytdgohhkgmfjhaaa
