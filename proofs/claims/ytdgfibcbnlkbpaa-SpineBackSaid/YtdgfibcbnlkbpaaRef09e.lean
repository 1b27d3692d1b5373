/-
  The document's trees (haycockref09): Turn. Conditions: those of each lemma.
-/
import Derived.Test.YtdgfibcbnlkbpaaRef09d
set_option linter.unusedVariables false
set_option linter.unusedSimpArgs false
namespace Go.Proofs.Ytdgfibcbnlkbpaa
open Go Go.RowKit

set_option maxHeartbeats 2000000 in
theorem rturn_any (w : World) (lo : Nat) (n p : Int) (v : Value) (l : List Hg) (h : LstAt w lo v l.length (hgCells l)) (hl : l.length ≤ 1000) (hlo : lo ≤ w.heap.size) :
    Calls Try.prog 54 #[.agg #[.int .i64 n, v], .int .i64 p] w fun e w' => ∃ v', e = .returned (.tuple #[.agg #[.int .i64 n, v'], .bool (decide (0 ≤ p ∧ p < n))]) ∧ LstAt w' w.heap.size v' (turnL l p).length (hgCells (turnL l p)) ∧ Upd [] w w' := by
  obtain ⟨a, cap, rfl, hcp, hlc, hp⟩ := h.open
  have k3 := fun W => rhas_any W n p (.slice a l.length cap) rfl _ rfl
  have HP := Lib.hid hp
  clear hp h
  generalize hlen : l.length = len at *
  have HLEN := Lib.hid hlen
  clear hlen
  generalize decide (0 ≤ p ∧ p < n) = z1 at k3
  have g0 : ((w.alloc (.cells #[.int .i64 n, .slice a len cap] 52)).alloc (.cells #[.int .i64 0, .slice none 0 0] 52)).cell? ⟨w.heap.size, 0, none⟩ = some (.int .i64 n) := by simp
  have g1 : ((w.alloc (.cells #[.int .i64 n, .slice a len cap] 52)).alloc (.cells #[.int .i64 0, .slice none 0 0] 52)).cell? ⟨w.heap.size, 1, none⟩ = some (.slice a len cap) := by simp
  have hR := rowAt_new (w.alloc (.cells #[.int .i64 n, .slice a len cap] 52)) [.int .i64 0, .slice none 0 0] 52
  rw [World.size_alloc] at hR
  have hB : ∀ W, Upd [(w.heap.size + 1 + 1)] (((w.alloc (.cells #[.int .i64 n, .slice a len cap] 52)).alloc (.cells #[.int .i64 0, .slice none 0 0] 52)).alloc (.cells #[.int .i64 n, .slice none 0 0] 52)) W → Upd [] w W := fun W hW => (((Upd.refl [] w).alloc _).alloc _).joined (((Upd.refl [(w.heap.size + 1 + 1)] ((w.alloc (.cells #[.int .i64 n, .slice a len cap] 52)).alloc (.cells #[.int .i64 0, .slice none 0 0] 52))).alloc _).trans hW) (fun x hx => Or.inr (by simp at hx; omega))
  have q0 : ∀ W, Upd [(w.heap.size + 1 + 1)] (((w.alloc (.cells #[.int .i64 n, .slice a len cap] 52)).alloc (.cells #[.int .i64 0, .slice none 0 0] 52)).alloc (.cells #[.int .i64 n, .slice none 0 0] 52)) W → RowAt W (w.heap.size + 1) 52 2 (fun j => [Value.int .i64 0, .slice none 0 0].getD j undef) := fun W hW => (hR.alloc _).upd hW (by simp)
  have q1 : ∀ W, Upd [(w.heap.size + 1 + 1)] (((w.alloc (.cells #[.int .i64 n, .slice a len cap] 52)).alloc (.cells #[.int .i64 0, .slice none 0 0] 52)).alloc (.cells #[.int .i64 n, .slice none 0 0] 52)) W → W.cell? ⟨w.heap.size, 0, none⟩ = some (.int .i64 n) ∧ W.cell? ⟨w.heap.size, 1, none⟩ = some (.slice a len cap) := fun W hW => ⟨by rw [hW.cell (by simp; omega) (by simp; omega)]; exact ((Upd.refl [] _).alloc _).was (by simp), by rw [hW.cell (by simp; omega) (by simp; omega)]; exact ((Upd.refl [] _).alloc _).was (by simp)⟩
  clear hR g0 g1
  go_enter Try.func54, Try.ntmps54
  go_wp2
  go_loopw [15] (fun i wr => ∃ (k : Nat) (vo : Value), k ≤ len ∧ i = .int .i64 (k : Int) ∧ RowAt wr (w.heap.size + 1 + 1) 52 2 (fun j => if j = 0 then .int .i64 n else vo) ∧ wr.ownsRow ((w.heap.size + 1 + 1) + 1) 88 3 vo (turnL (l.take k) p).length (hgCells (turnL (l.take k) p)) ∧ Upd [(w.heap.size + 1 + 1)] (((w.alloc (.cells #[.int .i64 n, .slice a len cap] 52)).alloc (.cells #[.int .i64 0, .slice none 0 0] 52)).alloc (.cells #[.int .i64 n, .slice none 0 0] 52)) wr) (fun i _ => len - (intOf i).toNat)
  case atStart =>
    have hN := rowAt_new ((w.alloc (.cells #[.int .i64 n, .slice a len cap] 52)).alloc (.cells #[.int .i64 0, .slice none 0 0] 52)) [.int .i64 n, .slice none 0 0] 52
    rw [World.size_alloc, World.size_alloc] at hN
    exact ⟨0, .slice none 0 0, by omega, rfl, hN.ext (fun j hj => by simp at hj; rcases (by omega : j = 0 ∨ j = 1) with rfl | rfl <;> rfl), World.ownsRow_nil _ _ _ _, Upd.refl _ _⟩
  case round =>
    obtain ⟨k, vo, hk, rfl, hrow, hown, hu⟩ := hrel
    have hul := hu.size
    simp only [World.size_alloc] at hul
    by_cases hlt : k < len
    · obtain ⟨g, rfl, hg1, hg2, hx⟩ := HP.out (by omega)
      obtain ⟨⟨hp, hxx, hr⟩, hhk⟩ : ∃ hh, l[k]? = some hh := ⟨l[k]'(by rw [HLEN.out]; exact hlt), by simp⟩
      obtain ⟨z0, z1', z2'⟩ := hg_at l k _ hhk
      have c0 := (hB _ hu).was (hx _ _ z0)
      have c1 := (hB _ hu).was (hx _ _ z1')
      have c2 := (hB _ hu).was (hx _ _ z2')
      have d1 := fun o => ((Upd.refl [] wr).alloc o).was (hrow.cellAt 1 (by omega) (v := vo) rfl)
      have hcl : (turnL (l.take k) p).length ≤ 1000 := by unfold turnL; rw [List.length_map, List.length_take]; omega
      have HS := Lib.hid (turn_snoc l p k _ hhk)
      have HB := Lib.hid hB
      have HQ := Lib.hid (And.intro q0 q1)
      clear hx z0 z1' z2' hhk hB q0 q1
      by_cases hxe : hp = p
      · have b1 : (hp == p) = true := by simpa using hxe
        rw [if_pos hxe] at HS
        clear hxe
        go_wp2_with ((at_builtin; refine wpList_append_sep rfl _ _ 50 rfl ((w.heap.size + 1 + 1) + 1) 88 (.agg #[.int .i64 0, .int .i64 0, .bool false]) 3 24 Try.underlying50 hungInfo rfl (by decide) _ _ _ rfl (hown.alloc _) [.int .i64 (hp), .int .i64 (hxx), .bool (!hr)] rfl (by simp [Value.oneCell']) (by first | rfl | (rw [World.size_alloc]; rfl)) (by unfold maxLen; omega) (by omega) ((by simp; omega)) ?_; intro v2 w2 ho2 hu2 hs2); obtain ⟨a2, cap2, rfl, hc2⟩ := own_slice ho2; have hb2 := below_of_own (hown.alloc _) (by simp; omega) hu2; have hrow2 := (hrow.alloc _).same (hb2.block _ (by omega)); have e1 := hrow2.cellAt 1 (by omega) (v := vo) rfl; have e2 := hrow2.free 1)
        have hu3 := (hu.alloc _).over hb2 (by simp)
        go_roundw
        case rel => exact ⟨k + 1, _, by omega, by go_num, (hrow2.set 1 _).ext (fun j hj => by rcases (by omega : j = 0 ∨ j = 1) with rfl | rfl <;> rfl), by rw [HS.out, hg_append, List.length_append]; exact owns_upd ho2 ((Upd.refl [w.heap.size + 1 + 1] _).setCell (Or.inl (by simp)) _) (fun k hk hm => by have := (ho2.lt k hk).1; simp at hm; omega), hu3.setCell (Or.inl (by simp)) _⟩
        case measure => simp [intOf]; omega
      · have b1 : (hp == p) = false := by simpa using hxe
        rw [if_neg hxe] at HS
        clear hxe
        go_wp2_with ((at_builtin; refine wpList_append_sep rfl _ _ 50 rfl ((w.heap.size + 1 + 1) + 1) 88 (.agg #[.int .i64 0, .int .i64 0, .bool false]) 3 24 Try.underlying50 hungInfo rfl (by decide) _ _ _ rfl (hown.alloc _) [.int .i64 (hp), .int .i64 (hxx), .bool (hr)] rfl (by simp [Value.oneCell']) (by first | rfl | (rw [World.size_alloc]; rfl)) (by unfold maxLen; omega) (by omega) ((by simp; omega)) ?_; intro v2 w2 ho2 hu2 hs2); obtain ⟨a2, cap2, rfl, hc2⟩ := own_slice ho2; have hb2 := below_of_own (hown.alloc _) (by simp; omega) hu2; have hrow2 := (hrow.alloc _).same (hb2.block _ (by omega)); have e1 := hrow2.cellAt 1 (by omega) (v := vo) rfl; have e2 := hrow2.free 1)
        have hu3 := (hu.alloc _).over hb2 (by simp)
        go_roundw
        case rel => exact ⟨k + 1, _, by omega, by go_num, (hrow2.set 1 _).ext (fun j hj => by rcases (by omega : j = 0 ∨ j = 1) with rfl | rfl <;> rfl), by rw [HS.out, hg_append, List.length_append]; exact owns_upd ho2 ((Upd.refl [w.heap.size + 1 + 1] _).setCell (Or.inl (by simp)) _) (fun k hk hm => by have := (ho2.lt k hk).1; simp at hm; omega), hu3.setCell (Or.inl (by simp)) _⟩
        case measure => simp [intOf]; omega
    · obtain rfl : k = len := by omega
      have hBB := hB _ hu
      rw [List.take_of_length_le (by rw [HLEN.out]; omega)] at hown
      obtain ⟨a2, cap2, rfl, hc2⟩ := own_slice hown
      have s1 : HasRow wr (w.heap.size + 1) 52 2 := ⟨_, q0 _ hu⟩
      have t0 : ∀ W, Upd [w.heap.size + 1] wr W → W.cell? ⟨w.heap.size + 1 + 1, 0, none⟩ = some (.int .i64 n) := fun W hW => by rw [hW.cell hrow.lt (by simp)]; exact hrow.cellAt 0 (by omega) rfl
      have t1 : ∀ W, Upd [w.heap.size + 1] wr W → W.cell? ⟨w.heap.size + 1 + 1, 1, none⟩ = some (.slice a2 (turnL l p).length cap2) := fun W hW => by rw [hW.cell hrow.lt (by simp)]; exact hrow.cellAt 1 (by omega) rfl
      have t2 : ∀ W, Upd [w.heap.size + 1] wr W → W.cell? ⟨w.heap.size, 0, none⟩ = some (.int .i64 n) := fun W hW => by rw [hW.cell (by simp; omega) (by simp)]; exact (q1 _ hu).1
      have t3 : ∀ W, Upd [w.heap.size + 1] wr W → W.cell? ⟨w.heap.size, 1, none⟩ = some (.slice a k cap) := fun W hW => by rw [hW.cell (by simp; omega) (by simp)]; exact (q1 _ hu).2
      have p2 : ∀ W, HasRow W (w.heap.size + 1) 52 2 → W.cell? ⟨w.heap.size + 1, 0, none⟩ = some (cv W ⟨w.heap.size + 1, 0, none⟩) := fun W h => h.cell 0 (by omega)
      have p3 : ∀ W, HasRow W (w.heap.size + 1) 52 2 → W.cell? ⟨w.heap.size + 1, 1, none⟩ = some (cv W ⟨w.heap.size + 1, 1, none⟩) := fun W h => h.cell 1 (by omega)
      have p4 : ∀ W, HasRow W (w.heap.size + 1) 52 2 → W.frozen? ⟨w.heap.size + 1, 0, none⟩ = false := fun W h => h.free 0
      have p5 : ∀ W, HasRow W (w.heap.size + 1) 52 2 → W.frozen? ⟨w.heap.size + 1, 1, none⟩ = false := fun W h => h.free 1
      have HO := Lib.hid hown
      have HW := Lib.hid hrow
      clear hB q0 q1 hown hrow
      go_wp2
      go_region_held3 (fun W => Upd [w.heap.size + 1] wr W ∧ HasRow W (w.heap.size + 1) 52 2)
        (first
          | assumption
          | exact ⟨(Upd.refl _ _).drew, s1⟩
          | (refine ⟨?_, ?_⟩; assumption; assumption)
          | (have hS := (by assumption : Upd _ _ _ ∧ HasRow _ _ _ _); exact ⟨(hS.1.setCell (Or.inl (by simp)) _).setCell (Or.inl (by simp)) _, (hS.2.set 0 _).set 1 _⟩))
        (first | (have hS := (by assumption : Upd _ _ _ ∧ HasRow _ _ _ _); (go_at_call 59; (with_reducible refine (k3 _).mono ?_)); rintro e w' ⟨rfl, hb⟩; have h1 := hS.1.then hb; have h2 := hS.2.upd hb (by simp)))
      go_wp2
      refine bodyPost_ret (v := .tuple #[.agg #[.int .i64 n, .slice a2 (turnL l p).length cap2], .bool z1]) (by simp [results, Try.results54, go_sem, p2, p3, h2]) rfl ⟨_, rfl, ?_, ?_⟩
      · have hX := (h1.setCell (p := ⟨w.heap.size + 1, 0, none⟩) (Or.inl (by simp)) (.int .i64 n)).setCell (p := ⟨w.heap.size + 1, 1, none⟩) (Or.inl (by simp)) (.slice a2 (turnL l p).length cap2)
        exact (LstAt.of_owns (owns_upd HO.out hX (fun k hk hm => by have := (HO.out.lt k hk).1; simp at hm; omega))).mono (by omega)
      · exact (hBB.joined h1 (fun y hy => Or.inr (by simp at hy; omega))).setCell (Or.inr (by simp)) _ |>.setCell (Or.inr (by simp)) _

end Go.Proofs.Ytdgfibcbnlkbpaa
