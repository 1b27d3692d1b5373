/-
  The example of layer 12, and the law on new forests: their walks. Conditions: those of each lemma.
-/
import Derived.Test.YtdgohhkgmfjhaaaCarryLaw
import Derived.Test.YtdgohhkgmfjhaaaSameSl
set_option linter.unusedVariables false
set_option linter.unusedSimpArgs false
namespace Go.Proofs.Ytdgohhkgmfjhaaa
open Go Go.RowKit

def e0 : CC := ⟨CS.none.f, [0], [1], [], [], 0⟩
def e1 : CC := runC [] 4 3 e0
def e2 : CC := runC [] 4 3 ⟨e1.F, [2], [3], [], [], e1.q⟩
def e3 : CC := runC [] 4 4 ⟨e2.F, [0], [2], [], [], e2.q⟩
theorem e1_ok : e1.done ∧ e1.O = [0] ∧ e1.q = 1 := by decide
theorem e2_ok : e2.done ∧ e2.O = [2] ∧ e2.q = 2 := by decide
theorem e3_ok : e3.done ∧ e3.O = [0] ∧ e3.q = 3 ∧ e3.F.k 0 = [1, 2] := by decide
theorem row_one {n : Nat} {F : CF} {x : Int} (h : 0 ≤ x ∧ x < n ∧ F.u x.toNat = -1) : RowF n F [x] := ⟨fun y hy => by simp at hy; subst hy; exact h, List.pairwise_singleton _ _⟩
theorem sl_lit (W : World) (F : List Nat) (x : Int) (hF : ∀ g, g ∈ F → g < W.heap.size) : SlI (W.alloc (.cells #[.int .i64 x] 3)) F (.slice (some ⟨W.heap.size, 0, none⟩) 1 1) [x] := by
  refine ⟨_, 1, rfl, by simp, by omega, fun j u hj => ?_⟩
  have : j = 0 := by have := (List.getElem?_eq_some_iff.1 hj).1; simp at this; omega
  subst this
  simp at hj
  subst hj
  exact ⟨W.heap.size, 0, rfl, by simp, fun hm => by have := hF _ hm; omega, newCell0 W [.int .i64 x] 3 0 _ rfl⟩
theorem FL.upd0 {w w' : World} {bt ba lo n kl bo : Nat} {S : CS} {zs : List Int} {vk : Value} {q : Nat} (h : FL w bt ba lo n kl bo S zs vk q) (hu : Upd [] w w') : FL w' bt ba lo n kl bo S zs vk q :=
  ⟨h.f.upd0 hu, h.l.upd hu (by simp), h.a, Nat.lt_of_lt_of_le h.t hu.size, h.ok⟩
theorem FL.old {w : World} {bt ba lo n kl bo : Nat} {S : CS} {zs : List Int} {vk : Value} {q : Nat} (h : FL w bt ba lo n kl bo S zs vk q) : ∀ g, g ∈ bo :: ba :: S.blk n → g < w.heap.size := fun g hg => by
  rcases List.mem_cons.1 hg with rfl | hg
  · exact h.l.row.lt
  · rcases List.mem_cons.1 hg with rfl | hg
    · exact h.f.row.lt
    · exact (h.f.blk_lo hg).2

theorem sl_lit_at (W : World) (g : Nat) (hg : g = W.heap.size) (F : List Nat) (x : Int) (hF : ∀ g, g ∈ F → g < W.heap.size) : SlI (W.alloc (.cells #[.int .i64 x] 3)) F (.slice (some ⟨g, 0, none⟩) 1 1) [x] := by
  subst hg; exact sl_lit W F x hF
theorem keys_nil (w : World) (lo : Nat) : KeysAt w lo (.slice none 0 0) [] := ⟨none, 0, rfl, by simp, fun h => by simp at h⟩
theorem fl_new {w w1 : World} {bt ba n : Nat} (hF : ForestAt w1 bt ba w1.heap.size n CS.none) (h1 : w.heap.size ≤ bt) (h2 : w.heap.size ≤ ba) (v : Value) (zs : List Int) (hk : KeysAt w1 w.heap.size v zs) :
    FL (w1.alloc (.cells #[v, .int .i64 0] 37)) bt ba w1.heap.size n w.heap.size w1.heap.size CS.none zs v 0 := by
  have hu : Upd [] w1 (w1.alloc (.cells #[v, .int .i64 0] 37)) := (Upd.refl _ _).alloc _
  have hb1 := hF.head.lt
  have hb2 := hF.row.lt
  refine ⟨hF.upd0 hu, ⟨(rowAt_new w1 [v, .int .i64 0] 37).ext (fun j hj => by rcases (by simp at hj; omega : j = 0 ∨ j = 1) with rfl | rfl <;> rfl), hk.upd hu (by simp), by omega⟩, ⟨by omega, by omega, fun hm => by have := (hF.blk_lo hm).2; omega, h1, h2, by omega⟩, by simp; omega, fok_none n⟩

set_option maxRecDepth 100000 in
set_option maxHeartbeats 4000000 in
theorem calive_any (w : World) : Calls Try.prog 9 #[] w fun e w' => e = .returned (.bool true) ∧ Upd [] w w' := by
  have kN : ∀ W, Calls Try.prog 10 #[.int .i64 4] W fun e w' => ∃ bt ba, e = .returned (.tuple #[.pointer (some ⟨bt, 0, none⟩), .int .i64 0]) ∧ ForestAt w' bt ba w'.heap.size 4 CS.none ∧ Upd [] W w' ∧ W.heap.size ≤ bt ∧ W.heap.size ≤ ba := fun W => carryNew_yes 4 W (by omega)
  go_enter Try.func9, Try.ntmps9
  go_wp2_with fail
  (with_reducible refine (kN _).mono ?_)
  rintro e w1 ⟨bt, ba, rfl, hF1, hu1, hb1, hb2⟩
  have hfl := fl_new hF1 hb1 hb2 (.slice none 0 0) [] (keys_nil _ _)
  have hbt := hF1.head.lt
  have hba := hF1.row.lt
  go_wp2_with fail
  have hw2 : ∀ x, (((w1.alloc (.cells #[.slice none 0 0, .int .i64 0] 37)).alloc (.cells #[.int .i64 0] 3)).alloc (.cells #[.int .i64 1] 3)) = x → True := fun _ _ => trivial
  have fl2 := (hfl.upd0 ((Upd.refl [] _).alloc (.cells #[.int .i64 0] 3))).upd0 ((Upd.refl [] _).alloc (.cells #[.int .i64 1] 3))
  have sa := (sl_lit_at (w1.alloc (.cells #[.slice none 0 0, .int .i64 0] 37)) (w1.heap.size + 1) (by simp) _ 0 hfl.old).upd ((Upd.refl [] _).alloc (.cells #[.int .i64 1] 3)) (by simp)
  have sb := sl_lit_at ((w1.alloc (.cells #[.slice none 0 0, .int .i64 0] 37)).alloc (.cells #[.int .i64 0] 3)) (w1.heap.size + 1 + 1) (by simp) _ 1 (hfl.upd0 ((Upd.refl [] _).alloc (.cells #[.int .i64 0] 3))).old
  (with_reducible refine (carry_law bt ba _ 4 _ _ CS.none [] _ _ _ [0] [1] 0 _ fl2 sa sb (row_one (by decide)) (row_one (by decide)) (by decide) (by omega)).mono ?_)
  rintro e w2 ⟨S1, v1, O1, q1, rfl, fl3, to1, _, oo1, so1, u1, g1⟩
  have h1 : e1 = ⟨S1.f, [], [], [], O1, q1⟩ := to1.eq (m := 3) e1_ok.1
  have hF1f : S1.f = e1.F := by rw [h1]
  obtain rfl : O1 = [0] := by rw [← e1_ok.2.1, h1]
  obtain rfl : q1 = 1 := by rw [← e1_ok.2.2, h1]
  obtain ⟨a1, c1, he1, _⟩ := so1.shape
  obtain rfl : v1 = .slice a1 1 c1 := he1
  have u1' : Upd [] w w2 := (((hu1.alloc _).alloc _).alloc _).joined u1 (fun x hx => by
    have := hfl.old x hx
    rcases List.mem_cons.1 hx with rfl | hx
    · exact Or.inr (by have := hu1.size; omega)
    · rcases List.mem_cons.1 hx with rfl | hx
      · exact Or.inr hb2
      · have := (hfl.f.blk_lo hx).1; exact Or.inr (by have := hu1.size; omega))
  clear hfl fl2 sa sb to1 u1 g1 h1
  go_wp2_with fail
  have fl4 := (fl3.upd0 ((Upd.refl [] _).alloc (.cells #[.int .i64 2] 3))).upd0 ((Upd.refl [] _).alloc (.cells #[.int .i64 3] 3))
  have sa := (sl_lit_at w2 w2.heap.size rfl _ 2 fl3.old).upd ((Upd.refl [] _).alloc (.cells #[.int .i64 3] 3)) (by simp)
  have sb := sl_lit_at (w2.alloc (.cells #[.int .i64 2] 3)) (w2.heap.size + 1) (by simp) _ 3 (fl3.upd0 ((Upd.refl [] _).alloc (.cells #[.int .i64 2] 3))).old
  (with_reducible refine (carry_law bt ba _ 4 _ _ S1 [] _ _ _ [2] [3] 1 _ fl4 sa sb (row_one (by rw [hF1f]; decide)) (row_one (by rw [hF1f]; decide)) (by decide) (by omega)).mono ?_)
  rintro e w3 ⟨S2, v2, O2, q2, rfl, fl5, to2, _, oo2, so2, u2, g2⟩
  have h2 : e2 = ⟨S2.f, [], [], [], O2, q2⟩ := by
    have := to2.eq (m := 3) (by rw [hF1f]; exact e2_ok.1)
    rw [hF1f] at this
    exact this
  have hF2f : S2.f = e2.F := by rw [h2]
  obtain rfl : O2 = [2] := by rw [← e2_ok.2.1, h2]
  obtain rfl : q2 = 2 := by rw [← e2_ok.2.2, h2]
  obtain ⟨a2, c2, he2, _⟩ := so2.shape
  obtain rfl : v2 = .slice a2 1 c2 := he2
  have hs1 := (((so1.upd ((Upd.refl [] _).alloc (.cells #[.int .i64 2] 3)) (by simp)).upd ((Upd.refl [] _).alloc (.cells #[.int .i64 3] 3)) (by simp))).fresh u2 (F' := w1.heap.size :: ba :: S2.blk 4) (fun g hg => by
    rcases List.mem_cons.1 hg with rfl | hg
    · exact Or.inl (by simp)
    · rcases List.mem_cons.1 hg with rfl | hg
      · exact Or.inl (by simp)
      · rcases g2 g hg with h | h
        · exact Or.inl (by simp [h])
        · exact Or.inr h)
  have hsz := hu1.size
  have old3 : ∀ x, x ∈ w1.heap.size :: ba :: S1.blk 4 → w.heap.size ≤ x := fun x hx => by
    rcases List.mem_cons.1 hx with rfl | hx
    · omega
    · rcases List.mem_cons.1 hx with rfl | hx
      · exact hb2
      · have := (fl3.f.blk_lo hx).1; omega
  have u2' : Upd [] w w3 := (((u1').alloc _).alloc _).joined u2 (fun x hx => Or.inr (old3 x hx))
  clear fl3 fl4 sa sb to2 u2 g2 h2 so1 old3 u1'
  go_wp2_with fail
  (with_reducible refine (carry_law bt ba _ 4 _ _ S2 [] _ _ _ [0] [2] 2 _ fl5 hs1 so2 (row_one (by rw [hF2f]; decide)) (row_one (by rw [hF2f]; decide)) (by decide) (by omega)).mono ?_)
  rintro e w4 ⟨S3, v3, O3, q3, rfl, fl6, to3, _, oo3, so3, u3, g3⟩
  have h3 : e3 = ⟨S3.f, [], [], [], O3, q3⟩ := by
    have := to3.eq (m := 4) (by rw [hF2f]; exact e3_ok.1)
    rw [hF2f] at this
    exact this
  have hF3f : S3.f = e3.F := by rw [h3]
  obtain rfl : O3 = [0] := by rw [← e3_ok.2.1, h3]
  obtain ⟨a3, c3, he3, _⟩ := so3.shape
  obtain rfl : v3 = .slice a3 1 c3 := he3
  have u3' : Upd [] w w4 := u2'.joined u3 (fun x hx => by
    rcases List.mem_cons.1 hx with rfl | hx
    · exact Or.inr (by omega)
    · rcases List.mem_cons.1 hx with rfl | hx
      · exact Or.inr hb2
      · have := (fl5.f.blk_lo hx).1; exact Or.inr (by omega))
  have hk0 : kidsOf 4 S3 0 = [1, 2] := by
    show (if (0 : Int) ≤ 0 ∧ (0 : Int) < (4 : Nat) then S3.k 0 else []) = [1, 2]
    rw [if_pos (by omega), show S3.k 0 = S3.f.k 0 from rfl, hF3f]; decide
  have hd0 : degOf 4 S3 0 = 2 := by rw [deg_f, hF3f]; decide
  have s1 := sl_row w4 w4.heap.size rfl [] [0] (by simp) (by simp)
  have k1 : Calls Try.prog 25 #[.slice a3 1 c3, .slice (some ⟨w4.heap.size, 0, none⟩) 1 1] (w4.alloc (.cells #[.int .i64 0] 3)) fun e w' => e = .returned (.bool true) ∧ ∃ k, w' = (w4.alloc (.cells #[.int .i64 0] 3)).drewN k := same_yes (w4.alloc (.cells #[.int .i64 0] 3)) [] [] _ _ [0] (so3.any.upd ((Upd.refl [] _).alloc _) (by simp)) s1
  have k2 := fun W (h : Upd [] w4 W) => degree_any bt ba _ 4 S3 0 W (fl6.f.upd0 h)
  have k3 := fun W (h : Upd [] w4 W) => kids_any bt ba _ 4 S3 0 W (fl6.f.upd0 h)
  rw [hd0] at k2
  rw [hk0] at k3
  clear hF1f hF2f hF3f h3 to3 g3 hk0 hd0
  go_wp2_with (first
    | ((go_at_call 25; (with_reducible refine (k1).mono ?_)); rintro e w5 ⟨rfl, n5, rfl⟩; have h5 : Upd [] w4 ((w4.alloc (.cells #[.int .i64 0] 3)).drewN n5) := ((Upd.refl _ _).alloc _).drewN _)
    | (go_at_call 12; (with_reducible refine (k2 _ h5).mono ?_); rintro e w9 ⟨rfl, hw9⟩; rw [hw9]; clear hw9 w9)
    | ((go_at_call 13; (with_reducible refine (k3 _ h5).mono ?_)); rintro e w6 ⟨v6, rfl, hL6, hu6⟩; have s6 := SlI.of_lst (F := []) hL6 (by simp); obtain ⟨a6, c6, he6, _⟩ := s6.shape; obtain rfl : v6 = .slice a6 2 c6 := he6))
  have s7 := sl_row w6 w6.heap.size rfl [] [1, 2] (by simp) (by simp)
  have k4 : Calls Try.prog 25 #[.slice a6 2 c6, .slice (some ⟨w6.heap.size, 0, none⟩) 2 2] (w6.alloc (.cells #[.int .i64 1, .int .i64 2] 3)) fun e w' => e = .returned (.bool true) ∧ ∃ k, w' = (w6.alloc (.cells #[.int .i64 1, .int .i64 2] 3)).drewN k := same_yes (w6.alloc (.cells #[.int .i64 1, .int .i64 2] 3)) [] [] _ _ [1, 2] (s6.upd ((Upd.refl [] _).alloc _) (by simp)) s7
  (with_reducible refine k4.mono ?_)
  rintro e w7 ⟨rfl, n7, rfl⟩
  go_wp2_with fail
  go_ret
  exact ⟨rfl, (((u3'.trans h5).trans hu6).alloc _).drewN _⟩
end Go.Proofs.Ytdgohhkgmfjhaaa
