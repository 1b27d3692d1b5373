/-
  The document's trees (haycockref09): Spine. Conditions: those of each lemma.
-/
import Derived.Test.YtdgfibcbnlkbpaaRef09f
set_option linter.unusedVariables false
set_option linter.unusedSimpArgs false
namespace Go.Proofs.Ytdgfibcbnlkbpaa
open Go Go.RowKit

def spineL (n : Int) (l : List Hg) : Nat → Int → List Int
  | 0, _ => []
  | f + 1, x => if 0 ≤ x ∧ x < n then x :: kidA n (spineL n l f) (kidL l x true) else []
theorem spineL_len (n : Int) (l : List Hg) : ∀ (f : Nat) (x : Int), (spineL n l f x).length ≤ f
  | 0, x => by simp [spineL]
  | f + 1, x => by
    rw [spineL]
    split
    · simp only [List.length_cons]
      cases kidL l x true with
      | none => simp [kidA]
      | some y => have := spineL_len n l f y; simp only [kidA]; omega
    · simp

set_option maxHeartbeats 2000000 in
theorem rspine_any (w : World) (lo n : Nat) (x : Int) (v : Value) (l : List Hg) (h : LstAt w lo v l.length (hgCells l)) (hn : n ≤ 65536) :
    Calls Try.prog 43 #[.agg #[.int .i64 (n : Int), v], .int .i64 x] w fun e w' => ∃ v', e = .returned v' ∧ OwnZ w' w.heap.size v' (spineL n l n x) ∧ Upd [] w w' := by
  have hv : v.oneCell' = true := by obtain ⟨a, cap, rfl, _⟩ := h.open; rfl
  have r0 : ∀ W, Upd [] (w.alloc (.cells #[.int .i64 (n : Int), v] 52)) W → W.cell? ⟨w.heap.size, 0, none⟩ = some (.int .i64 (n : Int)) := fun W h => h.was (by simp)
  have r1 : ∀ W, Upd [] (w.alloc (.cells #[.int .i64 (n : Int), v] 52)) W → W.cell? ⟨w.heap.size, 1, none⟩ = some v := fun W h => h.was (by simp)
  have H := Lib.hid (h.upd ((Upd.refl [] w).alloc (.cells #[.int .i64 (n : Int), v] 52)) (by simp))
  clear h
  have hlen := spineL_len n l n x
  generalize hR : spineL n l n x = R at *
  have HR := Lib.hid hR
  clear hR
  go_enter Try.func43, Try.ntmps43
  go_wp2
  go_loopw [1, 5, 6] (fun q o i wr => ∃ (k : Nat) (y : Int) (zs : List Int), k ≤ n ∧ i = .int .i64 (k : Int) ∧ q = .int .i64 y ∧ zs ++ spineL n l (n - k) y = R ∧ wr.ownsRow (w.heap.size + 1) 3 1 o zs.length (intsZ zs) ∧ Upd [] (w.alloc (.cells #[.int .i64 (n : Int), v] 52)) wr) (fun _ _ i _ => n - (intOf i).toNat)
  case atStart =>
    refine ⟨0, x, [], by omega, rfl, rfl, HR.out, ?_, (Upd.refl _ _).alloc _⟩
    exact own_lit_at (w.alloc (.cells #[.int .i64 (n : Int), v] 52)) (w.heap.size + 1) (by simp) [] 3 (w.heap.size + 1) 1 0 rfl (by simp) (by unfold maxLen; omega)
  case round =>
    obtain ⟨k, y, zs, hk, rfl, rfl, hA, hown, hu⟩ := hrel
    have c0 := r0 _ hu
    have c1 := r1 _ hu
    by_cases hlt : k < n
    · by_cases hx : 0 ≤ y ∧ y < n
      · have k1 := fun W => rhas_any W n y v hv true (by simpa using hx)
        rw [show n - k = (n - (k + 1)) + 1 by omega, spineL, if_pos hx] at hA
        have kR := fun W (hW : Upd [] (w.alloc (.cells #[.int .i64 (n : Int), v] 52)) W) => rkid_any W lo n y true v l (H.out.upd hW (by simp))
        have hlz : zs.length + 1 ≤ 65536 := by have := congrArg List.length hA; simp at this; omega
        cases hkr : kidL l y true with
        | none =>
          rw [hkr] at kR hA
          simp only [kidA] at hA
          unfold ov ob at kR
          simp only [Option.getD_none, Option.isSome_none] at kR
          have HA := Lib.hid hA
          clear hkr hA hx
          go_wp2_with (first
            | ((go_at_call 59; (with_reducible refine (k1 _).mono ?_)); rintro e wA ⟨rfl, hbA⟩; have uA := hu.trans hbA; have hoA := owns_upd hown hbA (by simp))
            | ((at_builtin; refine wpList_append_sep rfl _ _ 29 rfl (w.heap.size + 1) 3 (.int .i64 0) 1 8 Try.underlying29 intInfo rfl (by decide) _ _ _ rfl (hoA) [.int .i64 (y : Int)] rfl (by simp [Value.oneCell']) (by first | rfl | (rw [World.size_alloc]; rfl)) (by unfold maxLen; omega) (by omega) ((by have := uA.size; simpa using this)) ?_; intro v1 w1 ho1 hu1 hs1); have u1 := uA.over (below_of_own hoA (by have := uA.size; simpa using this) hu1) (by simp))
            | ((go_at_call 56; (with_reducible refine (kR _ u1).mono ?_)); rintro e wE ⟨rfl, hbE⟩; have uE := u1.trans hbE; have hoE := owns_upd ho1 hbE (by simp)))
          go_ret
          refine ⟨_, rfl, ?_, ((Upd.refl [] w).alloc _).trans uE⟩
          unfold OwnZ
          rw [← HA.out, List.length_append, intsZ_append]
          exact owns_mono hoE (by omega)
        | some z =>
          rw [hkr] at kR hA
          simp only [kidA] at hA
          unfold ov ob at kR
          simp only [Option.getD_some, Option.isSome_some] at kR
          have HA := Lib.hid hA
          clear hkr hA hx
          go_wp2_with (first
            | ((go_at_call 59; (with_reducible refine (k1 _).mono ?_)); rintro e wA ⟨rfl, hbA⟩; have uA := hu.trans hbA; have hoA := owns_upd hown hbA (by simp))
            | ((at_builtin; refine wpList_append_sep rfl _ _ 29 rfl (w.heap.size + 1) 3 (.int .i64 0) 1 8 Try.underlying29 intInfo rfl (by decide) _ _ _ rfl (hoA) [.int .i64 (y : Int)] rfl (by simp [Value.oneCell']) (by first | rfl | (rw [World.size_alloc]; rfl)) (by unfold maxLen; omega) (by omega) ((by have := uA.size; simpa using this)) ?_; intro v1 w1 ho1 hu1 hs1); have u1 := uA.over (below_of_own hoA (by have := uA.size; simpa using this) hu1) (by simp))
            | ((go_at_call 56; (with_reducible refine (kR _ u1).mono ?_)); rintro e wE ⟨rfl, hbE⟩; have uE := u1.trans hbE; have hoE := owns_upd ho1 hbE (by simp)))
          go_roundw
          case rel => exact ⟨k + 1, z, zs ++ [y], by omega, by go_num, rfl, by rw [← HA.out]; simp, by rw [List.length_append, intsZ_append]; exact hoE, uE⟩
          case measure => simp [intOf]; omega
      · have k1 := fun W => rhas_any W n y v hv false (by simpa using hx)
        rw [show n - k = (n - (k + 1)) + 1 by omega, spineL, if_neg hx, List.append_nil] at hA
        subst hA
        clear hx
        go_wp2_with ((go_at_call 59; (with_reducible refine (k1 _).mono ?_)); rintro e wA ⟨rfl, hbA⟩)
        go_ret
        exact ⟨_, rfl, owns_mono (owns_upd hown hbA (by simp)) (by omega), ((Upd.refl [] w).alloc _).trans (hu.trans hbA)⟩
    · rw [show n - k = 0 by omega, spineL, List.append_nil] at hA
      subst hA
      go_wp2
      go_ret
      exact ⟨_, rfl, owns_mono hown (by omega), ((Upd.refl [] w).alloc _).trans hu⟩

end Go.Proofs.Ytdgfibcbnlkbpaa
