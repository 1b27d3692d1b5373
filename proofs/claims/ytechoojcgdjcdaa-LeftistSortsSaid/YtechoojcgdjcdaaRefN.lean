/-
  The document's nest (haycockref05): what its memory holds; Has, In, Len, Ahead, New. Conditions: those of each lemma.
-/
import Derived.Test.YtechoojcgdjcdaaEnt
set_option linter.unusedVariables false
set_option linter.unusedSimpArgs false
namespace Go.Proofs.Ytechoojcgdjcdaa
open Go Go.RowKit

/-- The memory of a nest of the document: two slices, wherever they lie, in no block of F. -/
structure RefM (w : World) (F : List Nat) (gh oh ch gc oc cc : Nat) (A : NS) : Prop where
  hcap : A.hs.length ≤ ch ∧ ch ≤ 9223372036854775807
  ccap : A.cs.length ≤ cc ∧ cc ≤ 9223372036854775807
  lt : gh < w.heap.size ∧ gc < w.heap.size
  far : gh ∉ F ∧ gc ∉ F
  h : ∀ j, j < A.hs.length → w.cell? ⟨gh, oh + j, none⟩ = some (.bool (A.hs.getD j false))
  c0 : ∀ x, x < A.cs.length → w.cell? ⟨gc, oc + x * 3, none⟩ = some (.int .i64 (A.c x).i)
  c1 : ∀ x, x < A.cs.length → w.cell? ⟨gc, oc + x * 3 + 1, none⟩ = some (.int .i64 (A.c x).k)
  c2 : ∀ x, x < A.cs.length → w.cell? ⟨gc, oc + x * 3 + 2, none⟩ = some (.int .u64 (A.c x).s)
def refV (gh oh ch gc oc cc : Nat) (A : NS) : Value := .agg #[.slice (some ⟨gh, oh, none⟩) A.hs.length ch, .slice (some ⟨gc, oc, none⟩) A.cs.length cc]
def RefAt (w : World) (F : List Nat) (v : Value) (A : NS) : Prop := ∃ gh oh ch gc oc cc, v = refV gh oh ch gc oc cc A ∧ RefM w F gh oh ch gc oc cc A
theorem RefM.upd {w w' : World} {F : List Nat} {gh oh ch gc oc cc : Nat} {A : NS} (h : RefM w F gh oh ch gc oc cc A) (hu : Upd F w w') : RefM w' F gh oh ch gc oc cc A := by
  have e1 : ∀ o, w'.cell? ⟨gh, o, none⟩ = w.cell? ⟨gh, o, none⟩ := fun o => hu.cell h.lt.1 h.far.1
  have e2 : ∀ o, w'.cell? ⟨gc, o, none⟩ = w.cell? ⟨gc, o, none⟩ := fun o => hu.cell h.lt.2 h.far.2
  have hs := hu.size
  have hl := h.lt
  exact ⟨h.hcap, h.ccap, ⟨by omega, by omega⟩, h.far, fun j hj => by rw [e1]; exact h.h j hj, fun j hj => by rw [e2]; exact h.c0 j hj, fun j hj => by rw [e2]; exact h.c1 j hj, fun j hj => by rw [e2]; exact h.c2 j hj⟩
theorem RefM.upd0 {w w' : World} {F : List Nat} {gh oh ch gc oc cc : Nat} {A : NS} (h : RefM w F gh oh ch gc oc cc A) (hu : Upd [] w w') : RefM w' F gh oh ch gc oc cc A := h.upd (hu.mono (by simp))
theorem RefAt.upd {w w' : World} {F : List Nat} {v : Value} {A : NS} (h : RefAt w F v A) (hu : Upd F w w') : RefAt w' F v A := by
  obtain ⟨gh, oh, ch, gc, oc, cc, rfl, h⟩ := h
  exact ⟨gh, oh, ch, gc, oc, cc, rfl, h.upd hu⟩
theorem RefAt.upd0 {w w' : World} {F : List Nat} {v : Value} {A : NS} (h : RefAt w F v A) (hu : Upd [] w w') : RefAt w' F v A := h.upd (hu.mono (by simp))
theorem RefM.fresh {w w' : World} {F F' : List Nat} {gh oh ch gc oc cc : Nat} {A : NS} (h : RefM w F gh oh ch gc oc cc A) (hu : Upd F w w') (hF : ∀ x, x ∈ F' → x ∈ F ∨ w.heap.size ≤ x) : RefM w' F' gh oh ch gc oc cc A := by
  have h' := h.upd hu
  have hl := h.lt
  refine ⟨h'.hcap, h'.ccap, h'.lt, ⟨fun m => ?_, fun m => ?_⟩, h'.h, h'.c0, h'.c1, h'.c2⟩
  · rcases hF _ m with h1 | h1; exact h.far.1 h1; omega
  · rcases hF _ m with h1 | h1; exact h.far.2 h1; omega
/-- The nest turned, and has other blocks; the document's is as it was. -/
theorem RefAt.fresh {w w' : World} {F F' : List Nat} {v : Value} {A : NS} (h : RefAt w F v A) (hu : Upd F w w') (hF : ∀ x, x ∈ F' → x ∈ F ∨ w.heap.size ≤ x) : RefAt w' F' v A := by
  obtain ⟨gh, oh, ch, gc, oc, cc, rfl, h⟩ := h
  exact ⟨gh, oh, ch, gc, oc, cc, rfl, h.fresh hu hF⟩

section
variable {w : World} {F : List Nat} {v : Value} {A : NS}
theorem rhasN_any (h : RefAt w F v A) (ok : A.Ok) (x : Int) :
    Calls Try.prog 67 #[v, .int .i64 x] w fun e w' => e = .returned (.bool (hasN A x)) ∧ Upd [] w w' := by
  obtain ⟨gh, oh, ch, gc, oc, cc, rfl, h⟩ := h
  have h1 := h.hcap
  have h2 := h.ccap
  have h3 := ok.h1
  have h4 := ok.c1
  unfold hasN
  by_cases hx : 1 ≤ x
  · by_cases hx2 : x < A.hs.length
    · obtain ⟨i, rfl⟩ : ∃ i : Nat, x = i := ⟨x.toNat, by omega⟩
      have c1 := h.h i (by omega)
      have hl := h.lt.1
      simp only [Int.toNat_natCast]
      unfold refV
      clear h ok
      generalize A.hs.getD i false = b at *
      go_enter Try.func67, Try.ntmps67
      go_wp2
      go_ret
      exact ⟨ret_bool (by simp [hx, hx2]), by (repeat (first | assumption | exact Upd.refl _ _ | refine Upd.alloc ?_ _ | refine Upd.drew ?_ | refine Upd.drewN ?_ _ | refine Upd.setCell ?_ (Or.inr (by first | (simp; done) | (simp; omega))) _ | (apply Upd.trans; rotate_left; assumption)))⟩
    · unfold refV
      clear h ok
      go_enter Try.func67, Try.ntmps67
      go_wp2
      go_ret
      exact ⟨ret_bool (by simp [hx]; intro; omega), by (repeat (first | assumption | exact Upd.refl _ _ | refine Upd.alloc ?_ _ | refine Upd.drew ?_ | refine Upd.drewN ?_ _ | refine Upd.setCell ?_ (Or.inr (by first | (simp; done) | (simp; omega))) _ | (apply Upd.trans; rotate_left; assumption)))⟩
  · unfold refV
    clear h ok
    go_enter Try.func67, Try.ntmps67
    go_wp2
    go_ret
    exact ⟨ret_bool (by simp; omega), by (repeat (first | assumption | exact Upd.refl _ _ | refine Upd.alloc ?_ _ | refine Upd.drew ?_ | refine Upd.drewN ?_ _ | refine Upd.setCell ?_ (Or.inr (by first | (simp; done) | (simp; omega))) _ | (apply Upd.trans; rotate_left; assumption)))⟩
theorem rinN_any (h : RefAt w F v A) (ok : A.Ok) (x : Int) :
    Calls Try.prog 31 #[v, .int .i64 x] w fun e w' => e = .returned (.bool (inN A x)) ∧ Upd [] w w' := by
  obtain ⟨gh, oh, ch, gc, oc, cc, rfl, h⟩ := h
  have h1 := h.hcap
  have h2 := h.ccap
  have h3 := ok.h1
  have h4 := ok.c1
  unfold inN slotN
  by_cases hx : 0 ≤ x
  · by_cases hx2 : x < A.cs.length
    · obtain ⟨i, rfl⟩ : ∃ i : Nat, x = i := ⟨x.toNat, by omega⟩
      have c1 := h.c0 i (by omega)
      have hl := h.lt.2
      simp only [Int.toNat_natCast]
      unfold refV
      clear h ok
      go_enter Try.func31, Try.ntmps31
      go_wp2
      go_ret
      exact ⟨ret_bool (by simp [hx, hx2]), by (repeat (first | assumption | exact Upd.refl _ _ | refine Upd.alloc ?_ _ | refine Upd.drew ?_ | refine Upd.drewN ?_ _ | refine Upd.setCell ?_ (Or.inr (by first | (simp; done) | (simp; omega))) _ | (apply Upd.trans; rotate_left; assumption)))⟩
    · unfold refV
      clear h ok
      go_enter Try.func31, Try.ntmps31
      go_wp2
      go_ret
      exact ⟨ret_bool (by simp [hx]; intro; omega), by (repeat (first | assumption | exact Upd.refl _ _ | refine Upd.alloc ?_ _ | refine Upd.drew ?_ | refine Upd.drewN ?_ _ | refine Upd.setCell ?_ (Or.inr (by first | (simp; done) | (simp; omega))) _ | (apply Upd.trans; rotate_left; assumption)))⟩
  · unfold refV
    clear h ok
    go_enter Try.func31, Try.ntmps31
    go_wp2
    go_ret
    exact ⟨ret_bool (by simp; omega), by (repeat (first | assumption | exact Upd.refl _ _ | refine Upd.alloc ?_ _ | refine Upd.drew ?_ | refine Upd.drewN ?_ _ | refine Upd.setCell ?_ (Or.inr (by first | (simp; done) | (simp; omega))) _ | (apply Upd.trans; rotate_left; assumption)))⟩
theorem lenL_take (cs : List Cl) (h : Int) (j : Nat) (hj : j < cs.length) : lenL (cs.take (j + 1)) h = lenL (cs.take j) h + if (cs.getD j Cl.z).i = h ∧ 0 < h then 1 else 0 := by
  unfold lenL
  rw [List.take_add_one, List.filter_append, List.length_append]
  congr 1
  rw [List.getElem?_eq_getElem hj]
  simp only [Option.toList_some, List.filter_cons, List.filter_nil, List.getD_eq_getElem?_getD, List.getElem?_eq_getElem hj, Option.getD_some]
  by_cases h1 : cs[j].i = h <;> by_cases h2 : 0 < h <;> simp [h1, h2]
set_option maxHeartbeats 2000000 in
theorem rlenN_any (h : RefAt w F v A) (ok : A.Ok) (x : Int) :
    Calls Try.prog 29 #[v, .int .i64 x] w fun e w' => e = .returned (.int .i64 (lenN A x : Int)) ∧ Upd [] w w' := by
  obtain ⟨gh, oh, ch, gc, oc, cc, rfl, h⟩ := h
  have h1 := h.hcap
  have h2 := h.ccap
  have h3 := ok.h1
  have h4 := ok.c1
  unfold refV lenN
  have H := Lib.hid h
  have hT := fun j hj => lenL_take A.cs x j hj
  have HT := Lib.hid hT
  have hfull : lenL (A.cs.take A.cs.length) x = lenL A.cs x := by rw [List.take_length]
  have HF := Lib.hid hfull
  have hle : ∀ j, lenL (A.cs.take j) x ≤ j := fun j => Nat.le_trans (lenL_le _ _) (by simp; omega)
  have HL := Lib.hid hle
  clear h ok hT hfull hle
  generalize hn : A.cs.length = n at *
  generalize A.hs.length = m at *
  have HN := Lib.hid hn
  clear hn
  go_enter Try.func29, Try.ntmps29
  go_wp2
  go_loopw [5, 11] (fun k i wr => ∃ j : Nat, j ≤ n ∧ i = .int .i64 (j : Int) ∧ k = .int .i64 (lenL (A.cs.take j) x : Int) ∧ Upd [] w wr) (fun _ i _ => n - (intOf i).toNat)
  case atStart => exact ⟨0, by omega, rfl, by simp [lenL], by (repeat (first | assumption | exact Upd.refl _ _ | refine Upd.alloc ?_ _ | refine Upd.drew ?_ | refine Upd.drewN ?_ _ | refine Upd.setCell ?_ (Or.inr (by first | (simp; done) | (simp; omega))) _ | (apply Upd.trans; rotate_left; assumption)))⟩
  case round =>
    obtain ⟨j, hj, rfl, rfl, hu⟩ := hrel
    have hlej := HL.out j
    by_cases hlt : j < n
    · have hm := H.out.upd0 hu
      have q0 := hm.c0 j (by rw [HN.out]; exact hlt)
      have q1 := hm.c1 j (by rw [HN.out]; exact hlt)
      have q2 := hm.c2 j (by rw [HN.out]; exact hlt)
      have hgc := hm.lt.2
      have hs := HT.out j hlt
      have HS := Lib.hid hs
      clear hm hs
      have e1 : A.cs.getD j Cl.z = A.c j := rfl
      rw [e1] at HS
      clear e1
      generalize lenL (A.cs.take j) x = L at *
      generalize (A.c j).i = y at *
      by_cases hy : y = x
      · by_cases hx : 0 < x
        · have hy' : (y == x) = true := by simpa using hy
          have HY := Lib.hid (And.intro hy hx)
          clear hy
          go_wp2
          go_roundw
          case rel => exact ⟨j + 1, by omega, by go_num, by rw [HS.out, if_pos HY.out]; go_num, by (repeat (first | assumption | exact Upd.refl _ _ | refine Upd.alloc ?_ _ | refine Upd.drew ?_ | refine Upd.drewN ?_ _ | refine Upd.setCell ?_ (Or.inr (by first | (simp; done) | (simp; omega))) _ | (apply Upd.trans; rotate_left; assumption)))⟩
          case measure => simp [intOf]; omega
        · have hy' : (y == x) = true := by simpa using hy
          have HY := Lib.hid (And.intro hy hx)
          clear hy
          go_wp2
          go_roundw
          case rel => exact ⟨j + 1, by omega, by go_num, by rw [HS.out, if_neg (fun e => HY.out.2 e.2)]; go_num, by (repeat (first | assumption | exact Upd.refl _ _ | refine Upd.alloc ?_ _ | refine Upd.drew ?_ | refine Upd.drewN ?_ _ | refine Upd.setCell ?_ (Or.inr (by first | (simp; done) | (simp; omega))) _ | (apply Upd.trans; rotate_left; assumption)))⟩
          case measure => simp [intOf]; omega
      · have hy' : (y == x) = false := by simpa using hy
        have HY := Lib.hid hy
        clear hy
        go_wp2
        go_roundw
        case rel => exact ⟨j + 1, by omega, by go_num, by rw [HS.out, if_neg (fun e => HY.out e.1)]; go_num, by (repeat (first | assumption | exact Upd.refl _ _ | refine Upd.alloc ?_ _ | refine Upd.drew ?_ | refine Upd.drewN ?_ _ | refine Upd.setCell ?_ (Or.inr (by first | (simp; done) | (simp; omega))) _ | (apply Upd.trans; rotate_left; assumption)))⟩
        case measure => simp [intOf]; omega
    · obtain rfl : j = n := by omega
      go_wp2
      go_ret
      exact ⟨ret_int (by rw [HF.out]), by (repeat (first | assumption | exact Upd.refl _ _ | refine Upd.alloc ?_ _ | refine Upd.drew ?_ | refine Upd.drewN ?_ _ | refine Upd.setCell ?_ (Or.inr (by first | (simp; done) | (simp; omega))) _ | (apply Upd.trans; rotate_left; assumption)))⟩
end
end Go.Proofs.Ytechoojcgdjcdaa
