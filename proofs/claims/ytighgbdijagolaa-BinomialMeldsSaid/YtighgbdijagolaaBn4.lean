/-
  Binomial heaps: Nest.New, Make, Insert, Min, Extract, Meld. Conditions: those of each lemma.
-/
import Derived.Test.YtighgbdijagolaaBn3
set_option linter.unusedVariables false
set_option linter.unusedSimpArgs false
namespace Go.Proofs.Ytighgbdijagolaa
open Go Go.RowKit

section
variable {w : World} {B : BB} {F : List Nat} {gr cr lo : Nat} {A : NS} {st : Nat} {S : CS} {vs : List Value} {G : BG} {R : Nat → List Int}
theorem BnM.setSt {w' : World} {st' : Nat} (h : BnM w B F gr cr lo A st S vs R) (hu : Upd [B.c] w w') (hC : CellsAt w' B.c F A st') : BnM w' B F gr cr lo A st' S vs R :=
  h.setC (hu.mono (fun x hx => by simp at hx; subst hx; exact h.cells.mem)) hC (fun x hx => Or.inl hx) rfl rfl
/-- How often Min asks. -/
def minC (A : NS) (G : BG) (h : Int) : Nat := if hasN A h then (G.R h.toNat).length - 1 else 0
set_option maxHeartbeats 2000000 in
theorem bmin_any (M : BnM w B F gr cr lo A st S vs G.R) (I : BnI A G) (h : Int) :
    Calls Try.prog 145 #[.pointer (some ⟨B.n0, 0, none⟩), .int .i64 h] w fun e w' => e = .returned (.tuple #[.int .i64 (slotV (minN A h)), .bool (minN A h).isSome]) ∧ BnM w' B F gr cr lo A (satS st (minC A G h)) S vs G.R ∧ Upd [B.c] w w' := by
  have hst := M.cells.st62
  cases hh : hasN A h with
  | false =>
    have e : minN A h = none := by
      by_cases h1 : 0 < h
      · exact (minN_none h1).2 (lenN_zero M.cells.ok hh)
      · exact minN_neg h1
    have e2 : minC A G h = 0 := by unfold minC; rw [hh]; rfl
    rw [e, e2, satS_zero hst]
    have kr := brow_no M h hh
    have HM := Lib.hid M
    clear M I hh e e2
    go_enter Try.func145, Try.ntmps145
    go_wp2_with ((go_at_call 56; (with_reducible refine (kr).mono ?_); rintro e w9 ⟨rfl, hw9⟩; rw [hw9]; clear hw9 w9))
    go_ret2
    exact ⟨rfl, HM.out, Upd.refl _ _⟩
  | true =>
    obtain ⟨q, rfl, hq1, hq⟩ := M.hq hh
    have e2 : minC A G (q : Int) = (G.R q).length - 1 := by unfold minC; rw [hh]; simp
    obtain ⟨a, cap, hv, hl1, hl2⟩ := M.shape hq
    have kr := brow_yes M q hh hv
    have hsl : SlI w [B.c] (vs.getD q undef) (G.R q) := (M.each q hq).sl (fun g hg hm => by simp at hm; subst hm; exact (M.d4 q _ hq hg).2.2.2.2.1 M.cells.mem)
    rw [hv] at hsl
    rw [e2]
    cases hR : G.R q with
    | nil =>
      rw [bn_none I hq1 hR]
      rw [hR] at kr hsl
      simp only [List.length_nil] at kr ⊢
      rw [satS_zero hst]
      have HM := Lib.hid M
      clear M I hh hR e2 hv hsl
      go_enter Try.func145, Try.ntmps145
      go_wp2_with ((go_at_call 56; (with_reducible refine (kr).mono ?_); rintro e w9 ⟨rfl, hw9⟩; rw [hw9]; clear hw9 w9))
      go_ret2
      exact ⟨rfl, HM.out, Upd.refl _ _⟩
    | cons x t =>
      obtain ⟨m, hb, hm, _⟩ := bn_min I hq1 hR
      rw [hm]
      rw [hR] at kr hsl hl1
      simp only [List.length_cons] at kr hsl hl1 ⊢
      have hin : ∀ z, z ∈ x :: t → ∃ y : Nat, z = y ∧ inN A z = true := fun z hz => by
        obtain ⟨y, e, _, i, _⟩ := bn_in I (h := q) (z := z) (by rw [hR]; exact hz)
        exact ⟨y, e, i⟩
      obtain ⟨g, off, rfl, hgl, hgF, hc0⟩ := hsl.head
      have hta := (show SlI w [B.c] (.slice (some ⟨g, off, none⟩) (t.length + 1) cap) (x :: t) from hsl).tail
      have hsr := fun W => run_tail W (some ⟨g, off, none⟩) (t.length + 1) cap (by omega) (by omega)
      obtain ⟨a3, hta3⟩ := tail_shape (some ⟨g, off, none⟩) (t.length + 1) cap
      rw [hta3] at hsr hta
      simp only [Nat.add_sub_cancel] at hsr hta ⊢
      have h0 := M.h0
      have hn0 : B.n0 ∉ [B.c] := by simp; exact M.cn.1
      have HM := Lib.hid M
      have HT := Lib.hid hta
      have HI := Lib.hid (And.intro hin hb)
      have hC := M.cells
      have hz : satS st 0 = st := satS_zero hst
      clear M I hh hR e2 hv hsl hta hin hb hm hta3
      generalize htl : t.length = tl at *
      have HTL := Lib.hid htl
      have hne0 : ((tl : Int) + 1 == 0) = false := beq_eq_false_iff_ne.2 (by omega)
      clear htl
      go_enter Try.func145, Try.ntmps145
      go_wp2_with ((go_at_call 56; (with_reducible refine (kr).mono ?_); rintro e w9 ⟨rfl, hw9⟩; rw [hw9]; clear hw9 w9))
      go_loopw [7, 22] (fun s7 s22 wr => ∃ (j : Nat) (b : Int), j ≤ tl ∧ s22 = .int .i64 (j : Int) ∧ s7 = .int .i64 b ∧ best2 (aheadN A) b (t.drop j) = best2 (aheadN A) x t ∧ (∃ y : Nat, b = y ∧ inN A b = true) ∧ CellsAt wr B.c F A (satS st j) ∧ Upd [B.c] w wr) (fun _ s22 _ => tl - (intOf s22).toNat)
      case atStart => exact ⟨0, x, by omega, rfl, rfl, by simp, HI.out.1 x (by simp), by rw [hz]; exact hC, Upd.refl _ _⟩
      case round =>
        obtain ⟨j, b, hj, rfl, rfl, hbb, hib, hCj, hu⟩ := hrel
        rename World => wr
        by_cases hjt : j < tl
        · obtain ⟨y, hyy⟩ : ∃ y, t[j]? = some y := ⟨t[j]'(by rw [HTL.out]; exact hjt), by simp⟩
          have hd : t.drop j = y :: t.drop (j + 1) := by
            obtain ⟨hl, e⟩ := List.getElem?_eq_some_iff.1 hyy
            rw [List.drop_eq_getElem_cons hl, e]
          obtain ⟨a4, c4, e4, _, _, h4⟩ := HT.out
          have ea : a3 = a4 := by injection e4
          subst ea
          obtain ⟨g4, o4, rfl, _, hg4, hc4⟩ := h4 j y hyy
          have hc5 := hu.kept hc4 hg4
          obtain ⟨yn, rfl, hiy⟩ := HI.out.1 y (List.mem_cons_of_mem _ (List.mem_of_getElem? hyy))
          obtain ⟨bn, rfl, hbn⟩ := hib
          have ka := cahead_yes hCj yn bn hiy hbn
          have h05 := hu.kept h0 hn0
          have hjI : (j : Int) < (tl : Int) := by omega
          have hw1 : IntKind.i64.wrap ((j : Int) + 1) = (j : Int) + 1 := IntWalk.i64_in _ (by omega)
          have eah : aheadN A (yn : Int) (bn : Int) = decide (lt3 A yn bn) := by rw [ahead_nat, hiy, hbn]; simp
          have hnx : ∀ b' : Int, b' = (if aheadN A (yn : Int) (bn : Int) then (yn : Int) else (bn : Int)) → best2 (aheadN A) b' (t.drop (j + 1)) = best2 (aheadN A) x t := fun b' e => by rw [← hbb, hd, e]; rfl
          have HN := Lib.hid (And.intro hnx (And.intro hiy hbn))
          have hse : satS (satS st j) 1 = satS st (j + 1) := satS_add st j 1
          rw [← eah] at ka
          clear hCj hbb hd h4 hyy hc4 hiy hbn eah hnx e4
          cases hab : aheadN A (yn : Int) (bn : Int) with
          | true =>
            rw [hab] at ka
            have HAB := Lib.hid hab
            clear hab
            go_wp2_with ((go_at_call 104; (with_reducible refine (ka).mono ?_)); rintro e w2 ⟨rfl, hC2, hu2⟩)
            go_roundw
            case rel => exact ⟨j + 1, yn, by omega, by go_num, rfl, HN.out.1 _ (by rw [HAB.out]; rfl), ⟨yn, rfl, HN.out.2.1⟩, by rw [← hse]; exact hC2, hu.trans hu2⟩
            case measure => simp [intOf]; omega
          | false =>
            rw [hab] at ka
            have HAB := Lib.hid hab
            clear hab
            go_wp2_with ((go_at_call 104; (with_reducible refine (ka).mono ?_)); rintro e w2 ⟨rfl, hC2, hu2⟩)
            go_roundw
            case rel => exact ⟨j + 1, bn, by omega, by go_num, rfl, HN.out.1 _ (by rw [HAB.out]; rfl), ⟨bn, rfl, HN.out.2.2⟩, by rw [← hse]; exact hC2, hu.trans hu2⟩
            case measure => simp [intOf]; omega
        · obtain rfl : j = tl := by omega
          have hbf : b = (m : Int) := by
            rw [List.drop_of_length_le (by rw [HTL.out]; omega)] at hbb
            have e : best2 (aheadN A) b [] = b := rfl
            rw [e, HI.out.2] at hbb
            exact hbb
          have HB := Lib.hid hbf
          have HC := Lib.hid hCj
          clear hbb hib hbf hCj
          go_wp2
          go_ret2
          exact ⟨by rw [HB.out]; rfl, HM.out.setSt hu HC.out, hu⟩
end
end Go.Proofs.Ytighgbdijagolaa
