/-
  slices.DeleteFunc: one thing comes out of a row that has it once. Conditions: those of each lemma.
-/
import Derived.Test.YtighgbdijagolaaGy
import Derived.Lib.SliceRun
import Derived.IntWalk
set_option linter.unusedVariables false
set_option linter.unusedSimpArgs false
namespace Go.Proofs.Ytighgbdijagolaa
open Go Go.RowKit

theorem OwnOff.row {w : World} {base : Nat} {v : Value} {xs : List Int} (h : OwnOff w base v xs) (hne : xs ≠ []) : ∃ g off cap m f, v = .slice (some ⟨g, off, none⟩) xs.length cap ∧ base ≤ g ∧ RowAt w g 3 m f ∧ xs.length ≤ cap ∧ cap ≤ 9223372036854775807 ∧ off + cap ≤ m ∧ ∀ j u, xs[j]? = some u → f (off + j) = .int .i64 u := by
  rcases h with ⟨_, e⟩ | ⟨g, off, cap, cur, rfl, hb, hg, h1, h2, h3, h4⟩
  · exact absurd e hne
  · refine ⟨g, off, cap, cur.size, fun j => cur.getD j undef, rfl, hb, ⟨cur, hg, rfl, fun j hj => by simp [hj]⟩, h1, h2, h3, fun j u hj => ?_⟩
    have := h4 j u hj
    simp [Array.getD_eq_getD_getElem?, this]
theorem RowAt.off {w : World} {base g off cap m : Nat} {f : Nat → Value} {ys : List Int} (h : RowAt w g 3 m f) (hb : base ≤ g) (h1 : ys.length ≤ cap) (h2 : cap ≤ 9223372036854775807) (h3 : off + cap ≤ m) (h4 : ∀ j u, ys[j]? = some u → f (off + j) = .int .i64 u) : OwnOff w base (.slice (some ⟨g, off, none⟩) ys.length cap) ys := by
  obtain ⟨arr, a1, a2, a3⟩ := h
  refine Or.inr ⟨g, off, cap, arr, rfl, hb, a1, h1, h2, by omega, fun j u hj => ?_⟩
  have hjl : j < ys.length := (List.getElem?_eq_some_iff.1 hj).1
  rw [a3 (off + j) (by omega), h4 j u hj]
set_option maxHeartbeats 400000 in
theorem tclos_any (w : World) (b : Nat) (x y : Int) (h : w.cell? ⟨b, 0, none⟩ = some (.int .i64 x)) :
    Calls Try.prog 156 #[.int .i64 y, .pointer (some ⟨b, 0, none⟩)] w fun e w' => e = .returned (.bool (x == y)) ∧ w' = w := by
  go_enter Try.func156, Try.ntmps156
  go_wp2
  go_ret
  exact ⟨rfl, rfl⟩
set_option maxHeartbeats 1000000 in
theorem tindex_any (w : World) (F : List Nat) (b : Nat) (v : Value) (l1 l2 : List Int) (x : Int) (h : SlI w F v (l1 ++ x :: l2)) (hn : x ∉ l1) (hb : w.cell? ⟨b, 0, none⟩ = some (.int .i64 x)) :
    Calls Try.prog 116 #[v, .func (Fn.func 156) #[] #[.pointer (some ⟨b, 0, none⟩)]] w fun e w' => e = .returned (.int .i64 (l1.length : Int)) ∧ w' = w := by
  obtain ⟨a, cap, rfl, hlc, hcp, hp⟩ := h
  have HP := Lib.hid hp
  clear hp
  have hg : ∀ q, q < l1.length → (l1 ++ x :: l2)[q]? = l1[q]? := fun q hq => List.getElem?_append_left hq
  have hx : (l1 ++ x :: l2)[l1.length]? = some x := by rw [List.getElem?_append_right (Nat.le_refl _)]; simp
  have hl : l1.length < (l1 ++ x :: l2).length := by simp
  generalize l1 ++ x :: l2 = xs at *
  generalize hxl : xs.length = len at *
  have HN := Lib.hid (And.intro hn (And.intro hg hx))
  have kc := fun y => tclos_any w b x y hb
  clear hn hg hx hb hxl
  generalize hk : l1.length = k at *
  have HK := Lib.hid hk
  clear hk
  go_enter Try.func116, Try.ntmps116
  go_wp2
  go_loop [8] (fun i => ∃ q : Nat, q ≤ k ∧ i = .int .i64 (q : Int)) (fun i => k + 1 - (intOf i).toNat)
  case atStart => exact ⟨0, by omega, rfl⟩
  case round =>
    obtain ⟨q, hq, rfl⟩ := hrel
    have hql : (q : Int) < (len : Int) := by omega
    by_cases hqk : q < k
    · obtain ⟨y, hyy⟩ : ∃ y, l1[q]? = some y := ⟨l1[q]'(by rw [HK.out]; exact hqk), by simp⟩
      obtain ⟨gb, off, rfl, _, _, hc⟩ := HP.out q y (by rw [HN.out.2.1 q hqk]; exact hyy)
      have k1 := kc y
      have hxy : (x == y) = false := by
        have : x ≠ y := fun e => HN.out.1 (by rw [e]; exact List.mem_of_getElem? hyy)
        simpa using this
      rw [hxy] at k1
      clear hyy kc
      go_wp2_with ((go_at_call 156; (with_reducible refine (k1).mono ?_); rintro e w9 ⟨rfl, hw9⟩; rw [hw9]; clear hw9 w9))
      go_round
      case rel => exact ⟨q + 1, by omega, by go_num⟩
      case measure => simp [intOf]; omega
    · obtain rfl : q = k := by omega
      obtain ⟨gb, off, rfl, _, _, hc⟩ := HP.out q x HN.out.2.2
      have k1 := kc x
      rw [show (x == x) = true by simp] at k1
      clear kc
      go_wp2_with ((go_at_call 156; (with_reducible refine (k1).mono ?_); rintro e w9 ⟨rfl, hw9⟩; rw [hw9]; clear hw9 w9))
      go_ret
      exact ⟨rfl, rfl⟩
theorem zero_int (w : World) : (zeroValue 3).run Try.prog w = .ok (.int .i64 0) w := by kernel_rfl
set_option maxHeartbeats 2000000 in
/-- One thing comes out. -/
theorem delf_any (w : World) (b base : Nat) (v : Value) (l1 l2 : List Int) (x : Int) (h : OwnOff w base v (l1 ++ x :: l2)) (hn1 : x ∉ l1) (hn2 : x ∉ l2) (hb : w.cell? ⟨b, 0, none⟩ = some (.int .i64 x)) (hbv : v.ownBlock ≠ some b) (hlen : (l1 ++ x :: l2).length ≤ 1000000) :
    Calls Try.prog 155 #[v, .func (Fn.func 156) #[] #[.pointer (some ⟨b, 0, none⟩)]] w fun e w' => ∃ v', e = .returned v' ∧ OwnOff w' base v' (l1 ++ l2) ∧ v'.ownBlock = v.ownBlock ∧ Upd v.ownBlock.toList w w' ∧ ∃ a n c, v' = .slice a n c := by
  have ki := tindex_any w [] b v l1 l2 x (by
    obtain ⟨a, cap, rfl, h1, h2, h3⟩ := h.shape
    refine ⟨a, cap, rfl, h1, h2, fun j u hj => ?_⟩
    obtain ⟨g, off, rfl, hc⟩ := h3 j u hj
    exact ⟨g, off, rfl, (h.lt g rfl).2, by simp, hc⟩) hn1 hb
  obtain ⟨g, off, cap, m, f, rfl, hbg, hR, hlc, hcp, hcm, hf⟩ := h.row (by simp)
  have hbg2 : b ≠ g := fun e => hbv (by rw [e]; rfl)
  have hx1 : ∀ j, j < l1.length → (l1 ++ x :: l2)[j]? = l1[j]? := fun j hj => List.getElem?_append_left hj
  have hx2 : ∀ j, l1.length < j → (l1 ++ x :: l2)[j]? = l2[j - (l1.length + 1)]? := fun j hj => by
    rw [List.getElem?_append_right (by omega), show j - l1.length = (j - (l1.length + 1)) + 1 by omega, List.getElem?_cons_succ]
  have hln : (l1 ++ x :: l2).length = l1.length + l2.length + 1 := by simp; omega
  simp only [hln] at hlc hlen ki ⊢
  have hy1 : ∀ j, j < l1.length → (l1 ++ l2)[j]? = l1[j]? := fun j hj => List.getElem?_append_left hj
  have hy2 : ∀ j, l1.length ≤ j → (l1 ++ l2)[j]? = l2[j - l1.length]? := fun j hj => List.getElem?_append_right hj
  have hyl : (l1 ++ l2).length = l1.length + l2.length := by simp
  have HF := Lib.hid (And.intro hf (And.intro hx1 (And.intro hx2 (And.intro hy1 (And.intro hy2 hyl)))))
  have HR := Lib.hid hR
  have HN := Lib.hid hn2
  clear h hf hx1 hx2 hy1 hy2 hyl hn1 hn2 hR
  have hlt : g < w.heap.size := HR.out.lt
  generalize hk : l1.length = k at *
  generalize hl : l2.length = l at *
  have HK := Lib.hid (And.intro hk hl)
  have hkm1 : ((k : Int) == -1) = false := beq_eq_false_iff_ne.2 (by omega)
  have hwr0 : IntKind.i64.wrap ((k : Int) + 1) = ((k + 1 : Nat) : Int) := by rw [IntWalk.i64_in _ (by omega)]; omega
  clear hk hl hln hlen hbv
  go_enter Try.func155, Try.ntmps155
  go_wp2_with ((go_at_call 116; (with_reducible refine (ki).mono ?_); rintro e w9 ⟨rfl, hw9⟩; rw [hw9]; clear hw9 w9))
  clear ki
  go_loopw [5, 6, 7] (fun s5 s6 _ wr => ∃ (j : Nat) (fj : Nat → Value), s5 = .int .i64 ((k + j : Nat) : Int) ∧ s6 = .int .i64 ((k + j + 1 : Nat) : Int) ∧ j ≤ l ∧ RowAt wr g 3 m fj ∧ (∀ q, q < off + k → fj q = f q) ∧ (∀ q u, q < j → l2[q]? = some u → fj (off + k + q) = .int .i64 u) ∧ (∀ q, off + k + j ≤ q → fj q = f q) ∧ Upd [g] w wr) (fun _ s6 _ _ => k + l + 1 - (intOf s6).toNat)
  case atStart => exact ⟨0, f, by simp, by simp, by omega, HR.out, fun q hq => rfl, fun q u hq => by omega, fun q hq => rfl, Upd.refl _ _⟩
  case round =>
    obtain ⟨j, fj, rfl, rfl, hj, hRj, hf1, hf2, hf3, hu⟩ := hrel
    rename World => wr
    have HJ := Lib.hid (And.intro hf1 (And.intro hf2 hf3))
    have HRj := Lib.hid hRj
    have HJR := Lib.hid hRj
    have hbc := hu.kept hb (by simp; exact hbg2)
    by_cases hjl : j < l
    · obtain ⟨y, hyy⟩ : ∃ y, l2[j]? = some y := ⟨l2[j]'(by rw [HK.out.2]; exact hjl), by simp⟩
      have c0 := hRj.cellAt (off + (k + j + 1)) (by omega) ((hf3 _ (by omega)).trans (HF.out.1 (k + j + 1) y (by rw [HF.out.2.2.1 _ (by omega), show k + j + 1 - (k + 1) = j by omega]; exact hyy)))
      have c1 := hRj.cell (off + (k + j)) (by omega)
      have f1 := hRj.free (off + (k + j))
      have hxy : (x == y) = false := by
        have : x ≠ y := fun e => HN.out (by rw [e]; exact List.mem_of_getElem? hyy)
        simpa using this
      have kc := tclos_any wr b x y hbc
      rw [hxy] at kc
      have hi1 : ((k + j + 1 : Nat) : Int) < ((k + l + 1 : Nat) : Int) := by omega
      have hi2 : ((k + j : Nat) : Int) < ((k + l + 1 : Nat) : Int) := by omega
      have hw1 : IntKind.i64.wrap (((k + j : Nat) : Int) + 1) = ((k + (j + 1) : Nat) : Int) := by rw [IntWalk.i64_in _ (by omega)]; omega
      have hw2 : IntKind.i64.wrap (((k + j + 1 : Nat) : Int) + 1) = ((k + (j + 1) + 1 : Nat) : Int) := by rw [IntWalk.i64_in _ (by omega)]; omega
      have HY := Lib.hid hyy
      clear hf1 hf2 hf3 hRj hyy
      generalize hA : k + j + 1 = ja at *
      generalize hB : k + j = jb at *
      generalize hL : k + l + 1 = jl at *
      go_wp2_with ((go_at_call 156; (with_reducible refine (kc).mono ?_); rintro e w9 ⟨rfl, hw9⟩; rw [hw9]; clear hw9 w9))
      go_roundw
      case rel =>
        refine ⟨j + 1, _, by go_num, by go_num, by omega, HRj.out.set (off + jb) _, fun q hq => ?_, fun q u hq hqu => ?_, fun q hq => ?_, hu.setCell (Or.inl (by simp)) _⟩
        · rw [if_neg (by omega)]; exact HJ.out.1 q hq
        · by_cases e : q = j
          · subst e
            rw [if_pos (by omega)]
            rw [HY.out] at hqu
            cases hqu; rfl
          · rw [if_neg (by omega)]; exact HJ.out.2.1 q u (by omega) hqu
        · rw [if_neg (by omega)]; exact HJ.out.2.2 q (by omega)
      case measure => simp [intOf]; omega
    · obtain rfl : j = l := by omega
      have c1 := hRj.cell (off + (k + j)) (by omega)
      have f1 := hRj.free (off + (k + j))
      have hcl : ∀ ty, (Builtin.clear_ #[63] ty #[.slice (some ⟨g, off + (k + j), none⟩) 1 (cap - (k + j))]).run Try.prog wr = .ok (.tuple #[]) (wr.setCell ⟨g, off + (k + j), none⟩ (.int .i64 0)) := fun ty => by
        have := Lib.run_clear_slice wr 63 3 ty (.int .i64 0) Try.underlying63 zero_int rfl rfl g (off + (k + j)) 1 (cap - (k + j)) (by omega) (fun t ht => by rw [show off + (k + j) + t = off + (k + j) by omega, c1]; rfl) (fun t ht => by rw [show off + (k + j) + t = off + (k + j) by omega]; exact f1)
        rw [this]
        rfl
      have HCM := Lib.hid hcm
      have hi3 : ¬ ((k + j + 1 : Nat) : Int) < ((k + j + 1 : Nat) : Int) := by omega
      have hJB := Lib.hid (show k + j = k + j from rfl)
      clear hf1 hf2 hf3 hRj c1 hcm hbc hb
      generalize hB : k + j = jb at *
      go_wp2
      go_ret
      have hR2 := HJR.out.set (off + jb) (.int .i64 0)
      have hk1 := HK.out.1
      have hk2 := HK.out.2
      have hlen : (l1 ++ l2).length = jb := by have := HF.out.2.2.2.2.2; omega
      have hO := hR2.off (base := base) (ys := l1 ++ l2) (off := off) (cap := cap) hbg (by omega) hcp HCM.out (fun q u hq => by
        have hql : q < (l1 ++ l2).length := (List.getElem?_eq_some_iff.1 hq).1
        rw [if_neg (by omega)]
        by_cases e : q < k
        · rw [HJ.out.1 (off + q) (by omega)]
          exact HF.out.1 q u (by rw [HF.out.2.1 q (by omega)]; rw [HF.out.2.2.2.1 q (by omega)] at hq; exact hq)
        · have h3 := HF.out.2.2.2.2.1 q (by omega)
          have h5 : l2[q - k]? = some u := by rw [← hq, h3]
          have := HJ.out.2.1 (q - k) u (by omega) h5
          rw [show off + k + (q - k) = off + q by omega] at this
          exact this)
      rw [hlen] at hO
      exact ⟨_, rfl, hO, rfl, hu.setCell (Or.inl (by simp)) _, _, _, _, rfl⟩
end Go.Proofs.Ytighgbdijagolaa
