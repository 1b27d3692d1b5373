/-
  The document's trees (haycockref09): a list of what hangs where; what its functions compute, as functions of that list. Conditions: those of each lemma.
-/
import Derived.Test.YtdgfibcbnlkbpaaSpine3
set_option linter.unusedVariables false
set_option linter.unusedSimpArgs false
namespace Go.Proofs.Ytdgfibcbnlkbpaa
open Go Go.RowKit

structure Hg where
  p : Int
  x : Int
  r : Bool
def hgCells (l : List Hg) : List Value := l.flatMap (fun h => [.int .i64 h.p, .int .i64 h.x, .bool h.r])
theorem hg_len (l : List Hg) : (hgCells l).length = l.length * 3 := by
  induction l with
  | nil => rfl
  | cons x r ih => simp only [hgCells, List.flatMap_cons, List.length_append, List.length_cons] at *; simp [ih]; omega
theorem hg_append (a b : List Hg) : hgCells (a ++ b) = hgCells a ++ hgCells b := by unfold hgCells; rw [List.flatMap_append]
theorem hg_at (l : List Hg) (k : Nat) (h : Hg) (hk : l[k]? = some h) : (hgCells l)[k * 3]? = some (.int .i64 h.p) ∧ (hgCells l)[k * 3 + 1]? = some (.int .i64 h.x) ∧ (hgCells l)[k * 3 + 2]? = some (.bool h.r) := by
  induction l generalizing k with
  | nil => simp at hk
  | cons x r ih =>
    cases k with
    | zero => simp at hk; subst hk; exact ⟨rfl, rfl, rfl⟩
    | succ k =>
      have := ih k (by simpa using hk)
      rw [show (k + 1) * 3 = k * 3 + 3 by omega]
      simpa [hgCells] using this
theorem hg_one (l : List Hg) : ∀ u ∈ hgCells l, u.oneCell' = true := by
  intro u hu
  unfold hgCells at hu
  simp only [List.mem_flatMap] at hu
  obtain ⟨h, _, hu⟩ := hu
  simp at hu
  rcases hu with rfl | rfl | rfl <;> rfl
theorem find_here {α : Type} (f : α → Bool) (l : List α) (k : Nat) (h : α) (hn : (l.take k).find? f = none) (hk : l[k]? = some h) (hf : f h = true) : l.find? f = some h := by
  induction l generalizing k with
  | nil => simp at hk
  | cons x r ih =>
    cases k with
    | zero => simp at hk; subst hk; simp [hf]
    | succ k =>
      simp only [List.take_succ_cons, List.find?_cons] at hn ⊢
      split at hn
      · cases hn
      · exact ih k hn (by simpa using hk)
theorem find_past {α : Type} (f : α → Bool) (l : List α) (k : Nat) (h : α) (hn : (l.take k).find? f = none) (hk : l[k]? = some h) (hf : f h = false) : (l.take (k + 1)).find? f = none := by
  rw [List.take_add_one, hk, List.find?_append, hn]
  simp [hf]

def kidL (l : List Hg) (p : Int) (r : Bool) : Option Int := (l.find? (fun h => h.p == p && h.r == r)).map (·.x)
def upL (l : List Hg) (x : Int) : Option Int := (l.find? (fun h => h.x == x)).map (·.p)
def ov (o : Option Int) : Int := o.getD 0
def ob (o : Option Int) : Bool := o.isSome

theorem hungInfo : (Try.prog.info? 88).map (fun i => (i.zero, i.size, i.bytes)) = some (some (.agg #[.int .i64 0, .int .i64 0, .bool false]), 3, 24) := by kernel_rfl

set_option maxHeartbeats 1000000 in
theorem rkid_any (w : World) (lo : Nat) (n p : Int) (r : Bool) (v : Value) (l : List Hg) (h : LstAt w lo v l.length (hgCells l)) :
    Calls Try.prog 56 #[.agg #[.int .i64 n, v], .int .i64 p, .bool r] w fun e w' => e = .returned (.tuple #[.int .i64 (ov (kidL l p r)), .bool (ob (kidL l p r))]) ∧ Upd [] w w' := by
  obtain ⟨a, cap, rfl, hc, hn, hp⟩ := h.open
  have HP := Lib.hid hp
  clear hp
  generalize hlen : l.length = len at *
  have HLEN := Lib.hid hlen
  clear hlen
  go_enter Try.func56, Try.ntmps56
  go_wp2
  go_loopw [13] (fun i wr => ∃ k : Nat, k ≤ len ∧ i = .int .i64 k ∧ (l.take k).find? (fun h => h.p == p && h.r == r) = none ∧ Upd [] w wr) (fun i _ => len - (intOf i).toNat)
  case atStart => exact ⟨0, by omega, rfl, rfl, (Upd.refl _ _).alloc _⟩
  case round =>
    obtain ⟨k, hk, rfl, hf, hu⟩ := hrel
    by_cases hlt : k < len
    · obtain ⟨g, rfl, hg1, hg2, hx⟩ := HP.out (by omega)
      obtain ⟨hh, hhk⟩ : ∃ hh, l[k]? = some hh := ⟨l[k]'(by rw [HLEN.out]; exact hlt), by simp⟩
      obtain ⟨q0, q1, q2⟩ := hg_at l k hh hhk
      have c0 := hu.was (hx _ _ q0)
      have c1 := hu.was (hx _ _ q1)
      have c2 := hu.was (hx _ _ q2)
      have HF := Lib.hid hf
      have HK := Lib.hid hhk
      clear hx q0 q1 q2 hf hhk
      by_cases hm : hh.p = p ∧ hh.r = r
      · have b1 : (hh.p == p) = true := by simpa using hm.1
        have b2 : (hh.r == r) = true := by simpa using hm.2
        have E := Lib.hid (find_here _ l k hh HF.out HK.out (by simp [hm.1, hm.2]))
        clear hm
        go_wp2
        go_ret2
        refine ⟨?_, by (repeat (first | assumption | exact Upd.refl _ _ | refine Upd.alloc ?_ _ | refine Upd.drew ?_ | refine Upd.drewN ?_ _ | refine Upd.setCell ?_ (Or.inr (by first | (simp; done) | (simp; omega))) _ | (apply Upd.trans; rotate_left; assumption)))⟩
        unfold kidL ov ob
        rw [E.out]; rfl
      · have E := Lib.hid (find_past (fun h : Hg => h.p == p && h.r == r) l k hh HF.out HK.out (by simp; exact fun e1 e2 => hm ⟨e1, e2⟩))
        by_cases hm1 : hh.p = p
        · have b1 : (hh.p == p) = true := by simpa using hm1
          have b2 : (hh.r == r) = false := by simp; exact fun e2 => hm ⟨hm1, e2⟩
          clear hm hm1
          go_wp2
          go_roundw
          case rel => exact ⟨k + 1, by omega, by go_num, E.out, by (repeat (first | assumption | exact Upd.refl _ _ | refine Upd.alloc ?_ _ | refine Upd.drew ?_ | refine Upd.drewN ?_ _ | refine Upd.setCell ?_ (Or.inr (by first | (simp; done) | (simp; omega))) _ | (apply Upd.trans; rotate_left; assumption)))⟩
          case measure => simp [intOf]; omega
        · have b1 : (hh.p == p) = false := by simpa using hm1
          clear hm hm1
          go_wp2
          go_roundw
          case rel => exact ⟨k + 1, by omega, by go_num, E.out, by (repeat (first | assumption | exact Upd.refl _ _ | refine Upd.alloc ?_ _ | refine Upd.drew ?_ | refine Upd.drewN ?_ _ | refine Upd.setCell ?_ (Or.inr (by first | (simp; done) | (simp; omega))) _ | (apply Upd.trans; rotate_left; assumption)))⟩
          case measure => simp [intOf]; omega
    · obtain rfl : k = len := by omega
      have E : l.find? (fun h => h.p == p && h.r == r) = none := by rw [List.take_of_length_le (by rw [HLEN.out]; omega)] at hf; exact hf
      have E2 := Lib.hid E
      clear E hf
      go_wp2
      go_ret2
      refine ⟨?_, by (repeat (first | assumption | exact Upd.refl _ _ | refine Upd.alloc ?_ _ | refine Upd.drew ?_ | refine Upd.drewN ?_ _ | refine Upd.setCell ?_ (Or.inr (by first | (simp; done) | (simp; omega))) _ | (apply Upd.trans; rotate_left; assumption)))⟩
      unfold kidL ov ob
      rw [E2.out]; rfl

set_option maxHeartbeats 1000000 in
theorem rup_any (w : World) (lo : Nat) (n x : Int) (v : Value) (l : List Hg) (h : LstAt w lo v l.length (hgCells l)) :
    Calls Try.prog 57 #[.agg #[.int .i64 n, v], .int .i64 x] w fun e w' => e = .returned (.tuple #[.int .i64 (ov (upL l x)), .bool (ob (upL l x))]) ∧ Upd [] w w' := by
  obtain ⟨a, cap, rfl, hc, hn, hp⟩ := h.open
  have HP := Lib.hid hp
  clear hp
  generalize hlen : l.length = len at *
  have HLEN := Lib.hid hlen
  clear hlen
  go_enter Try.func57, Try.ntmps57
  go_wp2
  go_loopw [11] (fun i wr => ∃ k : Nat, k ≤ len ∧ i = .int .i64 k ∧ (l.take k).find? (fun h => h.x == x) = none ∧ Upd [] w wr) (fun i _ => len - (intOf i).toNat)
  case atStart => exact ⟨0, by omega, rfl, rfl, (Upd.refl _ _).alloc _⟩
  case round =>
    obtain ⟨k, hk, rfl, hf, hu⟩ := hrel
    by_cases hlt : k < len
    · obtain ⟨g, rfl, hg1, hg2, hx⟩ := HP.out (by omega)
      obtain ⟨hh, hhk⟩ : ∃ hh, l[k]? = some hh := ⟨l[k]'(by rw [HLEN.out]; exact hlt), by simp⟩
      obtain ⟨q0, q1, q2⟩ := hg_at l k hh hhk
      have c0 := hu.was (hx _ _ q0)
      have c1 := hu.was (hx _ _ q1)
      have c2 := hu.was (hx _ _ q2)
      have HF := Lib.hid hf
      have HK := Lib.hid hhk
      clear hx q0 q1 q2 hf hhk
      by_cases hm : hh.x = x
      · have b1 : (hh.x == x) = true := by simpa using hm
        have E := Lib.hid (find_here _ l k hh HF.out HK.out (by simp [hm]))
        clear hm
        go_wp2
        go_ret2
        refine ⟨?_, by (repeat (first | assumption | exact Upd.refl _ _ | refine Upd.alloc ?_ _ | refine Upd.drew ?_ | refine Upd.drewN ?_ _ | refine Upd.setCell ?_ (Or.inr (by first | (simp; done) | (simp; omega))) _ | (apply Upd.trans; rotate_left; assumption)))⟩
        unfold upL ov ob
        rw [E.out]; rfl
      · have E := Lib.hid (find_past (fun h : Hg => h.x == x) l k hh HF.out HK.out (by simpa using hm))
        have b1 : (hh.x == x) = false := by simpa using hm
        clear hm
        go_wp2
        go_roundw
        case rel => exact ⟨k + 1, by omega, by go_num, E.out, by (repeat (first | assumption | exact Upd.refl _ _ | refine Upd.alloc ?_ _ | refine Upd.drew ?_ | refine Upd.drewN ?_ _ | refine Upd.setCell ?_ (Or.inr (by first | (simp; done) | (simp; omega))) _ | (apply Upd.trans; rotate_left; assumption)))⟩
        case measure => simp [intOf]; omega
    · obtain rfl : k = len := by omega
      have E : l.find? (fun h => h.x == x) = none := by rw [List.take_of_length_le (by rw [HLEN.out]; omega)] at hf; exact hf
      have E2 := Lib.hid E
      clear E hf
      go_wp2
      go_ret2
      refine ⟨?_, by (repeat (first | assumption | exact Upd.refl _ _ | refine Upd.alloc ?_ _ | refine Upd.drew ?_ | refine Upd.drewN ?_ _ | refine Upd.setCell ?_ (Or.inr (by first | (simp; done) | (simp; omega))) _ | (apply Upd.trans; rotate_left; assumption)))⟩
      unfold upL ov ob
      rw [E2.out]; rfl

theorem rhas_any (w : World) (n x : Int) (v : Value) (hv : v.oneCell' = true) (b : Bool) (hb : b = decide (0 ≤ x ∧ x < n)) :
    Calls Try.prog 59 #[.agg #[.int .i64 n, v], .int .i64 x] w fun e w' => e = .returned (.bool b) ∧ Upd [] w w' := by
  subst hb
  by_cases h0 : 0 ≤ x
  · by_cases h1 : x < n
    · go_enter Try.func59, Try.ntmps59
      go_wp2
      go_ret
      exact ⟨ret_bool (by simp [h0, h1]), by (repeat (first | assumption | exact Upd.refl _ _ | refine Upd.alloc ?_ _ | refine Upd.drew ?_ | refine Upd.drewN ?_ _ | refine Upd.setCell ?_ (Or.inr (by first | (simp; done) | (simp; omega))) _ | (apply Upd.trans; rotate_left; assumption)))⟩
    · go_enter Try.func59, Try.ntmps59
      go_wp2
      go_ret
      exact ⟨ret_bool (by simp [h0, h1]), by (repeat (first | assumption | exact Upd.refl _ _ | refine Upd.alloc ?_ _ | refine Upd.drew ?_ | refine Upd.drewN ?_ _ | refine Upd.setCell ?_ (Or.inr (by first | (simp; done) | (simp; omega))) _ | (apply Upd.trans; rotate_left; assumption)))⟩
  · go_enter Try.func59, Try.ntmps59
    go_wp2
    go_ret
    exact ⟨ret_bool (by simp; omega), by (repeat (first | assumption | exact Upd.refl _ _ | refine Upd.alloc ?_ _ | refine Upd.drew ?_ | refine Upd.drewN ?_ _ | refine Upd.setCell ?_ (Or.inr (by first | (simp; done) | (simp; omega))) _ | (apply Upd.trans; rotate_left; assumption)))⟩

/-- Is x above p, or it itself, within so many steps? -/
def aboveL (l : List Hg) : Nat → Int → Int → Bool
  | 0, _, _ => false
  | f + 1, x, p => if x = p then true else match upL l p with
    | none => false
    | some q => aboveL l f x q

set_option maxHeartbeats 1000000 in
theorem rabove_any (w : World) (lo n : Nat) (x p : Int) (v : Value) (l : List Hg) (h : LstAt w lo v l.length (hgCells l)) (hn : n ≤ 65536) :
    Calls Try.prog 51 #[.agg #[.int .i64 (n : Int), v], .int .i64 x, .int .i64 p] w fun e w' => e = .returned (.bool (aboveL l (n + 1) x p)) ∧ Upd [] w w' := by
  have hv : v.oneCell' = true := by obtain ⟨a, cap, rfl, _⟩ := h.open; rfl
  have r0 : ∀ W, Upd [] (w.alloc (.cells #[.int .i64 (n : Int), v] 52)) W → W.cell? ⟨w.heap.size, 0, none⟩ = some (.int .i64 (n : Int)) := fun W h => h.was (by simp)
  have r1 : ∀ W, Upd [] (w.alloc (.cells #[.int .i64 (n : Int), v] 52)) W → W.cell? ⟨w.heap.size, 1, none⟩ = some v := fun W h => h.was (by simp)
  have H := Lib.hid h
  clear h
  generalize hR : aboveL l (n + 1) x p = R
  have HR := Lib.hid hR
  clear hR
  go_enter Try.func51, Try.ntmps51
  go_wp2
  go_loopw [2, 7] (fun q i wr => ∃ (k : Nat) (y : Int), k ≤ n + 1 ∧ i = .int .i64 (k : Int) ∧ q = .int .i64 y ∧ aboveL l (n + 1 - k) x y = R ∧ Upd [] (w.alloc (.cells #[.int .i64 (n : Int), v] 52)) wr) (fun _ i _ => n + 1 - (intOf i).toNat)
  case atStart => exact ⟨0, p, by omega, rfl, rfl, HR.out, Upd.refl _ _⟩
  case round =>
    obtain ⟨k, y, hk, rfl, rfl, hA, hu⟩ := hrel
    have hL := H.out.upd ((Upd.refl [] w).alloc (.cells #[.int .i64 (n : Int), v] 52)) (by simp)
    have hL2 := hL.upd hu (by simp)
    by_cases hlt : k ≤ n
    · have c0 := r0 _ hu
      have c1 := r1 _ hu
      rw [show n + 1 - k = (n - k) + 1 by omega, aboveL] at hA
      by_cases hxy : x = y
      · rw [if_pos hxy] at hA
        subst hA
        have hb : (x == y) = true := by simpa using hxy
        clear hxy hL hL2
        go_wp2
        go_ret
        exact ⟨rfl, by (repeat (first | assumption | exact Upd.refl _ _ | refine Upd.alloc ?_ _ | refine Upd.drew ?_ | refine Upd.drewN ?_ _ | refine Upd.setCell ?_ (Or.inr (by first | (simp; done) | (simp; omega))) _ | (apply Upd.trans; rotate_left; assumption)))⟩
      · rw [if_neg hxy] at hA
        have hb : (x == y) = false := by simpa using hxy
        have c := rup_any wr lo n y v l hL2
        cases hup : upL l y with
        | none =>
          rw [hup] at hA c
          simp only [] at hA
          subst hA
          unfold ov ob at c
          simp only [Option.getD_none, Option.isSome_none] at c
          clear hxy hL hL2 hup
          go_wp2_with ((go_at_call 57; (with_reducible refine (c).mono ?_); rintro e w' ⟨rfl, hq⟩))
          go_ret
          exact ⟨rfl, by (repeat (first | assumption | exact Upd.refl _ _ | refine Upd.alloc ?_ _ | refine Upd.drew ?_ | refine Upd.drewN ?_ _ | refine Upd.setCell ?_ (Or.inr (by first | (simp; done) | (simp; omega))) _ | (apply Upd.trans; rotate_left; assumption)))⟩
        | some z =>
          rw [hup] at hA c
          simp only [] at hA
          unfold ov ob at c
          simp only [Option.getD_some, Option.isSome_some] at c
          have HA := Lib.hid hA
          clear hxy hL hL2 hup hA
          go_wp2_with ((go_at_call 57; (with_reducible refine (c).mono ?_); rintro e w' ⟨rfl, hq⟩))
          go_roundw
          case rel => exact ⟨k + 1, z, by omega, by go_num, rfl, by rw [show n + 1 - (k + 1) = n - k by omega]; exact HA.out, by (repeat (first | assumption | exact Upd.refl _ _ | refine Upd.alloc ?_ _ | refine Upd.drew ?_ | refine Upd.drewN ?_ _ | refine Upd.setCell ?_ (Or.inr (by first | (simp; done) | (simp; omega))) _ | (apply Upd.trans; rotate_left; assumption)))⟩
          case measure => simp [intOf]; omega
    · have c0 := r0 _ hu
      have e : n + 1 - k = 0 := by omega
      rw [e, aboveL] at hA
      subst hA
      clear hL hL2
      go_wp2
      go_ret
      exact ⟨rfl, by (repeat (first | assumption | exact Upd.refl _ _ | refine Upd.alloc ?_ _ | refine Upd.drew ?_ | refine Upd.drewN ?_ _ | refine Upd.setCell ?_ (Or.inr (by first | (simp; done) | (simp; omega))) _ | (apply Upd.trans; rotate_left; assumption)))⟩

end Go.Proofs.Ytdgfibcbnlkbpaa
