/-
  The document's forests of layer 12 in memory: Row, Cube. Conditions: those of each lemma.
-/
import Derived.Test.YtdgohhkgmfjhaaaFr3
set_option linter.unusedVariables false
set_option linter.unusedSimpArgs false
namespace Go.Proofs.Ytdgohhkgmfjhaaa
open Go Go.RowKit

def rowOkG (r : Int → Bool) (d : Int → Int) (l : List Int) (i : Nat) : Bool := r (l.getD i 0) && (i == 0 || decide (d (l.getD (i - 1) 0) < d (l.getD i 0)))
def rowToG (r : Int → Bool) (d : Int → Int) (l : List Int) (j : Nat) : Bool := (List.range j).all (rowOkG r d l)
theorem rowToG_succ (r : Int → Bool) (d : Int → Int) (l : List Int) (j : Nat) : rowToG r d l (j + 1) = (rowToG r d l j && rowOkG r d l j) := by
  unfold rowToG; rw [List.range_succ, List.all_append]; simp
theorem rowToG_no (r : Int → Bool) (d : Int → Int) (l : List Int) (j : Nat) (hj : rowOkG r d l j = false) (m : Nat) (hm : j < m) : rowToG r d l m = false := by
  unfold rowToG
  rw [List.all_eq_false]
  exact ⟨j, by simp [hm], by simp [hj]⟩
theorem rowToG_root (r : Int → Bool) (d : Int → Int) (l : List Int) (j : Nat) (h : rowToG r d l j = true) (i : Nat) (hi : i < j) : r (l.getD i 0) = true := by
  unfold rowToG at h
  rw [List.all_eq_true] at h
  have := h i (by simp [hi])
  unfold rowOkG at this
  simp only [Bool.and_eq_true] at this
  exact this.1
def degZ (Z : List (List Int)) (x : Int) : Int := (kidsZ Z x).length

set_option maxHeartbeats 400000 in
theorem zkids_at (w : World) (F : List Nat) (a : Option Addr) (cap : Nat) (Z : List (List Int)) (y : Nat) (h : FrAt w F (.slice a Z.length cap) Z) (hy : y < Z.length) (g off : Nat) (ha : a = some ⟨g, off, none⟩) (u : Value) (hc : w.cell? ⟨g, off + y, none⟩ = some u) (hu : ∃ a n c, u = .slice a n c) :
    Calls Try.prog 49 #[.slice a Z.length cap, .int .i64 (y : Int)] w fun e w' => e = .returned u ∧ w' = w := by
  have k1 := zhas_any w F _ Z y h true (by simp; omega)
  obtain ⟨_, _, he, h1, h2⟩ := h.shape
  cases he
  obtain ⟨a', n', c', rfl⟩ := hu
  subst ha
  clear h
  generalize Z.length = n at *
  go_enter Try.func49, Try.ntmps49
  go_wp2_with ((go_at_call 42; (with_reducible refine (k1).mono ?_); rintro e w9 ⟨rfl, hw9⟩; rw [hw9]; clear hw9 w9))
  go_ret
  exact ⟨rfl, rfl⟩

set_option maxHeartbeats 2000000 in
theorem zrow_any (w : World) (F F2 : List Nat) (v v2 : Value) (Z : List (List Int)) (l : List Int) (h : FrAt w F v Z) (hv : SlI w F2 v2 l) :
    Calls Try.prog 23 #[v, v2] w fun e w' => e = .returned (.bool (rowToG (rootZ Z) (degZ Z) l l.length)) ∧ ∃ k, w' = w.drewN k := by
  obtain ⟨af, cap, rfl, hf1, hf2⟩ := h.shape
  have kR0 := fun W (hW : Upd [] w W) x => zroot_any W F _ Z x (h.upd hW (by simp))
  have kK := fun (y : Nat) (hy : y < Z.length) (g off : Nat) (ha : af = some ⟨g, off, none⟩) (u : Value) (hu : ∃ a n c, u = .slice a n c) W (hW : Upd [] w W) (hc : W.cell? ⟨g, off + y, none⟩ = some u) => zkids_at W F af cap Z y (h.upd hW (by simp)) hy g off ha u hc hu
  have hlt := fun x h => rootZ_lt (Z := Z) (x := x) h
  have H := Lib.hid h
  obtain ⟨a, cp, rfl, hlc, hcp, hp⟩ := hv
  have HP := Lib.hid hp
  clear hp h
  generalize hlen : l.length = len at *
  have HLEN := Lib.hid hlen
  clear hlen
  have hdz : ∀ x : Nat, ∀ hx : x < Z.length, degZ Z x = (Z[x].length : Int) := fun x hx => by unfold degZ; rw [kidsZ_at hx]
  have HDZ := Lib.hid hdz
  clear hdz
  generalize rootZ Z = r at *
  go_enter Try.func23, Try.ntmps23
  go_wp2
  go_loopw [9] (fun i wr => ∃ (k m : Nat), k ≤ len ∧ i = .int .i64 (k : Int) ∧ rowToG r (degZ Z) l k = true ∧ wr = w.drewN m) (fun i _ => len - (intOf i).toNat)
  case atStart => exact ⟨0, 0, by omega, rfl, rfl, rfl⟩
  case round =>
    obtain ⟨k, m, hk, rfl, ht, hwm⟩ := hrel
    have hU : Upd [] w wr := by rw [hwm]; exact (Upd.refl _ _).drewN m
    have kR := fun x n => kR0 (wr.drewN n) (hU.drewN n) x
    have HW := Lib.hid hwm
    clear hwm kR0
    by_cases hlk : k < len
    · obtain ⟨g, off, rfl, _, _, c1⟩ := HP.out k (l.getD k 0) (by simp [List.getD_eq_getElem?_getD, HLEN.out, hlk])
      replace c1 := hU.was c1
      have c2 : 0 < k → wr.cell? ⟨g, off + (k - 1), none⟩ = some (.int .i64 (l.getD (k - 1) 0)) := fun hk0 => by
        have hk1 : k - 1 < l.length := by rw [HLEN.out]; omega
        obtain ⟨g2, off2, he, _, _, c⟩ := HP.out (k - 1) (l.getD (k - 1) 0) (by simp [List.getD_eq_getElem?_getD, hk1])
        simp only [Option.some.injEq, Addr.mk.injEq, and_true] at he
        obtain ⟨rfl, rfl⟩ := he
        exact hU.was c
      have hsu := rowToG_succ r (degZ Z) l k
      have hno := fun hj => rowToG_no r (degZ Z) l k hj len hlk
      have hpr := rowToG_root r (degZ Z) l k ht
      rw [ht, Bool.true_and] at hsu
      unfold rowOkG at hsu hno
      have HS := Lib.hid hsu
      have HN := Lib.hid hno
      have HPR := Lib.hid hpr
      clear hsu hno hpr ht
      generalize hx0 : l.getD k 0 = x at *
      have HX0 := Lib.hid hx0
      clear hx0
      cases hrx : r x with
      | false =>
        clear kK c2 hlt
        go_wp2
        go_quiet ((go_at_call 48; exact Calls.quiet_of_same (kR _ _)))
        go_wp2
        go_ret
        exact ⟨ret_bool (HN.out (by rw [hrx]; rfl)).symm, _, by rw [HW.out, World.drewN_drewN]⟩
      | true =>
        obtain ⟨hx1, hx2⟩ := hlt x hrx
        obtain ⟨X, rfl⟩ := Int.eq_ofNat_of_zero_le hx1
        have hXl : X < Z.length := by omega
        obtain ⟨gz, oz, ax, cx, rfl, hgz, hcx, -, -⟩ := H.out.at X hXl
        replace hcx := hU.was hcx
        by_cases hk0 : k = 0
        · subst hk0
          rw [Nat.add_zero] at c1
          clear c2 kK hlt
          go_wp2
          go_quiet ((go_at_call 48; exact Calls.quiet_of_same (kR _ _)))
          go_wp2
          go_roundw
          case rel => exact ⟨1, _, by omega, rfl, by rw [HS.out, hrx]; rfl, by rw [HW.out, World.drewN_drewN]⟩
          case measure => simp [intOf]; omega
        · obtain ⟨k', rfl⟩ : ∃ k', k = k' + 1 := ⟨k - 1, by omega⟩
          have c3 := c2 (by omega)
          have hry := HPR.out k' (by omega)
          simp only [Nat.add_sub_cancel] at c3 HS HN
          generalize l.getD k' 0 = y at *
          obtain ⟨hy1, hy2⟩ := hlt y hry
          obtain ⟨Y, rfl⟩ := Int.eq_ofNat_of_zero_le hy1
          have hYl : Y < Z.length := by omega
          obtain ⟨gy, oy, ay, cy, he, -, hcy, -, -⟩ := H.out.at Y hYl
          replace hcy := hU.was hcy
          have he' := he
          simp only [Option.some.injEq, Addr.mk.injEq, and_true] at he'
          obtain ⟨rfl, rfl⟩ := he'
          have kK1 := fun n => kK Y hYl _ _ rfl _ ⟨_, _, _, rfl⟩ (wr.drewN n) (hU.drewN n) hcy
          rw [HDZ.out X hXl, HDZ.out Y hYl] at HS HN
          clear c2 kK hlt he hry
          generalize Z[X].length = dx at *
          generalize Z[Y].length = dy at *
          by_cases hd : dy < dx
          · have hd1 : decide ((dx : Int) ≤ (dy : Int)) = false := by simp; omega
            have hd2 : ¬ ((dx : Int) ≤ (dy : Int)) := by omega
            go_wp2
            go_quiet (first | (go_at_call 48; exact Calls.quiet_of_same (kR _ _)) | (go_at_call 49; exact Calls.quiet_of_same (kK1 _)))
            go_wp2
            go_roundw
            case rel => exact ⟨k' + 1 + 1, _, by omega, by go_num, by rw [HS.out, hrx]; simp; omega, by rw [HW.out, World.drewN_drewN]⟩
            case measure => simp [intOf]; omega
          · have hd2 : ((dx : Int) ≤ (dy : Int)) := by omega
            go_wp2
            go_quiet (first | (go_at_call 48; exact Calls.quiet_of_same (kR _ _)) | (go_at_call 49; exact Calls.quiet_of_same (kK1 _)))
            go_wp2
            go_ret
            exact ⟨ret_bool (HN.out (by rw [hrx]; simp; omega)).symm, _, by rw [HW.out, World.drewN_drewN]⟩
    · obtain rfl : k = len := by omega
      have HT := Lib.hid ht
      clear ht
      go_wp2
      go_ret
      exact ⟨ret_bool HT.out.symm, _, HW.out⟩
end Go.Proofs.Ytdgohhkgmfjhaaa
