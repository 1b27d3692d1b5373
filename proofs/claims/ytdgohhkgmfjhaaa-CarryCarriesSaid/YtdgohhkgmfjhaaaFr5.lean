/-
  The document's forests of layer 12 in memory: Cube. Conditions: those of each lemma.
-/
import Derived.Test.YtdgohhkgmfjhaaaFr4
set_option linter.unusedVariables false
set_option linter.unusedSimpArgs false
namespace Go.Proofs.Ytdgohhkgmfjhaaa
open Go Go.RowKit

/-- Children are things, each of another degree, from 0 on. -/
def CubeZ (Z : List (List Int)) : Prop := ∀ (x : Nat) (l : List Int), Z[x]? = some l → ∀ (i : Nat) (z : Int), l[i]? = some z → ∃ y : Nat, ∃ hy : y < Z.length, z = y ∧ (Z[y]).length = i

set_option maxHeartbeats 2000000 in
theorem zcube_zero (F : List Nat) (v : Value) (Z : List (List Int)) (w : World) (h : FrAt w F v Z) (x : Nat) :
    Calls Try.prog 20 #[v, .int .i64 (x : Int), .int .i64 0] w fun e w' => e = .returned (.bool true) ∧ w' = w := by
  obtain ⟨a, cap, rfl, h1, h2⟩ := h.shape
  go_enter Try.func20, Try.ntmps20
  go_wp2
  go_ret
  exact ⟨rfl, rfl⟩
set_option maxHeartbeats 2000000 in
theorem zcube_step (F : List Nat) (v : Value) (Z : List (List Int)) (w : World) (h : FrAt w F v Z) (hc : CubeZ Z) (lev : Nat) (hl : lev ≤ 100000) (ih : ∀ y : Nat, y < Z.length → Calls Try.prog 20 #[v, .int .i64 (y : Int), .int .i64 (lev : Int)] w fun e w' => e = .returned (.bool true) ∧ w' = w) (x : Nat) (hx : x < Z.length) :
    Calls Try.prog 20 #[v, .int .i64 (x : Int), .int .i64 ((lev : Int) + 1)] w fun e w' => e = .returned (.bool true) ∧ w' = w := by
  have kH := fun (y : Nat) (hy : y < Z.length) => zhas_any w F v Z y h true (by simp; omega)
  obtain ⟨a, cap, rfl, h1, h2⟩ := h.shape
  obtain ⟨g, off, ax, cx, rfl, hg, hcx, hcc, hsx⟩ := h.at x hx
  have hzx : Z[x]? = some Z[x] := by simp [hx]
  have hcu := hc x Z[x] hzx
  have HA := Lib.hid (fun (y : Nat) (hy : y < Z.length) => h.at y hy)
  obtain ⟨_, _, he, hle, _, hcells⟩ := hsx
  cases he
  have HCU := Lib.hid hcu
  have HC := Lib.hid hcells
  have HI := Lib.hid ih
  have HK := Lib.hid kH
  clear hcells hcu ih kH h hc hzx
  generalize hlx : Z[x] = lx at *
  clear hlx
  generalize hm : lx.length = m at *
  have HM := Lib.hid hm
  clear hm
  go_enter Try.func20, Try.ntmps20
  go_wp2
  go_loop [16] (fun i => ∃ q : Nat, q ≤ m ∧ i = .int .i64 (q : Int)) (fun i => m - (intOf i).toNat)
  case atStart => exact ⟨0, by omega, rfl⟩
  case round =>
    obtain ⟨q, hq, rfl⟩ := hrel
    by_cases hqm : q < m
    · obtain ⟨z, hz⟩ : ∃ z, lx[q]? = some z := ⟨lx[q]'(by rw [HM.out]; exact hqm), by simp⟩
      obtain ⟨gb, ob2, rfl, _, _, hcy⟩ := HC.out q z hz
      obtain ⟨y, hy, rfl, hyl⟩ := HCU.out q z hz
      obtain ⟨g2, off2, ay, cy, he, _, hcz, _, _⟩ := HA.out y hy
      simp only [Option.some.injEq, Addr.mk.injEq, and_true] at he
      obtain ⟨rfl, rfl⟩ := he
      rw [hyl] at hcz
      have k1 := HK.out y hy
      have k2 := HI.out y hy
      clear hz hyl
      go_wp2_with (first | (go_at_call 42; (with_reducible refine (k1).mono ?_); rintro e w9 ⟨rfl, hw9⟩; rw [hw9]; clear hw9 w9) | (go_at_call 20; (with_reducible refine (k2).mono ?_); rintro e w9 ⟨rfl, hw9⟩; rw [hw9]; clear hw9 w9))
      go_round
      case rel => first | trivial | exact ⟨q + 1, by omega, by go_num⟩
      case measure => simp [intOf]; omega
    · obtain rfl : q = m := by omega
      go_wp2
      go_ret
      exact ⟨rfl, rfl⟩
theorem zcube_yes (F : List Nat) (v : Value) (Z : List (List Int)) (w : World) (h : FrAt w F v Z) (hc : CubeZ Z) (lev : Nat) : lev ≤ 100000 → ∀ x : Nat, x < Z.length →
    Calls Try.prog 20 #[v, .int .i64 (x : Int), .int .i64 (lev : Int)] w fun e w' => e = .returned (.bool true) ∧ w' = w := by
  induction lev with
  | zero => exact fun _ x _ => zcube_zero F v Z w h x
  | succ lev ih => exact fun hl x hx => zcube_step F v Z w h hc lev (by omega) (ih (by omega)) x hx
end Go.Proofs.Ytdgohhkgmfjhaaa
