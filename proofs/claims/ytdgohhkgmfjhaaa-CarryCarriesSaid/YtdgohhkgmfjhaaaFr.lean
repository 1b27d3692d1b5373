/-
  The document's forests of layer 12 in memory: Has, Kids, Up, Root. Conditions: those of each lemma.
-/
import Derived.Test.YtdgohhkgmfjhaaaSameSl
set_option linter.unusedVariables false
set_option linter.unusedSimpArgs false
namespace Go.Proofs.Ytdgohhkgmfjhaaa
open Go Go.RowKit

theorem SlI.shape' {w : World} {F : List Nat} {v : Value} {xs : List Int} (h : SlI w F v xs) : ∃ a cap, v = .slice a xs.length cap ∧ cap ≤ 9223372036854775807 := by
  obtain ⟨a, cap, rfl, _, h2, _⟩ := h
  exact ⟨a, cap, rfl, h2⟩
/-- A slice of slices that are only read, in blocks that none of F is. -/
def FrAt (w : World) (F : List Nat) (v : Value) (Z : List (List Int)) : Prop :=
  ∃ a cap, v = .slice a Z.length cap ∧ Z.length ≤ cap ∧ cap ≤ 9223372036854775807 ∧ ∀ x l, Z[x]? = some l → ∃ g off vx, a = some ⟨g, off, none⟩ ∧ g < w.heap.size ∧ g ∉ F ∧ w.cell? ⟨g, off + x, none⟩ = some vx ∧ SlI w F vx l
theorem FrAt.upd {w w' : World} {F G : List Nat} {v : Value} {Z : List (List Int)} (h : FrAt w F v Z) (hu : Upd G w w') (hG : ∀ g, g ∈ G → g ∈ F) : FrAt w' F v Z := by
  obtain ⟨a, cap, rfl, h1, h2, h3⟩ := h
  refine ⟨a, cap, rfl, h1, h2, fun x l hx => ?_⟩
  obtain ⟨g, off, vx, rfl, hg, hF, hc, hs⟩ := h3 x l hx
  exact ⟨g, off, vx, rfl, Nat.lt_of_lt_of_le hg hu.size, hF, by rw [hu.cell hg (fun hm => hF (hG _ hm))]; exact hc, hs.upd hu hG⟩
theorem FrAt.fresh {w w' : World} {F F' : List Nat} {v : Value} {Z : List (List Int)} (h : FrAt w F v Z) (hu : Upd F w w') (hF : ∀ g, g ∈ F' → g ∈ F ∨ w.heap.size ≤ g) : FrAt w' F' v Z := by
  obtain ⟨a, cap, rfl, h1, h2, h3⟩ := h
  refine ⟨a, cap, rfl, h1, h2, fun x l hx => ?_⟩
  obtain ⟨g, off, vx, rfl, hg, hn, hc, hs⟩ := h3 x l hx
  exact ⟨g, off, vx, rfl, Nat.lt_of_lt_of_le hg hu.size, fun hm => by rcases hF g hm with h' | h'; exact hn h'; omega, by rw [hu.cell hg hn]; exact hc, hs.fresh hu hF⟩
theorem FrAt.any {w : World} {F : List Nat} {v : Value} {Z : List (List Int)} (h : FrAt w F v Z) : FrAt w [] v Z := by
  obtain ⟨a, cap, rfl, h1, h2, h3⟩ := h
  refine ⟨a, cap, rfl, h1, h2, fun x l hx => ?_⟩
  obtain ⟨g, off, vx, rfl, hg, hF, hc, hs⟩ := h3 x l hx
  exact ⟨g, off, vx, rfl, hg, by simp, hc, hs.any⟩
theorem FrAt.shape {w : World} {F : List Nat} {v : Value} {Z : List (List Int)} (h : FrAt w F v Z) : ∃ a cap, v = .slice a Z.length cap ∧ Z.length ≤ cap ∧ cap ≤ 9223372036854775807 := by
  obtain ⟨a, cap, rfl, h1, h2, _⟩ := h
  exact ⟨a, cap, rfl, h1, h2⟩
/-- The cell of a thing, and the slice that lies there. -/
theorem FrAt.at {w : World} {F : List Nat} {a : Option Addr} {n cap : Nat} {Z : List (List Int)} (h : FrAt w F (.slice a n cap) Z) (x : Nat) (hx : x < Z.length) :
    ∃ g off ax cx, a = some ⟨g, off, none⟩ ∧ g < w.heap.size ∧ w.cell? ⟨g, off + x, none⟩ = some (.slice ax (Z[x]).length cx) ∧ cx ≤ 9223372036854775807 ∧ SlI w F (.slice ax (Z[x]).length cx) Z[x] := by
  obtain ⟨a', cap', he, _, _, h3⟩ := h
  cases he
  obtain ⟨g, off, vx, rfl, hg, _, hc, hs⟩ := h3 x Z[x] (by simp [hx])
  obtain ⟨ax, cx, he, hcx⟩ := hs.shape'
  subst he
  exact ⟨g, off, ax, cx, rfl, hg, hc, hcx, hs⟩

def kidsZ (Z : List (List Int)) (x : Int) : List Int := if 0 ≤ x ∧ x < Z.length then Z.getD x.toNat [] else []
def upZ (Z : List (List Int)) (x : Int) : Option Int := (Z.findIdx? (fun l => decide (x ∈ l))).map (fun i => (i : Int))
def rootZ (Z : List (List Int)) (x : Int) : Bool := decide (0 ≤ x ∧ x < Z.length) && !(upZ Z x).isSome

theorem zhas_any (w : World) (F : List Nat) (v : Value) (Z : List (List Int)) (x : Int) (h : FrAt w F v Z) (b : Bool) (hb : b = decide (0 ≤ x ∧ x < Z.length)) :
    Calls Try.prog 42 #[v, .int .i64 x] w fun e w' => e = .returned (.bool b) ∧ w' = w := by
  obtain ⟨a, cap, rfl, h1, h2⟩ := h.shape
  subst hb
  clear h
  generalize Z.length = n at *
  by_cases h0 : 0 ≤ x
  · by_cases h1 : x < n
    · go_enter Try.func42, Try.ntmps42
      go_wp2
      go_ret
      exact ⟨ret_bool (by simp [h0, h1]), rfl⟩
    · go_enter Try.func42, Try.ntmps42
      go_wp2
      go_ret
      exact ⟨ret_bool (by simp [h0, h1]), rfl⟩
  · go_enter Try.func42, Try.ntmps42
    go_wp2
    go_ret
    exact ⟨ret_bool (by simp; omega), rfl⟩

theorem zkids_any (w : World) (F : List Nat) (v : Value) (Z : List (List Int)) (x : Int) (h : FrAt w F v Z) :
    Calls Try.prog 49 #[v, .int .i64 x] w fun e w' => ∃ a c, e = .returned (.slice a (kidsZ Z x).length c) ∧ SlI w F (.slice a (kidsZ Z x).length c) (kidsZ Z x) ∧ w' = w := by
  have k1 := zhas_any w F v Z x h _ rfl
  obtain ⟨a, cap, rfl, h1, h2⟩ := h.shape
  by_cases hx : 0 ≤ x ∧ x < Z.length
  · obtain ⟨k, rfl⟩ := Int.eq_ofNat_of_zero_le hx.1
    have hk : k < Z.length := by omega
    obtain ⟨g, off, ax, cx, rfl, hg, hc, hcx, hs⟩ := h.at k hk
    have e : kidsZ Z k = Z[k] := by unfold kidsZ; rw [if_pos hx]; simp [List.getD_eq_getElem?_getD, hk]
    rw [decide_eq_true hx] at k1
    rw [e]
    clear e h hx
    generalize Z[k] = l at *
    generalize Z.length = n at *
    go_enter Try.func49, Try.ntmps49
    go_wp2_with ((go_at_call 42; (with_reducible refine (k1).mono ?_); rintro e w9 ⟨rfl, hw9⟩; rw [hw9]; clear hw9 w9))
    go_ret
    exact ⟨_, _, rfl, hs, rfl⟩
  · have e : kidsZ Z x = [] := by unfold kidsZ; rw [if_neg hx]
    rw [decide_eq_false hx] at k1
    rw [e]
    clear e h hx
    generalize Z.length = n at *
    go_enter Try.func49, Try.ntmps49
    go_wp2_with ((go_at_call 42; (with_reducible refine (k1).mono ?_); rintro e w9 ⟨rfl, hw9⟩; rw [hw9]; clear hw9 w9))
    go_ret
    exact ⟨none, 0, rfl, ⟨none, 0, rfl, by simp, by omega, fun j u hj => by simp at hj⟩, rfl⟩
theorem findIdx_here {α : Type} {p : α → Bool} {l : List α} {k : Nat} (hk : k < l.length) (hp : p l[k] = true) (hn : ∀ j (h : j < k), p (l[j]'(by omega)) = false) : l.findIdx? p = some k := by
  rw [List.findIdx?_eq_some_iff_getElem]
  exact ⟨hk, hp, fun j hj => by simp [hn j hj]⟩

set_option maxHeartbeats 1000000 in
theorem zup_any (w : World) (F : List Nat) (v : Value) (Z : List (List Int)) (x : Int) (h : FrAt w F v Z) :
    Calls Try.prog 19 #[v, .int .i64 x] w fun e w' => e = .returned (.tuple #[.int .i64 (ov (upZ Z x)), .bool (ob (upZ Z x))]) ∧ w' = w := by
  obtain ⟨a, cap, rfl, h1, h2⟩ := h.shape
  have H := Lib.hid h
  clear h
  generalize hn : Z.length = n at *
  have HN := Lib.hid hn
  clear hn
  go_enter Try.func19, Try.ntmps19
  go_wp2
  go_loop [12] (fun i => ∃ p : Nat, p ≤ n ∧ i = .int .i64 (p : Int) ∧ ∀ q l, q < p → Z[q]? = some l → x ∉ l) (fun i => n - (intOf i).toNat)
  case atStart => exact ⟨0, by omega, rfl, fun q l hq => by omega⟩
  case round =>
    obtain ⟨p, hp, rfl, hnone⟩ := hrel
    by_cases hlt : p < n
    · have hpl : p < Z.length := by rw [HN.out]; exact hlt
      obtain ⟨g, off, ax, cx, rfl, hg, hc, hcx, hs⟩ := H.out.at p hpl
      have hzp : Z[p]? = some Z[p] := by simp [hpl]
      generalize Z[p] = lp at *
      obtain ⟨_, _, he, _, _, hcells⟩ := hs
      cases he
      have HC := Lib.hid hcells
      have HZ := Lib.hid hzp
      have HNO := Lib.hid hnone
      clear hcells hzp hnone
      generalize hm : lp.length = m at *
      have HM := Lib.hid hm
      have hmc : m ≤ cx := by omega
      clear hm
      go_wp2
      go_loop [19] (fun i => ∃ q : Nat, q ≤ m ∧ i = .int .i64 (q : Int) ∧ x ∉ lp.take q) (fun i => m - (intOf i).toNat)
      case atStart => exact ⟨0, by omega, rfl, by simp⟩
      case round =>
        obtain ⟨q, hq, rfl, hnq⟩ := hrel
        by_cases hql : q < m
        · obtain ⟨y, hyy⟩ : ∃ y, lp[q]? = some y := ⟨lp[q]'(by rw [HM.out]; exact hql), by simp⟩
          obtain ⟨gb, ob2, rfl, _, _, hcy⟩ := HC.out q y hyy
          by_cases hyx : y = x
          · subst hyx
            have hup : upZ Z y = some (p : Int) := by
              unfold upZ
              rw [findIdx_here (k := p) (by rw [HN.out]; exact hlt) (by
                have := HZ.out
                rw [List.getElem?_eq_getElem (by rw [HN.out]; exact hlt)] at this
                rw [Option.some.inj this]
                simpa using List.mem_of_getElem? hyy) (fun j hj => by
                have hj2 : j < Z.length := by rw [HN.out]; omega
                simpa using HNO.out j Z[j] hj (by simp [hj2]))]
              rfl
            have HU := Lib.hid hup
            clear hup hyy hnq
            go_wp2
            go_ret2
            exact ⟨by rw [HU.out]; rfl, rfl⟩
          · have b1 : (y == x) = false := by simpa using hyx
            have hn2 : x ∉ lp.take (q + 1) := by rw [List.take_add_one, hyy]; simp; exact ⟨hnq, fun e => hyx e.symm⟩
            have HN2 := Lib.hid hn2
            clear hn2 hyy hnq hyx
            go_wp2
            go_round
            case rel => exact ⟨q + 1, by omega, by go_num, HN2.out⟩
            case measure => simp [intOf]; omega
        · obtain rfl : q = m := by omega
          rw [List.take_of_length_le (by rw [HM.out]; omega)] at hnq
          have hnn : ∀ q l, q < p + 1 → Z[q]? = some l → x ∉ l := fun q l hq hl => by
            rcases (by omega : q < p ∨ q = p) with h | h
            · exact HNO.out q l h hl
            · subst h
              rw [HZ.out] at hl
              rw [← Option.some.inj hl]; exact hnq
          have HNN := Lib.hid hnn
          clear hnn hnq
          go_wp2
          go_round
          case rel => exact ⟨p + 1, by omega, by go_num, HNN.out⟩
          case measure => simp [intOf]; omega
    · obtain rfl : p = n := by omega
      have hup : upZ Z x = none := by
        have hf : Z.findIdx? (fun l => decide (x ∈ l)) = none := by
          rw [List.findIdx?_eq_none_iff]
          intro l hl
          obtain ⟨j, hj, rfl⟩ := List.getElem_of_mem hl
          simpa using hnone j Z[j] (by rw [← HN.out]; exact hj) (by simp [hj])
        unfold upZ
        rw [hf]; rfl
      have HU := Lib.hid hup
      clear hup hnone
      go_wp2
      go_ret2
      exact ⟨by rw [HU.out]; rfl, rfl⟩
theorem zroot_any (w : World) (F : List Nat) (v : Value) (Z : List (List Int)) (x : Int) (h : FrAt w F v Z) :
    Calls Try.prog 48 #[v, .int .i64 x] w fun e w' => e = .returned (.bool (rootZ Z x)) ∧ w' = w := by
  have k1 := zhas_any w F v Z x h _ rfl
  have k2 := zup_any w F v Z x h
  obtain ⟨a, cap, rfl, h1, h2⟩ := h.shape
  unfold rootZ
  clear h
  generalize decide (0 ≤ x ∧ x < Z.length) = b at *
  generalize upZ Z x = o at *
  cases o with
  | none =>
    rw [show ov none = 0 from rfl, show ob none = false from rfl] at k2
    cases b
    all_goals
      go_enter Try.func48, Try.ntmps48
      go_wp2_with (first | (go_at_call 42; (with_reducible refine (k1).mono ?_); rintro e w9 ⟨rfl, hw9⟩; rw [hw9]; clear hw9 w9) | (go_at_call 19; (with_reducible refine (k2).mono ?_); rintro e w9 ⟨rfl, hw9⟩; rw [hw9]; clear hw9 w9))
      go_ret
      exact ⟨rfl, rfl⟩
  | some y =>
    rw [show ov (some y) = y from rfl, show ob (some y) = true from rfl] at k2
    cases b
    all_goals
      go_enter Try.func48, Try.ntmps48
      go_wp2_with (first | (go_at_call 42; (with_reducible refine (k1).mono ?_); rintro e w9 ⟨rfl, hw9⟩; rw [hw9]; clear hw9 w9) | (go_at_call 19; (with_reducible refine (k2).mono ?_); rintro e w9 ⟨rfl, hw9⟩; rw [hw9]; clear hw9 w9))
      go_ret
      exact ⟨rfl, rfl⟩
end Go.Proofs.Ytdgohhkgmfjhaaa
