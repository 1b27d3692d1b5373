/-
  The forests of package carry: a Link that is refused, adopt, Split. Conditions: those of each lemma.
-/
import Derived.Test.YtdgohhkgmfjhaaaCarry3
set_option linter.unusedVariables false
set_option linter.unusedSimpArgs false
namespace Go.Proofs.Ytdgohhkgmfjhaaa
open Go Go.RowKit

def linkOk (n : Nat) (S : CS) (a b : Int) : Bool := rootB n S a && (rootB n S b && (!(a == b) && degOf n S a == degOf n S b))

set_option maxHeartbeats 1000000 in
theorem link_no (bt ba lo n : Nat) (S : CS) (a b : Int) (w : World) (h : ForestAt w bt ba lo n S) (ho : linkOk n S a b = false) :
    Calls Try.prog 44 #[.pointer (some ⟨bt, 0, none⟩), .int .i64 a, .int .i64 b] w fun e w' => e = .returned (.bool false) ∧ w' = w := by
  have k1 := root_any bt ba lo n S a w h
  have k2 := root_any bt ba lo n S b w h
  have k3 := degree_any bt ba lo n S a w h
  have k4 := degree_any bt ba lo n S b w h
  clear h
  unfold linkOk at ho
  generalize rootB n S a = r1 at *
  generalize rootB n S b = r2 at *
  generalize degOf n S a = d1 at *
  generalize degOf n S b = d2 at *
  cases r1 with
  | false =>
    clear ho
    go_enter Try.func44, Try.ntmps44
    go_wp2_with ((go_at_call 34; (with_reducible refine (k1).mono ?_); rintro e w9 ⟨rfl, hw9⟩; rw [hw9]; clear hw9 w9))
    go_ret
    exact ⟨rfl, rfl⟩
  | true =>
    cases r2 with
    | false =>
      clear ho
      go_enter Try.func44, Try.ntmps44
      go_wp2_with (first | (go_at_call 34; (with_reducible refine (k1).mono ?_); rintro e w9 ⟨rfl, hw9⟩; rw [hw9]; clear hw9 w9) | (go_at_call 34; (with_reducible refine (k2).mono ?_); rintro e w9 ⟨rfl, hw9⟩; rw [hw9]; clear hw9 w9))
      go_ret
      exact ⟨rfl, rfl⟩
    | true =>
      by_cases hab : a = b
      · subst hab
        clear ho
        go_enter Try.func44, Try.ntmps44
        go_wp2_with (first | (go_at_call 34; (with_reducible refine (k1).mono ?_); rintro e w9 ⟨rfl, hw9⟩; rw [hw9]; clear hw9 w9) | (go_at_call 34; (with_reducible refine (k2).mono ?_); rintro e w9 ⟨rfl, hw9⟩; rw [hw9]; clear hw9 w9))
        go_ret
        exact ⟨rfl, rfl⟩
      · have b1 : (a == b) = false := by simpa using hab
        have b2 : (d1 != d2) = true := by simpa [b1, hab] using ho
        clear ho hab
        go_enter Try.func44, Try.ntmps44
        go_wp2_with (first | (go_at_call 34; (with_reducible refine (k1).mono ?_); rintro e w9 ⟨rfl, hw9⟩; rw [hw9]; clear hw9 w9) | (go_at_call 34; (with_reducible refine (k2).mono ?_); rintro e w9 ⟨rfl, hw9⟩; rw [hw9]; clear hw9 w9) | (go_at_call 12; (with_reducible refine (k3).mono ?_); rintro e w9 ⟨rfl, hw9⟩; rw [hw9]; clear hw9 w9) | (go_at_call 12; (with_reducible refine (k4).mono ?_); rintro e w9 ⟨rfl, hw9⟩; rw [hw9]; clear hw9 w9))
        go_ret
        exact ⟨rfl, rfl⟩

/-- The nodes of a forest, whatever they hold. -/
structure NodesAt (w : World) (bt ba n : Nat) (f : Nat → Value) : Prop where
  head : RowAt w bt 69 1 (fun _ => .slice (some ⟨ba, 0, none⟩) n n)
  row : RowAt w ba 71 (n * 2) f
  ne : bt ≠ ba
  le : n ≤ 65536
theorem ForestAt.nodes {w : World} {bt ba lo n : Nat} {S : CS} (h : ForestAt w bt ba lo n S) : NodesAt w bt ba n (nodeCell S) := ⟨h.head, h.row, h.ne, h.le⟩
theorem NodesAt.upd {w w' : World} {F : List Nat} {bt ba n : Nat} {f : Nat → Value} (h : NodesAt w bt ba n f) (hu : Upd F w w') (h1 : bt ∉ F) (h2 : ba ∉ F) : NodesAt w' bt ba n f := ⟨h.head.upd hu h1, h.row.upd hu h2, h.ne, h.le⟩
theorem NodesAt.set {w : World} {bt ba n : Nat} {f : Nat → Value} (h : NodesAt w bt ba n f) (j : Nat) (v : Value) : NodesAt (w.setCell ⟨ba, j, none⟩ v) bt ba n (fun i => if i = j then v else f i) :=
  ⟨h.head.far _ _ h.ne, h.row.set j v, h.ne, h.le⟩
theorem NodesAt.ext {w : World} {bt ba n : Nat} {f g : Nat → Value} (h : NodesAt w bt ba n f) (hg : ∀ j, j < n * 2 → f j = g j) : NodesAt w bt ba n g := ⟨h.head, h.row.ext hg, h.ne, h.le⟩
/-- What is above all of these is p. -/
def upsF (f : Nat → Value) (p : Int) (ks : List Int) (i : Nat) : Value := if i % 2 = 1 ∧ ((i / 2 : Nat) : Int) ∈ ks then .int .i64 p else f i
def putF (f : Nat → Value) (x : Nat) (v : Value) (i : Nat) : Value := if i = x then v else f i
theorem upsF_snoc (f : Nat → Value) (p : Int) (ks : List Int) (q y : Nat) (hk : ks[q]? = some (y : Int)) (i : Nat) : (if i = y * 2 + 1 then .int .i64 p else upsF f p (ks.take q) i) = upsF f p (ks.take (q + 1)) i := by
  unfold upsF
  rw [List.take_add_one, hk]
  by_cases h1 : i = y * 2 + 1
  · subst h1
    rw [if_pos rfl, if_pos ⟨by omega, by simp; exact Or.inr (by omega)⟩]
  · rw [if_neg h1]
    by_cases h2 : i % 2 = 1 ∧ ((i / 2 : Nat) : Int) ∈ ks.take q
    · rw [if_pos h2, if_pos ⟨h2.1, by simp only [List.mem_append]; exact Or.inl h2.2⟩]
    · rw [if_neg h2, if_neg (fun h => by
        obtain ⟨h3, h4⟩ := h
        rcases List.mem_append.1 h4 with h4 | h4
        · exact h2 ⟨h3, h4⟩
        · simp at h4; omega)]

set_option maxHeartbeats 1000000 in
theorem adopt_any (bt ba n lo x : Nat) (f : Nat → Value) (v : Value) (ks : List Int) (w : World) (h : NodesAt w bt ba n f) (hv : LstAt w lo v ks.length (intsZ ks)) (hx : x < n) (hlo : ba < lo) (hks : ∀ k, k ∈ ks → 0 ≤ k ∧ k < n) :
    Calls Try.prog 41 #[.pointer (some ⟨bt, 0, none⟩), .int .i64 (x : Int), v] w fun e w' => e = .returned (.tuple #[]) ∧ NodesAt w' bt ba n (upsF (putF f (x * 2) v) x ks) ∧ Upd [ba] w w' := by
  obtain ⟨a, cap, rfl, hcp, hlc, hp⟩ := hv.open
  have hle := h.le
  have hne := h.ne
  have c0 := h.head.cell 0 (by omega)
  have d0 := h.row.cell (x * 2) (by omega)
  have e0 := h.row.free (x * 2)
  have HN : NodesAt (w.setCell ⟨ba, x * 2, none⟩ (.slice a ks.length cap)) bt ba n (upsF (putF f (x * 2) (.slice a ks.length cap)) x (ks.take 0)) := by
    refine (h.set (x * 2) (.slice a ks.length cap)).ext (fun j hj => ?_)
    show putF f (x * 2) (.slice a ks.length cap) j = _
    unfold upsF
    rw [if_neg (by simp)]
  have hu0 : Upd [ba] w (w.setCell ⟨ba, x * 2, none⟩ (.slice a ks.length cap)) := (Upd.refl _ _).setCell (Or.inl (by simp)) _
  have HP := Lib.hid hp
  have HK := Lib.hid hks
  generalize putF f (x * 2) (.slice a ks.length cap) = g at *
  clear hp hv hks h
  generalize hlen : ks.length = len at *
  have HLEN := Lib.hid hlen
  clear hlen
  go_enter Try.func41, Try.ntmps41
  go_wp2
  go_loopw [18] (fun i wr => ∃ q : Nat, q ≤ len ∧ i = .int .i64 (q : Int) ∧ NodesAt wr bt ba n (upsF g x (ks.take q)) ∧ Upd [ba] w wr) (fun i _ => len - (intOf i).toNat)
  case atStart => exact ⟨0, by omega, rfl, HN, hu0⟩
  case round =>
    obtain ⟨q, hq, rfl, hN, hu⟩ := hrel
    by_cases hlt : q < len
    · obtain ⟨gb, rfl, hg1, hg2, hxx⟩ := HP.out (by omega)
      obtain ⟨y, hyy⟩ : ∃ y, ks[q]? = some y := ⟨ks[q]'(by rw [HLEN.out]; exact hlt), by simp⟩
      obtain ⟨hy0, hyn⟩ := HK.out y (List.mem_of_getElem? hyy)
      obtain ⟨Y, rfl⟩ := Int.eq_ofNat_of_zero_le hy0
      have hYn : Y < n := by omega
      have hc := hxx q (.int .i64 (Y : Int)) (by unfold intsZ; rw [List.getElem?_map, hyy]; rfl)
      have hc2 : wr.cell? ⟨gb, q, none⟩ = some (.int .i64 (Y : Int)) := by rw [hu.cell hg2 (by simp; omega)]; exact hc
      have c1 := hN.head.cell 0 (by omega)
      have d1 := hN.row.cell (Y * 2 + 1) (by omega)
      have e1 := hN.row.free (Y * 2 + 1)
      have hs := upsF_snoc g x ks q Y hyy
      have HS := Lib.hid hs
      have HNN := Lib.hid hN
      clear hs hyy hxx hc hN HN
      go_wp2
      go_roundw
      case rel => exact ⟨q + 1, by omega, by go_num, (HNN.out.set _ _).ext (fun j hj => HS.out j), hu.setCell (Or.inl (by simp)) _⟩
      case measure => simp [intOf]; omega
    · obtain rfl : q = len := by omega
      rw [List.take_of_length_le (by rw [HLEN.out]; omega)] at hN
      go_wp2
      go_end0
      exact ⟨rfl, hN, hu⟩
end Go.Proofs.Ytdgohhkgmfjhaaa
