/-
  The forests of package carry: Split; where a number stands in a list. Conditions: those of each lemma.
-/
import Derived.Test.YtdgohhkgmfjhaaaCarry4
set_option linter.unusedVariables false
set_option linter.unusedSimpArgs false
namespace Go.Proofs.Ytdgohhkgmfjhaaa
open Go Go.RowKit

/-- A root's children come off. -/
def splitS (S : CS) (x : Nat) : CS := ⟨fun y => if y = x then .slice none 0 0 else S.v y, fun y => if y = x then [] else S.k y, fun y => if (y : Int) ∈ S.k x then -1 else S.u y⟩
theorem splitS_blk (S : CS) (x n g : Nat) (h : g ∈ (splitS S x).blk n) : g ∈ S.blk n := by
  obtain ⟨y, hy, he⟩ := (CS.mem_blk _ n g).1 h
  unfold splitS at he
  simp only at he
  split at he
  · cases he
  · exact (CS.mem_blk _ n g).2 ⟨y, hy, he⟩
theorem splitS_cell (S : CS) (x : Nat) (j : Nat) : upsF (putF (nodeCell S) (x * 2) (.slice none 0 0)) (-1) (S.k x) j = nodeCell (splitS S x) j := by
  unfold upsF putF nodeCell splitS
  simp only
  by_cases h : j % 2 = 0
  · rw [if_neg (by omega), if_pos h]
    by_cases h2 : j = x * 2
    · rw [if_pos h2, if_pos h, if_pos (by omega)]
    · rw [if_neg h2, if_pos h, if_neg (by omega)]
  · rw [if_neg h]
    by_cases h2 : ((j / 2 : Nat) : Int) ∈ S.k x
    · rw [if_pos ⟨by omega, h2⟩, if_neg h, if_pos h2]
    · rw [if_neg (fun h => h2 h.2), if_neg (by omega), if_neg h, if_neg h2]
theorem ForestAt.split {w w1 : World} {bt ba lo n : Nat} {S : CS} (h : ForestAt w bt ba lo n S) (x : Nat) (hx : x < n) (hN : NodesAt w1 bt ba n (nodeCell (splitS S x))) (hu : Upd [ba] w w1) : ForestAt w1 bt ba lo n (splitS S x) := by
  have h2 := h.lt2
  refine ⟨hN.head, hN.row, fun y hy => ?_, fun y z hy hz hyz g hg => ?_, h.ne, h.lt1, h.lt2, Nat.le_trans h.low hu.size, h.le, fun y hy => ?_⟩
  · unfold splitS
    simp only
    by_cases hyx : y = x
    · rw [if_pos hyx, if_pos hyx]; exact World.ownsRow_nil _ _ _ _
    · rw [if_neg hyx, if_neg hyx]
      exact owns_upd (h.own y hy) hu (fun k hk hm => by have := ((h.own y hy).lt k hk).1; simp at hm; omega)
  · unfold splitS at hg ⊢
    simp only at hg ⊢
    by_cases hyx : y = x
    · rw [if_pos hyx] at hg; cases hg
    · rw [if_neg hyx] at hg
      by_cases hzx : z = x
      · rw [if_pos hzx]; intro h; cases h
      · rw [if_neg hzx]; exact h.sep y z hy hz hyz g hg
  · unfold splitS
    simp only
    split
    · exact Nat.zero_le _
    · exact h.len y hy

set_option maxHeartbeats 1000000 in
theorem split_yes (bt ba lo n : Nat) (S : CS) (x : Nat) (w : World) (h : ForestAt w bt ba lo n S) (hx : x < n) (hr : rootB n S x = true) (hks : ∀ k, k ∈ S.k x → 0 ≤ k ∧ k < n) :
    Calls Try.prog 46 #[.pointer (some ⟨bt, 0, none⟩), .int .i64 (x : Int)] w fun e w' => ∃ v, e = .returned v ∧ LstAt w' w.heap.size v (S.k x).length (intsZ (S.k x)) ∧ ForestAt w' bt ba lo n (splitS S x) ∧ Upd [ba] w w' := by
  have hle := h.le
  have hne := h.ne
  have hl2 := h.lt2
  have hlow := h.low
  have hln := h.len x hx
  have k1 := root_any bt ba lo n S x w h
  rw [hr] at k1
  have c0 := h.head.cell 0 (by omega)
  have hL := LstAt.of_owns (h.own x hx)
  obtain ⟨a, cap, hv, hcp, hlc, hp⟩ := hL.open
  have d0 := h.row.cellAt (x * 2) (by omega) ((nodeCell0 S x).trans hv)
  have e0 := h.row.free (x * 2)
  have hu0 : Upd [ba] w (w.setCell ⟨ba, x * 2, none⟩ (.slice none 0 0)) := (Upd.refl _ _).setCell (Or.inl (by simp)) _
  have HN : NodesAt (w.setCell ⟨ba, x * 2, none⟩ (.slice none 0 0)) bt ba n (upsF (putF (nodeCell S) (x * 2) (.slice none 0 0)) (-1) ((S.k x).take 0)) := by
    refine (h.nodes.set (x * 2) (.slice none 0 0)).ext (fun j hj => ?_)
    show putF (nodeCell S) (x * 2) (.slice none 0 0) j = _
    unfold upsF
    rw [if_neg (by simp)]
  have HC := fun W (hW : Upd [ba] w W) => clone_any W lo (.slice a (S.k x).length cap) (S.k x) (by rw [hv] at hL; exact hL.upd hW (fun k hk => by simp at hk; omega)) (by omega)
  have HE := Lib.hid (splitS_cell S x)
  have H := Lib.hid h
  have HP := Lib.hid hp
  have HK := Lib.hid hks
  generalize putF (nodeCell S) (x * 2) (.slice none 0 0) = g at *
  clear h hr hks hp hL hv
  generalize S.k x = ks at *
  generalize hlen : ks.length = len at *
  have HLEN := Lib.hid hlen
  clear hlen
  go_enter Try.func46, Try.ntmps46
  go_wp2_with ((go_at_call 34; (with_reducible refine (k1).mono ?_); rintro e w9 ⟨rfl, hw9⟩; rw [hw9]; clear hw9 w9))
  go_loopw [29] (fun i wr => ∃ q : Nat, q ≤ len ∧ i = .int .i64 (q : Int) ∧ NodesAt wr bt ba n (upsF g (-1) (ks.take q)) ∧ Upd [ba] w wr) (fun i _ => len - (intOf i).toNat)
  case atStart => exact ⟨0, by omega, rfl, HN, hu0⟩
  case round =>
    obtain ⟨q, hq, rfl, hN, hu⟩ := hrel
    by_cases hlt : q < len
    · obtain ⟨gb, rfl, hg1, hg2, hxx⟩ := HP.out (by omega)
      obtain ⟨y, hyy⟩ : ∃ y, ks[q]? = some y := ⟨ks[q]'(by rw [HLEN.out]; exact hlt), by simp⟩
      obtain ⟨hy0, hyn⟩ := HK.out y (List.mem_of_getElem? hyy)
      obtain ⟨Y, rfl⟩ := Int.eq_ofNat_of_zero_le hy0
      have hYn : Y < n := by omega
      have hc := hxx q (.int .i64 (Y : Int)) (by unfold intsZ; rw [List.getElem?_map, hyy]; rfl)
      have hc2 : wr.cell? ⟨gb, q, none⟩ = some (.int .i64 (Y : Int)) := by rw [hu.cell hg2 (by simp; omega)]; exact hc
      have c1 := hN.head.cell 0 (by omega)
      have d1 := hN.row.cell (Y * 2 + 1) (by omega)
      have e1 := hN.row.free (Y * 2 + 1)
      have hs := upsF_snoc g (-1) ks q Y hyy
      have HS := Lib.hid hs
      have HNN := Lib.hid hN
      clear hs hyy hxx hc hN HN
      go_wp2
      go_roundw
      case rel => exact ⟨q + 1, by omega, by go_num, (HNN.out.set _ _).ext (fun j hj => HS.out j), hu.setCell (Or.inl (by simp)) _⟩
      case measure => simp [intOf]; omega
    · obtain rfl : q = len := by omega
      rw [List.take_of_length_le (by rw [HLEN.out]; omega)] at hN
      have kC := HC wr hu
      have hN2 := hN.ext (fun j hj => HE.out j)
      have hsz := hu.size
      clear HC hN HN
      go_wp2_with (go_at_call 33; (with_reducible refine (kC).mono ?_); rintro e w2 ⟨v2, rfl, h2, h3⟩)
      go_ret
      exact ⟨_, rfl, h2.mono hsz, H.out.split x hx (hN2.upd h3 (by simp) (by simp)) (hu.then h3), hu.then h3⟩
theorem split_no (bt ba lo n : Nat) (S : CS) (x : Int) (w : World) (h : ForestAt w bt ba lo n S) (hr : rootB n S x = false) :
    Calls Try.prog 46 #[.pointer (some ⟨bt, 0, none⟩), .int .i64 x] w fun e w' => e = .returned (.slice none 0 0) ∧ w' = w := by
  have k1 := root_any bt ba lo n S x w h
  rw [hr] at k1
  go_enter Try.func46, Try.ntmps46
  go_wp2_with ((go_at_call 34; (with_reducible refine (k1).mono ?_); rintro e w9 ⟨rfl, hw9⟩; rw [hw9]; clear hw9 w9))
  go_ret
  exact ⟨rfl, rfl⟩

/-- Where a number stands first in a list; -1: nowhere. -/
def idxOf (l : List Int) (x : Int) : Int := match l.findIdx? (fun y => y == x) with | some i => (i : Int) | none => -1
theorem idx_here (l : List Int) (x : Int) (k : Nat) (hn : x ∉ l.take k) (hk : l[k]? = some x) : idxOf l x = k := by
  have : l.findIdx? (fun y => y == x) = some k := by
    rw [List.findIdx?_eq_some_iff_getElem]
    obtain ⟨h1, h2⟩ := List.getElem?_eq_some_iff.1 hk
    refine ⟨h1, by simp [h2], fun j hj => ?_⟩
    simp only [beq_iff_eq]
    intro e
    exact hn (by rw [← e]; exact List.mem_take_iff_getElem.2 ⟨j, by omega, rfl⟩)
  unfold idxOf; rw [this]
theorem idx_none (l : List Int) (x : Int) (hn : x ∉ l) : idxOf l x = -1 := by
  have : l.findIdx? (fun y => y == x) = none := by
    rw [List.findIdx?_eq_none_iff]
    intro y hy
    simp only [beq_eq_false_iff_ne]
    intro e; subst e; exact hn hy
  unfold idxOf; rw [this]

set_option maxHeartbeats 1000000 in
theorem index_any (w : World) (lo : Nat) (v : Value) (l : List Int) (x : Int) (h : LstAt w lo v l.length (intsZ l)) :
    Calls Try.prog 40 #[v, .int .i64 x] w fun e w' => e = .returned (.int .i64 (idxOf l x)) ∧ w' = w := by
  obtain ⟨a, cap, rfl, hcp, hlc, hp⟩ := h.open
  have HP := Lib.hid hp
  clear hp h
  generalize hlen : l.length = len at *
  have HLEN := Lib.hid hlen
  clear hlen
  go_enter Try.func40, Try.ntmps40
  go_wp2
  go_loop [8] (fun i => ∃ q : Nat, q ≤ len ∧ i = .int .i64 (q : Int) ∧ x ∉ l.take q) (fun i => len - (intOf i).toNat)
  case atStart => exact ⟨0, by omega, rfl, by simp⟩
  case round =>
    obtain ⟨q, hq, rfl, hn⟩ := hrel
    by_cases hlt : q < len
    · obtain ⟨gb, rfl, hg1, hg2, hxx⟩ := HP.out (by omega)
      obtain ⟨y, hyy⟩ : ∃ y, l[q]? = some y := ⟨l[q]'(by rw [HLEN.out]; exact hlt), by simp⟩
      have hc := hxx q (.int .i64 y) (by unfold intsZ; rw [List.getElem?_map, hyy]; rfl)
      by_cases hxy : x = y
      · subst hxy
        have hi := idx_here l x q hn hyy
        have HI := Lib.hid hi
        clear hxx hn hyy hi
        go_wp2
        go_ret
        exact ⟨ret_int HI.out.symm, rfl⟩
      · have b1 : (x == y) = false := by simpa using hxy
        have hn2 : x ∉ l.take (q + 1) := by rw [List.take_add_one, hyy]; simp; exact ⟨hn, hxy⟩
        have HN2 := Lib.hid hn2
        clear hxx hn hyy hn2 hxy
        go_wp2
        go_round
        case rel => exact ⟨q + 1, by omega, by go_num, HN2.out⟩
        case measure => simp [intOf]; omega
    · obtain rfl : q = len := by omega
      rw [List.take_of_length_le (by rw [HLEN.out]; omega)] at hn
      have HI := Lib.hid (idx_none l x hn)
      clear hn
      go_wp2
      go_ret
      exact ⟨ret_int HI.out.symm, rfl⟩
end Go.Proofs.Ytdgohhkgmfjhaaa
