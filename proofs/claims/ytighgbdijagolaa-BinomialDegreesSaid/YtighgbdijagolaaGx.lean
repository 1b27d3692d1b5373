/-
  The forests of package carry: a Link that is refused, adopt, Split. Conditions: those of each lemma.
-/
import Derived.Test.YtighgbdijagolaaGw
set_option linter.unusedVariables false
set_option linter.unusedSimpArgs false
namespace Go.Proofs.Ytighgbdijagolaa
open Go Go.RowKit

def linkOk (n : Nat) (S : CS) (a b : Int) : Bool := rootB n S a && (rootB n S b && (!(a == b) && degOf n S a == degOf n S b))

set_option maxHeartbeats 1000000 in
theorem link_no (bt ba lo n : Nat) (S : CS) (a b : Int) (w : World) (h : ForestAt w bt ba lo n S) (ho : linkOk n S a b = false) :
    Calls Try.prog 118 #[.pointer (some ⟨bt, 0, none⟩), .int .i64 a, .int .i64 b] w fun e w' => e = .returned (.bool false) ∧ w' = w := by
  have k1 := root_any bt ba lo n S a w h
  have k2 := root_any bt ba lo n S b w h
  have k3 := degree_any bt ba lo n S a w h
  have k4 := degree_any bt ba lo n S b w h
  clear h
  unfold linkOk at ho
  generalize rootB n S a = r1 at *
  generalize rootB n S b = r2 at *
  generalize degOf n S a = d1 at *
  generalize degOf n S b = d2 at *
  cases r1 with
  | false =>
    clear ho
    go_enter Try.func118, Try.ntmps118
    go_wp2_with ((go_at_call 115; (with_reducible refine (k1).mono ?_); rintro e w9 ⟨rfl, hw9⟩; rw [hw9]; clear hw9 w9))
    go_ret
    exact ⟨rfl, rfl⟩
  | true =>
    cases r2 with
    | false =>
      clear ho
      go_enter Try.func118, Try.ntmps118
      go_wp2_with (first | (go_at_call 115; (with_reducible refine (k1).mono ?_); rintro e w9 ⟨rfl, hw9⟩; rw [hw9]; clear hw9 w9) | (go_at_call 115; (with_reducible refine (k2).mono ?_); rintro e w9 ⟨rfl, hw9⟩; rw [hw9]; clear hw9 w9))
      go_ret
      exact ⟨rfl, rfl⟩
    | true =>
      by_cases hab : a = b
      · subst hab
        clear ho
        go_enter Try.func118, Try.ntmps118
        go_wp2_with (first | (go_at_call 115; (with_reducible refine (k1).mono ?_); rintro e w9 ⟨rfl, hw9⟩; rw [hw9]; clear hw9 w9) | (go_at_call 115; (with_reducible refine (k2).mono ?_); rintro e w9 ⟨rfl, hw9⟩; rw [hw9]; clear hw9 w9))
        go_ret
        exact ⟨rfl, rfl⟩
      · have b1 : (a == b) = false := by simpa using hab
        have b2 : (d1 != d2) = true := by simpa [b1, hab] using ho
        clear ho hab
        go_enter Try.func118, Try.ntmps118
        go_wp2_with (first | (go_at_call 115; (with_reducible refine (k1).mono ?_); rintro e w9 ⟨rfl, hw9⟩; rw [hw9]; clear hw9 w9) | (go_at_call 115; (with_reducible refine (k2).mono ?_); rintro e w9 ⟨rfl, hw9⟩; rw [hw9]; clear hw9 w9) | (go_at_call 57; (with_reducible refine (k3).mono ?_); rintro e w9 ⟨rfl, hw9⟩; rw [hw9]; clear hw9 w9) | (go_at_call 57; (with_reducible refine (k4).mono ?_); rintro e w9 ⟨rfl, hw9⟩; rw [hw9]; clear hw9 w9))
        go_ret
        exact ⟨rfl, rfl⟩

/-- The nodes of a forest, whatever they hold. -/
structure NodesAt (w : World) (bt ba n : Nat) (f : Nat → Value) : Prop where
  head : RowAt w bt 118 1 (fun _ => .slice (some ⟨ba, 0, none⟩) n n)
  row : RowAt w ba 120 (n * 2) f
  ne : bt ≠ ba
  le : n ≤ 65536
theorem ForestAt.nodes {w : World} {bt ba lo n : Nat} {S : CS} (h : ForestAt w bt ba lo n S) : NodesAt w bt ba n (nodeCell S) := ⟨h.head, h.row, h.ne, h.le⟩
theorem NodesAt.upd {w w' : World} {F : List Nat} {bt ba n : Nat} {f : Nat → Value} (h : NodesAt w bt ba n f) (hu : Upd F w w') (h1 : bt ∉ F) (h2 : ba ∉ F) : NodesAt w' bt ba n f := ⟨h.head.upd hu h1, h.row.upd hu h2, h.ne, h.le⟩
theorem NodesAt.set {w : World} {bt ba n : Nat} {f : Nat → Value} (h : NodesAt w bt ba n f) (j : Nat) (v : Value) : NodesAt (w.setCell ⟨ba, j, none⟩ v) bt ba n (fun i => if i = j then v else f i) :=
  ⟨h.head.far _ _ h.ne, h.row.set j v, h.ne, h.le⟩
theorem NodesAt.ext {w : World} {bt ba n : Nat} {f g : Nat → Value} (h : NodesAt w bt ba n f) (hg : ∀ j, j < n * 2 → f j = g j) : NodesAt w bt ba n g := ⟨h.head, h.row.ext hg, h.ne, h.le⟩
/-- What is above all of these is p. -/
def upsF (f : Nat → Value) (p : Int) (ks : List Int) (i : Nat) : Value := if i % 2 = 1 ∧ ((i / 2 : Nat) : Int) ∈ ks then .int .i64 p else f i
def putF (f : Nat → Value) (x : Nat) (v : Value) (i : Nat) : Value := if i = x then v else f i
theorem upsF_snoc (f : Nat → Value) (p : Int) (ks : List Int) (q y : Nat) (hk : ks[q]? = some (y : Int)) (i : Nat) : (if i = y * 2 + 1 then .int .i64 p else upsF f p (ks.take q) i) = upsF f p (ks.take (q + 1)) i := by
  unfold upsF
  rw [List.take_add_one, hk]
  by_cases h1 : i = y * 2 + 1
  · subst h1
    rw [if_pos rfl, if_pos ⟨by omega, by simp; exact Or.inr (by omega)⟩]
  · rw [if_neg h1]
    by_cases h2 : i % 2 = 1 ∧ ((i / 2 : Nat) : Int) ∈ ks.take q
    · rw [if_pos h2, if_pos ⟨h2.1, by simp only [List.mem_append]; exact Or.inl h2.2⟩]
    · rw [if_neg h2, if_neg (fun h => by
        obtain ⟨h3, h4⟩ := h
        rcases List.mem_append.1 h4 with h4 | h4
        · exact h2 ⟨h3, h4⟩
        · simp at h4; omega)]

set_option maxHeartbeats 1000000 in
theorem adopt_any (bt ba n lo x : Nat) (f : Nat → Value) (v : Value) (ks : List Int) (w : World) (h : NodesAt w bt ba n f) (hv : LstAt w lo v ks.length (intsZ ks)) (hx : x < n) (hlo : ba < lo) (hks : ∀ k, k ∈ ks → 0 ≤ k ∧ k < n) :
    Calls Try.prog 159 #[.pointer (some ⟨bt, 0, none⟩), .int .i64 (x : Int), v] w fun e w' => e = .returned (.tuple #[]) ∧ NodesAt w' bt ba n (upsF (putF f (x * 2) v) x ks) ∧ Upd [ba] w w' := by
  obtain ⟨a, cap, rfl, hcp, hlc, hp⟩ := hv.open
  have hle := h.le
  have hne := h.ne
  have c0 := h.head.cell 0 (by omega)
  have d0 := h.row.cell (x * 2) (by omega)
  have e0 := h.row.free (x * 2)
  have HN : NodesAt (w.setCell ⟨ba, x * 2, none⟩ (.slice a ks.length cap)) bt ba n (upsF (putF f (x * 2) (.slice a ks.length cap)) x (ks.take 0)) := by
    refine (h.set (x * 2) (.slice a ks.length cap)).ext (fun j hj => ?_)
    show putF f (x * 2) (.slice a ks.length cap) j = _
    unfold upsF
    rw [if_neg (by simp)]
  have hu0 : Upd [ba] w (w.setCell ⟨ba, x * 2, none⟩ (.slice a ks.length cap)) := (Upd.refl _ _).setCell (Or.inl (by simp)) _
  have HP := Lib.hid hp
  have HK := Lib.hid hks
  generalize putF f (x * 2) (.slice a ks.length cap) = g at *
  clear hp hv hks h
  generalize hlen : ks.length = len at *
  have HLEN := Lib.hid hlen
  clear hlen
  go_enter Try.func159, Try.ntmps159
  go_wp2
  go_loopw [18] (fun i wr => ∃ q : Nat, q ≤ len ∧ i = .int .i64 (q : Int) ∧ NodesAt wr bt ba n (upsF g x (ks.take q)) ∧ Upd [ba] w wr) (fun i _ => len - (intOf i).toNat)
  case atStart => exact ⟨0, by omega, rfl, HN, hu0⟩
  case round =>
    obtain ⟨q, hq, rfl, hN, hu⟩ := hrel
    by_cases hlt : q < len
    · obtain ⟨gb, rfl, hg1, hg2, hxx⟩ := HP.out (by omega)
      obtain ⟨y, hyy⟩ : ∃ y, ks[q]? = some y := ⟨ks[q]'(by rw [HLEN.out]; exact hlt), by simp⟩
      obtain ⟨hy0, hyn⟩ := HK.out y (List.mem_of_getElem? hyy)
      obtain ⟨Y, rfl⟩ := Int.eq_ofNat_of_zero_le hy0
      have hYn : Y < n := by omega
      have hc := hxx q (.int .i64 (Y : Int)) (by unfold intsZ; rw [List.getElem?_map, hyy]; rfl)
      have hc2 : wr.cell? ⟨gb, q, none⟩ = some (.int .i64 (Y : Int)) := by rw [hu.cell hg2 (by simp; omega)]; exact hc
      have c1 := hN.head.cell 0 (by omega)
      have d1 := hN.row.cell (Y * 2 + 1) (by omega)
      have e1 := hN.row.free (Y * 2 + 1)
      have hs := upsF_snoc g x ks q Y hyy
      have HS := Lib.hid hs
      have HNN := Lib.hid hN
      clear hs hyy hxx hc hN HN
      go_wp2
      go_roundw
      case rel => exact ⟨q + 1, by omega, by go_num, (HNN.out.set _ _).ext (fun j hj => HS.out j), hu.setCell (Or.inl (by simp)) _⟩
      case measure => simp [intOf]; omega
    · obtain rfl : q = len := by omega
      rw [List.take_of_length_le (by rw [HLEN.out]; omega)] at hN
      go_wp2
      go_end0
      exact ⟨rfl, hN, hu⟩
end Go.Proofs.Ytighgbdijagolaa

set_option linter.unusedVariables false
set_option linter.unusedSimpArgs false
namespace Go.Proofs.Ytighgbdijagolaa
open Go Go.RowKit

/-- A root's children come off. -/
def splitS (S : CS) (x : Nat) : CS := ⟨fun y => if y = x then .slice none 0 0 else S.v y, fun y => if y = x then [] else S.k y, fun y => if (y : Int) ∈ S.k x then -1 else S.u y⟩
theorem splitS_blk (S : CS) (x n g : Nat) (h : g ∈ (splitS S x).blk n) : g ∈ S.blk n := by
  obtain ⟨y, hy, he⟩ := (CS.mem_blk _ n g).1 h
  unfold splitS at he
  simp only at he
  split at he
  · cases he
  · exact (CS.mem_blk _ n g).2 ⟨y, hy, he⟩
theorem splitS_cell (S : CS) (x : Nat) (j : Nat) : upsF (putF (nodeCell S) (x * 2) (.slice none 0 0)) (-1) (S.k x) j = nodeCell (splitS S x) j := by
  unfold upsF putF nodeCell splitS
  simp only
  by_cases h : j % 2 = 0
  · rw [if_neg (by omega), if_pos h]
    by_cases h2 : j = x * 2
    · rw [if_pos h2, if_pos h, if_pos (by omega)]
    · rw [if_neg h2, if_pos h, if_neg (by omega)]
  · rw [if_neg h]
    by_cases h2 : ((j / 2 : Nat) : Int) ∈ S.k x
    · rw [if_pos ⟨by omega, h2⟩, if_neg h, if_pos h2]
    · rw [if_neg (fun h => h2 h.2), if_neg (by omega), if_neg h, if_neg h2]
theorem ForestAt.split {w w1 : World} {bt ba lo n : Nat} {S : CS} (h : ForestAt w bt ba lo n S) (x : Nat) (hx : x < n) (hN : NodesAt w1 bt ba n (nodeCell (splitS S x))) (hu : Upd [ba] w w1) : ForestAt w1 bt ba lo n (splitS S x) := by
  have h2 := h.lt2
  refine ⟨hN.head, hN.row, fun y hy => ?_, fun y z hy hz hyz g hg => ?_, h.ne, h.lt1, h.lt2, Nat.le_trans h.low hu.size, h.le, fun y hy => ?_⟩
  · unfold splitS
    simp only
    by_cases hyx : y = x
    · rw [if_pos hyx, if_pos hyx]; exact World.ownsRow_nil _ _ _ _
    · rw [if_neg hyx, if_neg hyx]
      exact owns_upd (h.own y hy) hu (fun k hk hm => by have := ((h.own y hy).lt k hk).1; simp at hm; omega)
  · unfold splitS at hg ⊢
    simp only at hg ⊢
    by_cases hyx : y = x
    · rw [if_pos hyx] at hg; cases hg
    · rw [if_neg hyx] at hg
      by_cases hzx : z = x
      · rw [if_pos hzx]; intro h; cases h
      · rw [if_neg hzx]; exact h.sep y z hy hz hyz g hg
  · unfold splitS
    simp only
    split
    · exact Nat.zero_le _
    · exact h.len y hy

set_option maxHeartbeats 1000000 in
theorem split_yes (bt ba lo n : Nat) (S : CS) (x : Nat) (w : World) (h : ForestAt w bt ba lo n S) (hx : x < n) (hr : rootB n S x = true) (hks : ∀ k, k ∈ S.k x → 0 ≤ k ∧ k < n) :
    Calls Try.prog 157 #[.pointer (some ⟨bt, 0, none⟩), .int .i64 (x : Int)] w fun e w' => ∃ v, e = .returned v ∧ LstAt w' w.heap.size v (S.k x).length (intsZ (S.k x)) ∧ ForestAt w' bt ba lo n (splitS S x) ∧ Upd [ba] w w' := by
  have hle := h.le
  have hne := h.ne
  have hl2 := h.lt2
  have hlow := h.low
  have hln := h.len x hx
  have k1 := root_any bt ba lo n S x w h
  rw [hr] at k1
  have c0 := h.head.cell 0 (by omega)
  have hL := LstAt.of_owns (h.own x hx)
  obtain ⟨a, cap, hv, hcp, hlc, hp⟩ := hL.open
  have d0 := h.row.cellAt (x * 2) (by omega) ((nodeCell0 S x).trans hv)
  have e0 := h.row.free (x * 2)
  have hu0 : Upd [ba] w (w.setCell ⟨ba, x * 2, none⟩ (.slice none 0 0)) := (Upd.refl _ _).setCell (Or.inl (by simp)) _
  have HN : NodesAt (w.setCell ⟨ba, x * 2, none⟩ (.slice none 0 0)) bt ba n (upsF (putF (nodeCell S) (x * 2) (.slice none 0 0)) (-1) ((S.k x).take 0)) := by
    refine (h.nodes.set (x * 2) (.slice none 0 0)).ext (fun j hj => ?_)
    show putF (nodeCell S) (x * 2) (.slice none 0 0) j = _
    unfold upsF
    rw [if_neg (by simp)]
  have HC := fun W (hW : Upd [ba] w W) => clone_any W lo (.slice a (S.k x).length cap) (S.k x) (by rw [hv] at hL; exact hL.upd hW (fun k hk => by simp at hk; omega)) (by omega)
  have HE := Lib.hid (splitS_cell S x)
  have H := Lib.hid h
  have HP := Lib.hid hp
  have HK := Lib.hid hks
  generalize putF (nodeCell S) (x * 2) (.slice none 0 0) = g at *
  clear h hr hks hp hL hv
  generalize S.k x = ks at *
  generalize hlen : ks.length = len at *
  have HLEN := Lib.hid hlen
  clear hlen
  go_enter Try.func157, Try.ntmps157
  go_wp2_with ((go_at_call 115; (with_reducible refine (k1).mono ?_); rintro e w9 ⟨rfl, hw9⟩; rw [hw9]; clear hw9 w9))
  go_loopw [29] (fun i wr => ∃ q : Nat, q ≤ len ∧ i = .int .i64 (q : Int) ∧ NodesAt wr bt ba n (upsF g (-1) (ks.take q)) ∧ Upd [ba] w wr) (fun i _ => len - (intOf i).toNat)
  case atStart => exact ⟨0, by omega, rfl, HN, hu0⟩
  case round =>
    obtain ⟨q, hq, rfl, hN, hu⟩ := hrel
    by_cases hlt : q < len
    · obtain ⟨gb, rfl, hg1, hg2, hxx⟩ := HP.out (by omega)
      obtain ⟨y, hyy⟩ : ∃ y, ks[q]? = some y := ⟨ks[q]'(by rw [HLEN.out]; exact hlt), by simp⟩
      obtain ⟨hy0, hyn⟩ := HK.out y (List.mem_of_getElem? hyy)
      obtain ⟨Y, rfl⟩ := Int.eq_ofNat_of_zero_le hy0
      have hYn : Y < n := by omega
      have hc := hxx q (.int .i64 (Y : Int)) (by unfold intsZ; rw [List.getElem?_map, hyy]; rfl)
      have hc2 : wr.cell? ⟨gb, q, none⟩ = some (.int .i64 (Y : Int)) := by rw [hu.cell hg2 (by simp; omega)]; exact hc
      have c1 := hN.head.cell 0 (by omega)
      have d1 := hN.row.cell (Y * 2 + 1) (by omega)
      have e1 := hN.row.free (Y * 2 + 1)
      have hs := upsF_snoc g (-1) ks q Y hyy
      have HS := Lib.hid hs
      have HNN := Lib.hid hN
      clear hs hyy hxx hc hN HN
      go_wp2
      go_roundw
      case rel => exact ⟨q + 1, by omega, by go_num, (HNN.out.set _ _).ext (fun j hj => HS.out j), hu.setCell (Or.inl (by simp)) _⟩
      case measure => simp [intOf]; omega
    · obtain rfl : q = len := by omega
      rw [List.take_of_length_le (by rw [HLEN.out]; omega)] at hN
      have kC := HC wr hu
      have hN2 := hN.ext (fun j hj => HE.out j)
      have hsz := hu.size
      clear HC hN HN
      go_wp2_with (go_at_call 160; (with_reducible refine (kC).mono ?_); rintro e w2 ⟨v2, rfl, h2, h3⟩)
      go_ret
      exact ⟨_, rfl, h2.mono hsz, H.out.split x hx (hN2.upd h3 (by simp) (by simp)) (hu.then h3), hu.then h3⟩
theorem split_no (bt ba lo n : Nat) (S : CS) (x : Int) (w : World) (h : ForestAt w bt ba lo n S) (hr : rootB n S x = false) :
    Calls Try.prog 157 #[.pointer (some ⟨bt, 0, none⟩), .int .i64 x] w fun e w' => e = .returned (.slice none 0 0) ∧ w' = w := by
  have k1 := root_any bt ba lo n S x w h
  rw [hr] at k1
  go_enter Try.func157, Try.ntmps157
  go_wp2_with ((go_at_call 115; (with_reducible refine (k1).mono ?_); rintro e w9 ⟨rfl, hw9⟩; rw [hw9]; clear hw9 w9))
  go_ret
  exact ⟨rfl, rfl⟩

/-- Where a number stands first in a list; -1: nowhere. -/
def idxOf (l : List Int) (x : Int) : Int := match l.findIdx? (fun y => y == x) with | some i => (i : Int) | none => -1
theorem idx_here (l : List Int) (x : Int) (k : Nat) (hn : x ∉ l.take k) (hk : l[k]? = some x) : idxOf l x = k := by
  have : l.findIdx? (fun y => y == x) = some k := by
    rw [List.findIdx?_eq_some_iff_getElem]
    obtain ⟨h1, h2⟩ := List.getElem?_eq_some_iff.1 hk
    refine ⟨h1, by simp [h2], fun j hj => ?_⟩
    simp only [beq_iff_eq]
    intro e
    exact hn (by rw [← e]; exact List.mem_take_iff_getElem.2 ⟨j, by omega, rfl⟩)
  unfold idxOf; rw [this]
theorem idx_none (l : List Int) (x : Int) (hn : x ∉ l) : idxOf l x = -1 := by
  have : l.findIdx? (fun y => y == x) = none := by
    rw [List.findIdx?_eq_none_iff]
    intro y hy
    simp only [beq_eq_false_iff_ne]
    intro e; subst e; exact hn hy
  unfold idxOf; rw [this]

set_option maxHeartbeats 1000000 in
theorem index_any (w : World) (lo : Nat) (v : Value) (l : List Int) (x : Int) (h : LstAt w lo v l.length (intsZ l)) :
    Calls Try.prog 117 #[v, .int .i64 x] w fun e w' => e = .returned (.int .i64 (idxOf l x)) ∧ w' = w := by
  obtain ⟨a, cap, rfl, hcp, hlc, hp⟩ := h.open
  have HP := Lib.hid hp
  clear hp h
  generalize hlen : l.length = len at *
  have HLEN := Lib.hid hlen
  clear hlen
  go_enter Try.func117, Try.ntmps117
  go_wp2
  go_loop [8] (fun i => ∃ q : Nat, q ≤ len ∧ i = .int .i64 (q : Int) ∧ x ∉ l.take q) (fun i => len - (intOf i).toNat)
  case atStart => exact ⟨0, by omega, rfl, by simp⟩
  case round =>
    obtain ⟨q, hq, rfl, hn⟩ := hrel
    by_cases hlt : q < len
    · obtain ⟨gb, rfl, hg1, hg2, hxx⟩ := HP.out (by omega)
      obtain ⟨y, hyy⟩ : ∃ y, l[q]? = some y := ⟨l[q]'(by rw [HLEN.out]; exact hlt), by simp⟩
      have hc := hxx q (.int .i64 y) (by unfold intsZ; rw [List.getElem?_map, hyy]; rfl)
      by_cases hxy : x = y
      · subst hxy
        have hi := idx_here l x q hn hyy
        have HI := Lib.hid hi
        clear hxx hn hyy hi
        go_wp2
        go_ret
        exact ⟨ret_int HI.out.symm, rfl⟩
      · have b1 : (x == y) = false := by simpa using hxy
        have hn2 : x ∉ l.take (q + 1) := by rw [List.take_add_one, hyy]; simp; exact ⟨hn, hxy⟩
        have HN2 := Lib.hid hn2
        clear hxx hn hyy hn2 hxy
        go_wp2
        go_round
        case rel => exact ⟨q + 1, by omega, by go_num, HN2.out⟩
        case measure => simp [intOf]; omega
    · obtain rfl : q = len := by omega
      rw [List.take_of_length_le (by rw [HLEN.out]; omega)] at hn
      have HI := Lib.hid (idx_none l x hn)
      clear hn
      go_wp2
      go_ret
      exact ⟨ret_int HI.out.symm, rfl⟩
end Go.Proofs.Ytighgbdijagolaa

set_option linter.unusedVariables false
set_option linter.unusedSimpArgs false
namespace Go.Proofs.Ytighgbdijagolaa
open Go Go.RowKit

/-- A list with one thing in the first place of another one. -/
def setAt (l : List Int) (x y : Int) : List Int := l.set (idxOf l x).toNat y
theorem setAt_len (l : List Int) (x y : Int) : (setAt l x y).length = l.length := by unfold setAt; simp
theorem idx_mem (l : List Int) (x : Int) (h : x ∈ l) : ∃ i : Nat, i < l.length ∧ idxOf l x = i ∧ l[i]? = some x := by
  cases hf : l.findIdx? (fun y => y == x) with
  | none =>
    rw [List.findIdx?_eq_none_iff] at hf
    have := hf x h
    simp at this
  | some i =>
    have h2 := hf
    rw [List.findIdx?_eq_some_iff_getElem] at h2
    obtain ⟨h3, h4, _⟩ := h2
    refine ⟨i, h3, by unfold idxOf; rw [hf], ?_⟩
    rw [List.getElem?_eq_getElem h3]
    simp at h4
    rw [h4]
def liftS (S : CS) (x p : Nat) (above : Int) : CS :=
  ⟨fun y => if y = x then S.v p else if y = p then S.v x else S.v y,
   fun y => if y = x then setAt (S.k p) x p else if y = p then S.k x else if (y : Int) = above then setAt (S.k y) p x else S.k y,
   fun y => if y = x then above else if (y : Int) ∈ S.k x then p else if (y : Int) ∈ setAt (S.k p) x p then x else S.u y⟩
def liftF (S : CS) (x p : Nat) (above : Int) : Nat → Value :=
  putF (upsF (putF (upsF (putF (nodeCell S) (x * 2) (S.v p)) x (setAt (S.k p) x p)) (p * 2) (S.v x)) p (S.k x)) (x * 2 + 1) (.int .i64 above)
theorem upsF_even (f : Nat → Value) (p : Int) (ks : List Int) (j : Nat) (h : j % 2 = 0) : upsF f p ks j = f j := by unfold upsF; rw [if_neg (by omega)]
theorem putF_ne (f : Nat → Value) (x : Nat) (v : Value) (j : Nat) (h : j ≠ x) : putF f x v j = f j := by unfold putF; rw [if_neg h]
theorem putF_eq (f : Nat → Value) (x : Nat) (v : Value) : putF f x v x = v := by unfold putF; rw [if_pos rfl]
theorem lift_cell (S : CS) (x p : Nat) (above : Int) (hxp : x ≠ p) (j : Nat) : liftF S x p above j = nodeCell (liftS S x p above) j := by
  unfold liftF
  by_cases h : j % 2 = 0
  · rw [putF_ne _ _ _ _ (show j ≠ x * 2 + 1 by omega), upsF_even _ _ _ _ h]
    unfold nodeCell liftS
    rw [if_pos h]
    simp only
    by_cases h3 : j / 2 = x
    · rw [putF_ne _ _ _ _ (show j ≠ p * 2 by omega), upsF_even _ _ _ _ h, show j = x * 2 by omega, putF_eq, if_pos (by omega)]
    · by_cases h4 : j / 2 = p
      · rw [show j = p * 2 by omega, putF_eq, if_neg (by omega), if_pos (by omega)]
      · rw [putF_ne _ _ _ _ (show j ≠ p * 2 by omega), upsF_even _ _ _ _ h, putF_ne _ _ _ _ (show j ≠ x * 2 by omega), if_pos h, if_neg h3, if_neg h4]
  · have h0 : j % 2 = 1 := by omega
    unfold nodeCell liftS putF upsF
    simp only [h0, true_and]
    by_cases h3 : j / 2 = x
    · rw [if_pos (by omega), if_neg (by omega), if_pos h3]
    · rw [if_neg (show ¬ j = x * 2 + 1 by omega), if_neg (show ¬ j = p * 2 by omega), if_neg (show ¬ j = x * 2 by omega)]
      rw [if_neg (show ¬ (1 = 0) by omega), if_neg (show ¬ (1 = 0) by omega), if_neg h3]
      by_cases h5 : ((j / 2 : Nat) : Int) ∈ S.k x
      · rw [if_pos h5, if_pos h5]
      · rw [if_neg h5, if_neg h5]
        by_cases h6 : ((j / 2 : Nat) : Int) ∈ setAt (S.k p) x p
        · rw [if_pos h6, if_pos h6]
        · rw [if_neg h6, if_neg h6]

theorem own_set1 {w : World} {base n cap g : Nat} {e : TypeId} {xs : List Value} (h : w.ownsRow base e 1 (.slice (some ⟨g, 0, none⟩) n cap) n xs) (j : Nat) (u : Value) :
    (w.setCell ⟨g, j, none⟩ u).ownsRow base e 1 (.slice (some ⟨g, 0, none⟩) n cap) n (xs.set j u) := (h.stored j u).1
theorem intsZ_set (l : List Int) (j : Nat) (y : Int) : intsZ (l.set j y) = (intsZ l).set j (.int .i64 y) := by unfold intsZ; rw [List.map_set]

set_option maxHeartbeats 400000 in
theorem lift_no (bt ba lo n : Nat) (S : CS) (x : Int) (w : World) (h : ForestAt w bt ba lo n S) (hu : upO n S x = none) :
    Calls Try.prog 154 #[.pointer (some ⟨bt, 0, none⟩), .int .i64 x] w fun e w' => e = .returned (.bool false) ∧ w' = w := by
  have k1 := up_any bt ba lo n S x w h
  rw [hu, show ov none = 0 from rfl, show ob none = false from rfl] at k1
  clear h
  go_enter Try.func154, Try.ntmps154
  go_wp2_with ((go_at_call 153; (with_reducible refine (k1).mono ?_); rintro e w9 ⟨rfl, hw9⟩; rw [hw9]; clear hw9 w9))
  go_ret
  exact ⟨rfl, rfl⟩

/-- What Lift asks of a forest: p is above x, and stands so; what is above p, too. -/
structure LiftOk (n : Nat) (S : CS) (x p : Nat) (above : Int) : Prop where
  hx : x < n
  hp : p < n
  ne : x ≠ p
  up : S.u x = p
  ab : S.u p = above
  mem : (x : Int) ∈ S.k p
  kx : ∀ k, k ∈ S.k x → 0 ≤ k ∧ k < n
  kp : ∀ k, k ∈ S.k p → 0 ≤ k ∧ k < n
  top : above = -1 ∨ ∃ q : Nat, above = q ∧ q < n ∧ q ≠ x ∧ q ≠ p ∧ (p : Int) ∈ S.k q

theorem ForestAt.lift {w w5 : World} {bt ba lo n : Nat} {S : CS} (h : ForestAt w bt ba lo n S) {x p : Nat} {above : Int} (ok : LiftOk n S x p above) (hN : NodesAt w5 bt ba n (nodeCell (liftS S x p above))) (hs : w.heap.size ≤ w5.heap.size)
    (ho : ∀ y, y < n → w5.ownsRow lo 3 1 ((liftS S x p above).v y) ((liftS S x p above).k y).length (intsZ ((liftS S x p above).k y))) : ForestAt w5 bt ba lo n (liftS S x p above) := by
  have hx := ok.hx
  have hp := ok.hp
  have hne := ok.ne
  refine ⟨hN.head, hN.row, ho, fun y z hy hz hyz g hg => ?_, h.ne, h.lt1, h.lt2, Nat.le_trans h.low hs, h.le, fun y hy => ?_⟩
  · unfold liftS at hg ⊢
    simp only at hg ⊢
    have key : ∀ a b, a < n → b < n → a ≠ b → (S.v a).ownBlock = some g → (S.v b).ownBlock ≠ some g := fun a b ha hb hab => h.sep a b ha hb hab g
    by_cases h1 : y = x
    · rw [if_pos h1] at hg
      rw [if_neg (fun e => hyz (by omega))]
      by_cases h2 : z = p
      · rw [if_pos h2]; exact key p x hp hx (Ne.symm hne) hg
      · rw [if_neg h2]; exact key p z hp hz (Ne.symm h2) hg
    · rw [if_neg h1] at hg
      by_cases h2 : y = p
      · rw [if_pos h2] at hg
        by_cases h3 : z = x
        · rw [if_pos h3]; exact key x p hx hp hne hg
        · rw [if_neg h3, if_neg (fun e => hyz (by omega))]; exact key x z hx hz (Ne.symm h3) hg
      · rw [if_neg h2] at hg
        by_cases h3 : z = x
        · rw [if_pos h3]; exact key y p hy hp h2 hg
        · rw [if_neg h3]
          by_cases h4 : z = p
          · rw [if_pos h4]; exact key y x hy hx h1 hg
          · rw [if_neg h4]; exact key y z hy hz hyz hg
  · unfold liftS
    simp only
    split
    · rw [setAt_len]; exact h.len p hp
    · split
      · exact h.len x hx
      · split
        · rw [setAt_len]; exact h.len y hy
        · exact h.len y hy

set_option maxRecDepth 100000 in
set_option maxHeartbeats 2000000 in
theorem lift_yes (bt ba lo n : Nat) (S : CS) (x p : Nat) (above : Int) (w : World) (h : ForestAt w bt ba lo n S) (ok : LiftOk n S x p above) :
    Calls Try.prog 154 #[.pointer (some ⟨bt, 0, none⟩), .int .i64 (x : Int)] w fun e w' => e = .returned (.bool true) ∧ ForestAt w' bt ba lo n (liftS S x p above) ∧ Upd (ba :: S.blk n) w w' := by
  have hx := ok.hx
  have hp := ok.hp
  have hle := h.le
  have hne := h.ne
  have hl1 := h.lt1
  have hl2 := h.lt2
  have k1 := up_any bt ba lo n S x w h
  have hup : upO n S x = some (p : Int) := by unfold upO; rw [if_pos (by omega), show ((x : Int)).toNat = x by omega, ok.up, if_neg (by omega)]
  rw [hup, show ov (some (p : Int)) = (p : Int) from rfl, show ob (some (p : Int)) = true from rfl] at k1
  obtain ⟨ax, cx, hvx, _⟩ := own_slice (h.own x hx)
  obtain ⟨i, hil, hidx, hi⟩ := idx_mem _ _ ok.mem
  obtain ⟨gp, cp, hvp, hg1, hg2, hgc, hgm, hgx, hgf⟩ := own_shape (h.own p hp) (by omega)
  have c0 := h.head.cell 0 (by omega)
  have d0 := h.row.cellAt (x * 2) (by omega) ((nodeCell0 S x).trans hvx)
  have d1 := h.row.cellAt (p * 2) (by omega) ((nodeCell0 S p).trans hvp)
  have d2 := h.row.cellAt (p * 2 + 1) (by omega) ((nodeCell1 S p).trans (by rw [ok.ab]))
  have hab : above ≠ -1 → (above != -1) = true := fun h => by simpa using h
  clear hup
  go_enter Try.func154, Try.ntmps154
  go_wp2_with ((go_at_call 153; (with_reducible refine (k1).mono ?_); rintro e w9 ⟨rfl, hw9⟩; rw [hw9]; clear hw9 w9))
  go_quiet (fail)
  have h0 : ForestAt (w.drewN nq) bt ba lo n S := h.upd0 ((Upd.refl _ _).drewN _)
  have hu0 : Upd (ba :: S.blk n) w (w.drewN nq) := (Upd.refl _ _).drewN _
  generalize w.drewN nq = W at *
  clear h c0 d0 d1 d2 hgx hgf k1 hg1 hg2
  have hop := h0.own p hp
  have hox := h0.own x hx
  rw [hvp] at hop
  have hgp := hop.lt gp rfl
  have kI := index_any W lo _ (S.k p) x (LstAt.of_owns hop)
  rw [hidx] at kI
  have ci : W.cell? ⟨gp, i, none⟩ = some (.int .i64 (x : Int)) := by rw [hop.cellAt i (by omega)]; unfold intsZ; rw [List.getElem?_map, hi]; rfl
  have fi := hop.frozenAt i
  have hset : (S.k p).set i p = setAt (S.k p) x p := by unfold setAt; rw [hidx]; rfl
  have own1 := own_set1 hop i (.int .i64 (p : Int))
  rw [← intsZ_set, hset] at own1
  have hu1 : Upd [gp] W (W.setCell ⟨gp, i, none⟩ (.int .i64 (p : Int))) := (Upd.refl _ _).setCell (Or.inl (by simp)) _
  have hN1 := h0.nodes.upd hu1 (by simp; omega) (by simp; omega)
  have hsl := setAt_len (S.k p) x p
  have kA1 := adopt_any bt ba n lo x (nodeCell S) _ (setAt (S.k p) x p) _ hN1 (by have := LstAt.of_owns own1; rw [hsl]; exact this) hx hl2 (fun k hk => by
    rw [← hset] at hk
    rcases List.mem_or_eq_of_mem_set hk with h | h
    · exact ok.kp k h
    · omega)
  have hxg : (S.v x).ownBlock ≠ some gp := h0.sep p x hp hx (Ne.symm ok.ne) gp (by rw [hvp]; rfl)
  have hox1 := owns_upd hox hu1 (fun k hk hm => by simp at hm; subst hm; exact hxg hk)
  have kA2 := fun w2 (hN2 : NodesAt w2 bt ba n (upsF (putF (nodeCell S) (x * 2) (.slice (some ⟨gp, 0, none⟩) (S.k p).length cp)) x (setAt (S.k p) x p))) (hu2 : Upd [ba] (W.setCell ⟨gp, i, none⟩ (.int .i64 (p : Int))) w2) =>
    adopt_any bt ba n lo p _ (S.v x) (S.k x) w2 hN2 (LstAt.of_owns (owns_upd hox1 hu2 (fun k hk hm => by have := (hox.lt k hk).1; simp at hm; omega))) hp hl2 ok.kx
  rw [hvx] at kA2
  have hmemb : ∀ y, y < n → ∀ g, (S.v y).ownBlock = some g → g ∈ S.blk n := fun y hy g hg => (S.mem_blk n g).2 ⟨y, hy, hg⟩
  have hgpb : gp ∈ S.blk n := hmemb p hp gp (by rw [hvp]; rfl)
  have hall : ∀ y, y < n → y ≠ p → (S.v y).ownBlock ≠ some gp := fun y hy hyp => h0.sep p y hp hy (Ne.symm hyp) gp (by rw [hvp]; rfl)
  have hun1 : ∀ y, y < n → y ≠ p → ∀ w4, Upd [ba] (W.setCell ⟨gp, i, none⟩ (.int .i64 (p : Int))) w4 → w4.ownsRow lo 3 1 (S.v y) (S.k y).length (intsZ (S.k y)) := fun y hy hyp w4 hw =>
    owns_upd (owns_upd (h0.own y hy) hu1 (fun k hk hm => by simp at hm; subst hm; exact hall y hy hyp hk)) hw (fun k hk hm => by have := ((h0.own y hy).lt k hk).1; simp at hm; omega)
  have hun2 : ∀ w4, Upd [ba] (W.setCell ⟨gp, i, none⟩ (.int .i64 (p : Int))) w4 → w4.ownsRow lo 3 1 (S.v p) (setAt (S.k p) x p).length (intsZ (setAt (S.k p) x p)) := fun w4 hw => by
    rw [hsl, hvp]
    exact owns_upd own1 hw (fun k hk hm => by simp [Value.ownBlock] at hk; simp at hm; omega)
  have HALL := Lib.hid hall
  have HUN1 := Lib.hid hun1
  have HUN2 := Lib.hid hun2
  have HM := Lib.hid hmemb
  have H0 := Lib.hid h0
  have OK := Lib.hid ok
  have HVX := Lib.hid hvx
  have HVP := Lib.hid hvp
  have HSET := Lib.hid hset
  have HSL := Lib.hid hsl
  have htop := ok.top
  clear hset hsl ok h0 hvx hvp hidx hi hall hun1 hun2 hmemb
  rcases htop with rfl | ⟨q, rfl, hq, hqx, hqp, hqm⟩
  · go_wp2_with (first
      | (go_at_call 117; (with_reducible refine (kI).mono ?_); rintro e w9 ⟨rfl, hw9⟩; rw [hw9]; clear hw9 w9)
      | ((go_at_call 159; (with_reducible refine (kA1).mono ?_)); rintro e w2 ⟨rfl, hN2, hu2⟩)
      | ((go_at_call 159; (with_reducible refine (kA2 _ hN2 hu2).mono ?_)); rintro e w3 ⟨rfl, hN3, hu3⟩; have c3 := hN3.head.cell 0 (by omega); have d3 := hN3.row.cell (x * 2 + 1) (by omega); have e3 := hN3.row.free (x * 2 + 1)))
    go_ret
    have hw4 := (hu2.trans hu3).setCell (p := ⟨ba, x * 2 + 1, none⟩) (Or.inl (by simp)) (.int .i64 (-1))
    have hN4 : NodesAt (w3.setCell ⟨ba, x * 2 + 1, none⟩ (.int .i64 (-1))) bt ba n (nodeCell (liftS S x p (-1))) := (hN3.set (x * 2 + 1) (.int .i64 (-1))).ext (fun j hj => by
      rw [← lift_cell S x p (-1) OK.out.ne j]
      unfold liftF
      rw [HVX.out, HVP.out]; rfl)
    refine ⟨rfl, H0.out.lift OK.out hN4 (Nat.le_trans hu1.size hw4.size) (fun y hy => ?_), (hu0.trans (hu1.mono (by simp; exact Or.inr hgpb))).trans (hw4.mono (by simp))⟩
    unfold liftS
    simp only
    by_cases hyx : y = x
    · rw [if_pos hyx, if_pos hyx]; exact HUN2.out _ hw4
    · rw [if_neg hyx, if_neg hyx]
      by_cases hyp : y = p
      · rw [if_pos hyp, if_pos hyp]; exact HUN1.out x hx OK.out.ne _ hw4
      · rw [if_neg hyp, if_neg hyp, if_neg (by omega)]; exact HUN1.out y hy hyp _ hw4
  · obtain ⟨j, hjl, hjdx, hj⟩ := idx_mem _ _ hqm
    have hoq := H0.out.own q hq
    obtain ⟨gq, cq, hvq, hq1, hq2, hqc, hqm2, hqx2, hqf⟩ := own_shape hoq (by omega)
    have b4 : ((q : Int) != -1) = true := by rw [bne_iff_ne]; omega
    have hoq4 := HUN1.out q hq hqp
    rw [hvq] at hoq4
    have kI2 := fun W4 h4 => index_any W4 lo _ (S.k q) p (LstAt.of_owns (hoq4 W4 h4))
    rw [hjdx] at kI2
    have HJ := Lib.hid hjdx
    have HJ2 := Lib.hid hj
    have HVQ := Lib.hid hvq
    have hz1 := nodeCell0 S q
    rw [hvq] at hz1
    have HZ := Lib.hid hz1
    clear hjdx hj hvq hz1 hoq hqx2 hqf hab
    go_wp2_with (first
      | (go_at_call 117; (with_reducible refine (kI).mono ?_); rintro e w9 ⟨rfl, hw9⟩; rw [hw9]; clear hw9 w9)
      | ((go_at_call 159; (with_reducible refine (kA1).mono ?_)); rintro e w2 ⟨rfl, hN2, hu2⟩)
      | ((go_at_call 159; (with_reducible refine (kA2 _ hN2 hu2).mono ?_)); rintro e w3 ⟨rfl, hN3, hu3⟩; have c3 := hN3.head.cell 0 (by omega); have d3 := hN3.row.cell (x * 2 + 1) (by omega); have e3 := hN3.row.free (x * 2 + 1); have hN4 := hN3.set (x * 2 + 1) (.int .i64 (q : Int)); have hw4 := (hu2.trans hu3).setCell (p := ⟨ba, x * 2 + 1, none⟩) (Or.inl (by simp)) (.int .i64 (q : Int)); have c4 := hN4.head.cell 0 (by omega); have d4 := hN4.row.cellAt (q * 2) (by omega) (v := .slice (some ⟨gq, 0, none⟩) (S.k q).length cq) (by
          rw [if_neg (by omega), upsF_even _ _ _ _ (by omega), putF_ne _ _ _ _ (by omega), upsF_even _ _ _ _ (by omega), putF_ne _ _ _ _ (by omega)]; exact HZ.out); have o4 := hoq4 _ hw4; have d5 := o4.cellAt j (by omega); have e5 := o4.frozenAt j; rw [show (intsZ (S.k q))[j]? = some (.int .i64 (p : Int)) by unfold intsZ; rw [List.getElem?_map, HJ2.out]; rfl] at d5; have kI3 := kI2 _ hw4; clear hoq4 kI2)
      | (go_at_call 117; (with_reducible refine (kI3).mono ?_); rintro e w9 ⟨rfl, hw9⟩; rw [hw9]; clear hw9 w9))
    go_ret
    have hN5 : NodesAt (w3.setCell ⟨ba, x * 2 + 1, none⟩ (.int .i64 (q : Int))) bt ba n (nodeCell (liftS S x p q)) := (hN3.set (x * 2 + 1) (.int .i64 (q : Int))).ext (fun j hj => by
      rw [← lift_cell S x p q OK.out.ne j]
      unfold liftF
      rw [HVX.out, HVP.out]; rfl)
    have hw5 : Upd [gq] (w3.setCell ⟨ba, x * 2 + 1, none⟩ (.int .i64 (q : Int))) ((w3.setCell ⟨ba, x * 2 + 1, none⟩ (.int .i64 (q : Int))).setCell ⟨gq, j, none⟩ (.int .i64 (x : Int))) := (Upd.refl _ _).setCell (Or.inl (by simp)) _
    have hgq : (S.v q).ownBlock = some gq := by rw [HVQ.out]; rfl
    have hqall : ∀ y, y < n → y ≠ q → ∀ k, (S.v y).ownBlock = some k → k ∉ [gq] := fun y hy hyq k hk hm => by
      simp at hm; subst hm
      exact H0.out.sep y q hy hq hyq k hk hgq
    refine ⟨rfl, H0.out.lift OK.out (hN5.upd hw5 (by simp; omega) (by simp; omega)) (Nat.le_trans (Nat.le_trans hu1.size hw4.size) hw5.size) (fun y hy => ?_), ((hu0.trans (hu1.mono (by simp; exact Or.inr hgpb))).trans (hw4.mono (by simp))).trans (hw5.mono (by simp; exact Or.inr (HM.out q hq gq hgq)))⟩
    unfold liftS
    simp only
    by_cases hyx : y = x
    · rw [if_pos hyx, if_pos hyx]; exact owns_upd (HUN2.out _ hw4) hw5 (hqall p hp (Ne.symm hqp))
    · rw [if_neg hyx, if_neg hyx]
      by_cases hyp : y = p
      · rw [if_pos hyp, if_pos hyp]; exact owns_upd (HUN1.out x hx OK.out.ne _ hw4) hw5 (hqall x hx (Ne.symm hqx))
      · rw [if_neg hyp, if_neg hyp]
        by_cases hyq : y = q
        · subst hyq
          rw [if_pos rfl, setAt_len, HVQ.out]
          have := own_set1 o4 j (.int .i64 (x : Int))
          rw [← intsZ_set] at this
          unfold setAt
          rw [HJ.out]
          exact this
        · rw [if_neg (by omega)]; exact owns_upd (HUN1.out y hy hyp _ hw4) hw5 (hqall y hy hyq)
end Go.Proofs.Ytighgbdijagolaa
