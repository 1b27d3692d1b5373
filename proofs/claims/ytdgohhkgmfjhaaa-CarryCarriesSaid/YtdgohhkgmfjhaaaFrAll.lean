/-
  The document's All in memory, and how long it is in a cube. Conditions: those of each lemma.
-/
import Derived.Test.YtdgohhkgmfjhaaaFr5
set_option linter.unusedVariables false
set_option linter.unusedSimpArgs false
namespace Go.Proofs.Ytdgohhkgmfjhaaa
open Go Go.RowKit

/-- A thing and all below it, so many levels. -/
def allZ (Z : List (List Int)) : Nat → Int → List Int
  | 0, _ => []
  | lev + 1, x => if 0 ≤ x ∧ x < Z.length then x :: (kidsZ Z x).flatMap (allZ Z lev) else []
theorem sum_pow (d : Nat) : ((List.range d).map (2 ^ ·)).sum + 1 = 2 ^ d := by
  induction d with
  | zero => rfl
  | succ d ih =>
    rw [List.range_succ, List.map_append, List.sum_append, Nat.pow_succ]
    simp only [List.map_cons, List.map_nil, List.sum_cons, List.sum_nil]
    omega
theorem all_len {Z : List (List Int)} (hc : CubeZ Z) : ∀ (lev : Nat) (x : Nat) (hx : x < Z.length), (Z[x]).length < lev → (allZ Z lev x).length = 2 ^ (Z[x]).length
  | 0, x, hx, h => by omega
  | lev + 1, x, hx, h => by
    rw [allZ, if_pos (by omega), kidsZ_at hx, List.length_cons, List.length_flatMap, ← sum_pow]
    congr 2
    have hzx : Z[x]? = some Z[x] := by simp [hx]
    apply List.ext_getElem (by simp)
    intro i h1 h2
    rw [List.getElem_map, List.getElem_map, List.getElem_range]
    have hi : i < (Z[x]).length := by simpa using h1
    obtain ⟨y, hy, e, hl⟩ := hc x Z[x] hzx i (Z[x])[i] (by simp [hi])
    rw [e, all_len hc lev y hy (by omega), hl]

set_option maxHeartbeats 2000000 in
theorem zall_step (F : List Nat) (v : Value) (Z : List (List Int)) (lev : Nat) (hl : lev ≤ 100000) (x : Nat) (w : World) (h : FrAt w F v Z) (hx : x < Z.length) (hb : ∀ q, q ≤ (Z[x]).length → (((Z[x]).take q).flatMap (allZ Z lev)).length ≤ 100000)
    (ih : ∀ (y : Int) (W : World), y ∈ Z[x] → Upd [] w W → Calls Try.prog 21 #[v, .int .i64 y, .int .i64 (lev : Int)] W fun e w' => ∃ v', e = .returned v' ∧ LstAt w' W.heap.size v' (allZ Z lev y).length (intsZ (allZ Z lev y)) ∧ Upd [] W w') :
    Calls Try.prog 21 #[v, .int .i64 (x : Int), .int .i64 ((lev : Int) + 1)] w fun e w' => ∃ v', e = .returned v' ∧ LstAt w' w.heap.size v' (allZ Z (lev + 1) x).length (intsZ (allZ Z (lev + 1) x)) ∧ Upd [] w w' := by
  have kH := zhas_any w F v Z x h true (by simp; omega)
  have hall : allZ Z (lev + 1) x = (x : Int) :: (Z[x]).flatMap (allZ Z lev) := by rw [allZ, if_pos (by omega), kidsZ_at hx]
  obtain ⟨a, cap, rfl, h1, h2⟩ := h.shape
  obtain ⟨g, off, ax, cx, rfl, hg, hcx, hcc, hsx⟩ := h.at x hx
  obtain ⟨_, _, he, hle, _, hcells⟩ := hsx
  cases he
  have HC := Lib.hid hcells
  have HI := Lib.hid ih
  have HB := Lib.hid hb
  have HALL := Lib.hid hall
  clear hcells ih h hb hall
  generalize hlx : Z[x] = lx at *
  clear hlx
  generalize hm : lx.length = m at *
  have HM := Lib.hid hm
  clear hm
  have hO := fun W : World => own_lit W [.int .i64 (x : Int)] 3 W.heap.size 1 1 rfl (Nat.le_refl _) (by unfold maxLen; omega)
  go_enter Try.func21, Try.ntmps21
  go_wp2_with ((go_at_call 42; (with_reducible refine (kH).mono ?_); rintro e w9 ⟨rfl, hw9⟩; rw [hw9]; clear hw9 w9))
  have hO0 := own_lit w [.int .i64 (x : Int)] 3 w.heap.size 1 1 rfl (Nat.le_refl _) (by unfold maxLen; omega)
  have hu0 : Upd [] w (w.alloc (.cells #[.int .i64 (x : Int)] 3)) := (Upd.refl _ _).alloc _
  clear hO
  go_loopw [7, 25] (fun s7 s25 wr => ∃ q : Nat, q ≤ m ∧ s25 = .int .i64 (q : Int) ∧ wr.ownsRow w.heap.size 3 1 s7 ((x : Int) :: (lx.take q).flatMap (allZ Z lev)).length (intsZ ((x : Int) :: (lx.take q).flatMap (allZ Z lev))) ∧ Upd [] w wr) (fun _ s25 _ => m - (intOf s25).toNat)
  case atStart => exact ⟨0, by omega, rfl, by simpa [intsZ] using hO0, hu0⟩
  case round =>
    obtain ⟨q, hq, rfl, ho, hu⟩ := hrel
    clear hO0 hu0
    by_cases hqm : q < m
    · obtain ⟨y, hy⟩ : ∃ y, lx[q]? = some y := ⟨lx[q]'(by rw [HM.out]; exact hqm), by simp⟩
      obtain ⟨gb, ob2, rfl, hgb, _, hcy⟩ := HC.out q y hy
      have hcy2 : wr.cell? ⟨gb, ob2 + q, none⟩ = some (.int .i64 y) := hu.was hcy
      have k1 := HI.out y wr (List.mem_of_getElem? hy) hu
      have hsn : (x : Int) :: (lx.take (q + 1)).flatMap (allZ Z lev) = ((x : Int) :: (lx.take q).flatMap (allZ Z lev)) ++ allZ Z lev y := by
        rw [List.take_add_one, hy]; simp
      have hbl := HB.out (q + 1) (by omega)
      have hb1 : ((x : Int) :: (lx.take q).flatMap (allZ Z lev)).length + (allZ Z lev y).length ≤ 100001 := by
        have := congrArg List.length hsn
        rw [List.length_append] at this
        rw [← this]
        simpa using hbl
      have HSN := Lib.hid hsn
      have hwsz := hu.size
      clear hy hcy hsn hbl
      generalize ((x : Int) :: (lx.take q).flatMap (allZ Z lev)) = cur at *
      generalize allZ Z lev y = new at *
      obtain ⟨a7, c7, rfl, _⟩ := own_slice ho
      go_wp2_with (first
        | ((go_at_call 21; (with_reducible refine (k1).mono ?_)); rintro e w2 ⟨v2, rfl, hl2, hu2⟩; have hs2 := SlI.of_lst (F := []) hl2 (by simp); obtain ⟨a2, c2, rfl, _⟩ := hs2.shape'; have ho2 := owns_upd ho hu2 (by simp))
        | (at_builtin; refine wpList_append_sli rfl _ _ 30 rfl Try.underlying30 w.heap.size _ cur.length (intsZ cur) rfl ho2 [] _ new rfl hs2 (by omega) (by have := hu2.size; omega) ?_; intro v3 w3 ho3 hu3))
      go_roundw
      case rel =>
        have hu3' : Upd (Value.slice a7 cur.length c7).ownBlock.toList w2 w3 := hu3
        refine ⟨q + 1, by omega, by go_num, ?_, (hu.trans hu2).joined hu3' (fun g hg => Or.inr (ho.lt g (by simpa using hg)).1)⟩
        rw [HSN.out, List.length_append, intsZ_append]
        exact ho3
      case measure => simp [intOf]; omega
    · obtain rfl : q = m := by omega
      rw [List.take_of_length_le (by rw [HM.out]; omega)] at ho
      obtain ⟨a7, c7, he, _⟩ := own_slice ho
      have hs := LstAt.of_owns ho
      rw [← HALL.out] at hs
      rw [he] at hs
      subst he
      have HS := Lib.hid hs
      clear ho hs
      go_wp2
      go_ret
      exact ⟨_, rfl, HS.out, hu⟩
theorem flat_take (Z : List (List Int)) (lev : Nat) (l : List Int) (q : Nat) : ((l.take q).flatMap (allZ Z lev)).length ≤ (l.flatMap (allZ Z lev)).length := by
  have : l.flatMap (allZ Z lev) = (l.take q).flatMap (allZ Z lev) ++ (l.drop q).flatMap (allZ Z lev) := by rw [← List.flatMap_append, List.take_append_drop]
  rw [this, List.length_append]; omega
theorem zall_zero (F : List Nat) (v : Value) (Z : List (List Int)) (x : Nat) (w : World) (h : FrAt w F v Z) (hx : x < Z.length) :
    Calls Try.prog 21 #[v, .int .i64 (x : Int), .int .i64 0] w fun e w' => ∃ v', e = .returned v' ∧ LstAt w' w.heap.size v' (allZ Z 0 x).length (intsZ (allZ Z 0 x)) ∧ Upd [] w w' := by
  have kH := zhas_any w F v Z x h true (by simp; omega)
  obtain ⟨a, cap, rfl, h1, h2⟩ := h.shape
  clear h
  go_enter Try.func21, Try.ntmps21
  go_wp2_with ((go_at_call 42; (with_reducible refine (kH).mono ?_); rintro e w9 ⟨rfl, hw9⟩; rw [hw9]; clear hw9 w9))
  go_ret
  exact ⟨_, rfl, Or.inl ⟨rfl, rfl, rfl⟩, Upd.refl _ _⟩
/-- All of a thing, where no list is long. -/
theorem zall_lst (F : List Nat) (v : Value) (Z : List (List Int)) (hc : CubeZ Z) (lev : Nat) : lev ≤ 100000 → (∀ l x, l ≤ lev → (allZ Z l x).length ≤ 100000) → ∀ (x : Nat) (w : World), FrAt w F v Z → x < Z.length →
    Calls Try.prog 21 #[v, .int .i64 (x : Int), .int .i64 (lev : Int)] w fun e w' => ∃ v', e = .returned v' ∧ LstAt w' w.heap.size v' (allZ Z lev x).length (intsZ (allZ Z lev x)) ∧ Upd [] w w' := by
  induction lev with
  | zero => exact fun _ _ x w h hx => zall_zero F v Z x w h hx
  | succ lev ih =>
    intro hl hb x w h hx
    have hq : ∀ q, q ≤ (Z[x]).length → (((Z[x]).take q).flatMap (allZ Z lev)).length ≤ 100000 := fun q _ => by
      have := hb (lev + 1) x (Nat.le_refl _)
      rw [allZ, if_pos (by omega), kidsZ_at hx, List.length_cons] at this
      have h2 := flat_take Z lev Z[x] q
      omega
    refine zall_step F v Z lev (by omega) x w h hx hq ?_
    intro y W hy hW
    obtain ⟨i, hi, he⟩ := List.getElem_of_mem hy
    obtain ⟨y', hy', e, _⟩ := hc x Z[x] (by simp [hx]) i y (by rw [List.getElem?_eq_getElem hi, he])
    subst e
    exact ih (by omega) (fun l x hl => hb l x (by omega)) y' W (h.upd hW (by simp)) hy'
theorem zall_any (F : List Nat) (v : Value) (Z : List (List Int)) (hc : CubeZ Z) (lev : Nat) (hl : lev ≤ 100000) (hb : ∀ l x, l ≤ lev → (allZ Z l x).length ≤ 100000) (x : Nat) (w : World) (h : FrAt w F v Z) (hx : x < Z.length) :
    Calls Try.prog 21 #[v, .int .i64 (x : Int), .int .i64 (lev : Int)] w fun e w' => ∃ v', e = .returned v' ∧ SlI w' [] v' (allZ Z lev x) ∧ Upd [] w w' :=
  (zall_lst F v Z hc lev hl hb x w h hx).mono fun e w' ⟨v', he, hs, hu⟩ => ⟨v', he, SlI.of_lst hs (by simp), hu⟩
end Go.Proofs.Ytdgohhkgmfjhaaa
