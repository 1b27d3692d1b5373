/-
  Leftist heaps: what each call costs is no more than there may be (plain). Conditions: those of each lemma.
-/
import Derived.Test.YtechoojcgdjcdaaLfNew
import Derived.Test.YtechoojcgdjcdaaLimits
set_option linter.unusedVariables false
set_option linter.unusedSimpArgs false
namespace Go.Proofs.Ytechoojcgdjcdaa
open Go Go.RowKit

theorem nodup_sub_len : ∀ {l m : List Nat}, l.Nodup → (∀ x, x ∈ l → x ∈ m) → l.length ≤ m.length
  | [], _, _, _ => by simp
  | x :: l, m, h, hs => by
    have h' := List.nodup_cons.1 h
    have hx := hs x (by simp)
    have ih := nodup_sub_len (m := m.erase x) h'.2 (fun y hy => (List.mem_erase_of_ne (fun e => h'.1 (by rw [← e]; exact hy))).2 (hs y (List.mem_cons_of_mem _ hy)))
    have hl := List.length_erase_of_mem hx
    have hp : 0 < m.length := List.length_pos_of_mem hx
    simp only [List.length_cons]
    omega
theorem cs_range (A : NS) : A.cs = (List.range A.cs.length).map A.c := by
  refine List.ext_getElem? (fun j => ?_)
  by_cases hj : j < A.cs.length
  · simp [hj, NS.c, List.getD_eq_getElem?_getD]
  · simp [hj]
theorem lenN_range (A : NS) (h : Int) : lenN A h = ((List.range A.cs.length).filter fun x => decide ((A.c x).i = h) && decide (0 < h)).length := by
  unfold lenN lenL
  conv => lhs; rw [cs_range A]
  rw [List.filter_map, List.length_map]
  rfl
theorem tree_len {A : NS} {S : TS} {tops : List Int} {tr : Nat → BT} (h : TrI A S tops tr) (g : Nat) : (tr g).size ≤ lenN A (g : Int) := by
  rw [← BT.size_nodes, lenN_range]
  refine nodup_sub_len (h.nd g) (fun x hx => ?_)
  have := (h.mem g x).1 hx
  rw [List.mem_filter, List.mem_range]
  refine ⟨this.2.1, ?_⟩
  simp only [Bool.and_eq_true, decide_eq_true_eq]
  exact ⟨this.2.2, by omega⟩
theorem bits_pow : ∀ (r : Nat) (m : Int), (2 : Int) ^ r ≤ m → m ≤ 4611686018427387904 → (r : Int) + 1 ≤ bitsOf m
  | 0, m, h, h2 => by
    have h0 : (1 : Int) ≤ m := by simpa using h
    rw [bitsOf_half (by omega) (by omega)]
    have := (bitsOf_bd (m / 2)).1
    omega
  | r + 1, m, h, h2 => by
    have hp : (2 : Int) ^ (r + 1) = 2 ^ r * 2 := by rw [Int.pow_succ]
    have hq : (1 : Int) ≤ 2 ^ r := by
      have : (0 : Int) < 2 ^ r := Int.pow_pos (by decide)
      omega
    rw [bitsOf_half (by omega) (by omega)]
    have := bits_pow r (m / 2) (by omega) (by omega)
    omega
theorem rank_bits {t : BT} (h : Lean t) {m : Int} (hs : (t.size : Int) + 1 ≤ m) (hm : m ≤ 4611686018427387904) : (t.rank : Int) + 1 ≤ bitsOf m := by
  refine bits_pow t.rank m ?_ hm
  have h1 := rank_size h
  have h2 : ((2 ^ t.rank : Nat) : Int) ≤ ((t.size + 1 : Nat) : Int) := by exact_mod_cast h1
  have h3 : ((2 ^ t.rank : Nat) : Int) = (2 : Int) ^ t.rank := by push_cast; rfl
  omega
theorem limit6 {m : Int} (h0 : 0 ≤ m) (h1 : m ≤ 1099511627776) : limit 6 0 m = 4 * (2 + bitsOf m) := by
  rw [limit_e (by decide) (by decide) (by decide)]
  have : near m = m := by unfold near; rw [if_neg (by omega), if_neg (by omega)]
  rw [this]
theorem plug_size (P : List Fr) (t : BT) : (plug P t).size = t.size + (ctxN P).length := by
  rw [← BT.size_nodes, (plug_nodes P t).length_eq, List.length_append, BT.size_nodes]
/-- Two merged trees, each no greater than there are things: few steps. -/
theorem two_bits {up : Nat → BT → BT → BT} {A : NS} {a b : BT} (ha : Lean a) (hb : Lean b) {m : Int} (h1 : (a.size : Int) + 1 ≤ m) (h2 : (b.size : Int) + 1 ≤ m) (hm : m ≤ 1099511627776) : ((mergeT up A a b).2 : Int) ≤ limit 6 0 m := by
  rw [limit6 (by omega) hm]
  have c := merge_count A up _ a b (Nat.le_refl _)
  have r1 := rank_bits ha h1 (by omega)
  have r2 := rank_bits hb h2 (by omega)
  have := (bitsOf_bd m).1
  omega
theorem one_bits {up : Nat → BT → BT → BT} {A : NS} {a : BT} {x : Nat} (ha : Lean a) {m : Int} (h1 : (a.size : Int) + 1 ≤ m) (hm : m ≤ 1099511627776) : ((mergeT up A a (single x)).2 : Int) ≤ limit 6 0 m := by
  rw [limit6 (by omega) hm]
  have c := merge_count A up _ a (single x) (Nat.le_refl _)
  have r1 := rank_bits ha h1 (by omega)
  have e : (single x).rank = 1 := rfl
  have := (bitsOf_bd m).1
  omega
theorem limit6_pos {m : Int} : (0 : Int) ≤ limit 6 0 m := by
  rw [limit_e (by decide) (by decide) (by decide)]
  have := (bitsOf_bd (near m)).1
  omega
theorem del_bits {A : NS} {t : BT} {x : Nat} (hx : x ∈ t.nodes) (hL : Lean t) {m : Int} (h1 : (t.size : Int) + 1 ≤ m) (hm : m ≤ 1099511627776) : ((ldelT A t x).2 : Int) ≤ limit 6 0 m := by
  have e := pathOf_eq hx
  unfold ldelT
  generalize (pathOf t x).1 = P at *
  generalize (pathOf t x).2.1 = l at *
  generalize (pathOf t x).2.2 = r at *
  rw [e] at hL h1
  obtain ⟨l1, l2⟩ := (lean_plug _ _).1 hL
  rw [plug_size] at h1
  simp only [BT.size] at h1
  exact two_bits l1.2.1 l1.2.2 (by omega) (by omega) hm
theorem low_bits {A : NS} {t : BT} {x : Nat} (hx : x ∈ t.nodes) (hL : Lean t) {m : Int} (h1 : (t.size : Int) + 1 ≤ m) (hm : m ≤ 1099511627776) : ((llowT A t x).2 : Int) ≤ limit 6 0 m := by
  have e := pathOf_eq hx
  unfold llowT
  generalize (pathOf t x).1 = P at *
  generalize (pathOf t x).2.1 = l at *
  generalize (pathOf t x).2.2 = r at *
  rw [e] at hL h1
  obtain ⟨l1, l2⟩ := (lean_plug _ _).1 hL
  rw [plug_size] at h1
  cases P with
  | nil => exact limit6_pos
  | cons f P =>
    have hs : (fixT (f :: P) (.node x l r) .nil).size = (ctxN (f :: P)).length := by
      rw [← BT.size_nodes, (fix_nodes _ _ _).length_eq, BT.size_nodes, plug_size]; simp [BT.size]
    refine two_bits (a := fixT (f :: P) (.node x l r) .nil) (b := .node x l r) (fix_lean (f :: P) (.node x l r) .nil trivial l2) l1 ?_ ?_ hm
    · rw [hs]; omega
    · omega
theorem lf_cost (W : World) (p : Nat) (F : List Nat) (A : NS) (st : Nat) (g : nestLf.G) (a : AC) (h : nestLf.at_ W p F A st g) (ha : a.Ok) : (nestLf.cost A a g : Int) ≤ limit 6 0 (sizeX A a + sizeY A a + 1) := by
  have ok := nestLf.ok h
  obtain ⟨z1, z2, z3, z4⟩ := size_bd ok a
  obtain ⟨B, F1, gt, ct, rfl, rfl, S, rk, tops, hM, hI, hL, hR⟩ := h
  show ((stepT lOps A a g).2 : Int) ≤ _
  have tl := fun q => tree_len hI q
  have hin : ∀ y : Nat, inN A (y : Int) = true → ∃ q : Nat, (A.c y).i = q ∧ y ∈ (g q).nodes := fun y hy => by
    have := (inN_nat A y).1 hy
    exact ⟨(A.c y).i.toNat, by omega, (hI.mem _ y).2 ⟨by omega, this.1, by omega⟩⟩
  unfold stepT
  split
  · rename_i hk
    split
    · rename_i hB
      obtain ⟨q, y, e1, e2⟩ := put_nat hB
      have e3 : sizeX A a = lenN A (q : Int) := by unfold sizeX; rw [if_neg (by omega), if_neg (by omega), e1]
      have e4 : sizeY A a = 0 := by unfold sizeY; rw [if_neg (by omega)]
      have := tl q
      have hb := lenN_le ok (q : Int)
      rw [e1, Int.toNat_natCast]
      rw [← e1, e3, e4]
      exact one_bits (a := g q) (hL q) (by omega) (by omega)
    · exact limit6_pos
  · split
    · rename_i hk
      split
      · rename_i m hm
        obtain ⟨h0, h1, h2, h3⟩ := minN_in hm
        obtain ⟨q, hq, hmem⟩ := hin m h3
        have e1 : a.h = q := by rw [← h2, hq]
        have e3 : sizeX A a = lenN A (q : Int) := by unfold sizeX; rw [if_neg (by omega), if_neg (by omega), e1]
        have e4 : sizeY A a = 0 := by unfold sizeY; rw [if_neg (by omega)]
        have := tl q
        have hb := lenN_le ok (q : Int)
        rw [e3, e4, e1, Int.toNat_natCast]
        exact del_bits hmem (hL q) (by omega) (by omega)
      · exact limit6_pos
    · split
      · rename_i hk
        split
        · rename_i hB
          have hi := low_in hB
          obtain ⟨y, e2⟩ := in_nat hi
          rw [e2] at hi
          obtain ⟨q, hq, hmem⟩ := hin y hi
          have e3 : sizeX A a = lenN A (q : Int) := by unfold sizeX; rw [if_neg (by omega), if_pos ⟨Or.inl hk, by rw [e2]; exact hi⟩, e2, Int.toNat_natCast, hq]
          have e4 : sizeY A a = 0 := by unfold sizeY; rw [if_neg (by omega)]
          have := tl q
          have hb := lenN_le ok (q : Int)
          rw [e3, e4, e2, Int.toNat_natCast, hq, Int.toNat_natCast]
          exact low_bits hmem (hL q) (by omega) (by omega)
        · exact limit6_pos
      · split
        · rename_i hk
          split
          · rename_i hi
            obtain ⟨y, e2⟩ := in_nat hi
            rw [e2] at hi
            obtain ⟨q, hq, hmem⟩ := hin y hi
            have e3 : sizeX A a = lenN A (q : Int) := by unfold sizeX; rw [if_neg (by omega), if_pos ⟨Or.inr hk, by rw [e2]; exact hi⟩, e2, Int.toNat_natCast, hq]
            have e4 : sizeY A a = 0 := by unfold sizeY; rw [if_neg (by omega)]
            have := tl q
            have hb := lenN_le ok (q : Int)
            rw [e3, e4, e2, Int.toNat_natCast, hq, Int.toNat_natCast]
            exact del_bits hmem (hL q) (by omega) (by omega)
          · exact limit6_pos
        · split
          · rename_i hk
            split
            · rename_i hB
              obtain ⟨q, y, e1, e2⟩ := join_nat hB
              have e3 : sizeX A a = lenN A (q : Int) := by unfold sizeX; rw [if_pos hk, e1]
              have e4 : sizeY A a = lenN A (y : Int) := by unfold sizeY; rw [if_pos hk, e2]
              have := tl q
              have := tl y
              have hb := lenN_le ok (q : Int)
              have hb := lenN_le ok (y : Int)
              rw [e3, e4, e1, e2, Int.toNat_natCast, Int.toNat_natCast]
              exact two_bits (hL q) (hL y) (by omega) (by omega) (by omega)
            · exact limit6_pos
          · exact limit6_pos
theorem config10 (w : World) : Calls Try.prog 34 #[] w fun e w' => e = .returned (.agg #[.int .i64 6, .int .i64 0]) ∧ Upd [] w w' := by
  go_enter Try.func34, Try.ntmps34
  go_wp2
  exact bodyPost_ret (v := .agg #[.int .i64 6, .int .i64 0]) (by simp [results, Try.results34, go_sem]) rfl ⟨rfl, by (repeat (first | assumption | exact Upd.refl _ _ | refine Upd.alloc ?_ _ | refine Upd.drew ?_ | refine Upd.drewN ?_ _ | refine Upd.setCell ?_ ?_ _ | focus (left; simp; done) | focus (right; simp; done) | focus (right; simp; omega)))⟩
end Go.Proofs.Ytechoojcgdjcdaa
