/-
  Slices of integers that do not begin where their block begins: cut from in front, and appended to. Conditions: those of each lemma.
-/
import Derived.Test.YtighgbdijagolaaGw
import Derived.Test.YtighgbdijagolaaGa
import Derived.ArgAppend
import Derived.Test.YtighgbdijagolaaGx
set_option linter.unusedVariables false
set_option linter.unusedSimpArgs false
namespace Go.Proofs.Ytighgbdijagolaa
open Go Go.RowKit

/-- A slice of the call's own, wherever in its block it begins, of these integers. -/
def OwnOff (w : World) (base : Nat) (v : Value) (xs : List Int) : Prop :=
  (v = .slice none 0 0 ∧ xs = []) ∨
  ∃ g off cap cur, v = .slice (some ⟨g, off, none⟩) xs.length cap ∧ base ≤ g ∧ w.heap[g]? = some (.cells cur 3 (0, 0)) ∧ xs.length ≤ cap ∧ cap ≤ 9223372036854775807 ∧ off + cap ≤ cur.size ∧ ∀ j u, xs[j]? = some u → cur[off + j]? = some (.int .i64 u)
theorem OwnOff.nil (w : World) (base : Nat) : OwnOff w base (.slice none 0 0) [] := Or.inl ⟨rfl, rfl⟩
theorem OwnOff.of_own {w : World} {base : Nat} {v : Value} {xs : List Int} (h : w.ownsRow base 3 1 v xs.length (intsZ xs)) : OwnOff w base v xs := by
  rcases h.2 with ⟨rfl, h0⟩ | ⟨g, cap, cur, rfl, hb, hg, hn, hc, hs, ht⟩
  · exact Or.inl ⟨rfl, List.eq_nil_of_length_eq_zero h0⟩
  · refine Or.inr ⟨g, 0, cap, cur, rfl, hb, hg, hn, by unfold maxLen at hc; exact hc, by omega, fun j u hj => ?_⟩
    have hjl : j < xs.length := (List.getElem?_eq_some_iff.1 hj).1
    have : (intsZ xs)[j]? = some (.int .i64 u) := by unfold intsZ; rw [List.getElem?_map, hj]; rfl
    rw [← ht, List.getElem?_take, if_pos (by omega)] at this
    rw [Nat.zero_add]
    simpa using this
theorem heap_lt {w : World} {g : Nat} {o : Obj} (h : w.heap[g]? = some o) : g < w.heap.size := by
  rcases Nat.lt_or_ge g w.heap.size with h' | h'
  · exact h'
  · rw [Array.getElem?_eq_none h'] at h; cases h
theorem OwnOff.lt {w : World} {base : Nat} {v : Value} {xs : List Int} (h : OwnOff w base v xs) (g : Nat) (hg : v.ownBlock = some g) : base ≤ g ∧ g < w.heap.size := by
  rcases h with ⟨rfl, _⟩ | ⟨g', off, cap, cur, rfl, hb, hh, _⟩
  · cases hg
  · simp only [Value.ownBlock, Option.some.injEq] at hg
    subst hg
    exact ⟨hb, heap_lt hh⟩
theorem OwnOff.mono {w : World} {base base' : Nat} {v : Value} {xs : List Int} (h : OwnOff w base v xs) (hb : base' ≤ base) : OwnOff w base' v xs := by
  rcases h with h | ⟨g', off, cap, cur, rfl, hb', hh⟩
  · exact Or.inl h
  · exact Or.inr ⟨g', off, cap, cur, rfl, Nat.le_trans hb hb', hh⟩
theorem OwnOff.upd {w w' : World} {F : List Nat} {base : Nat} {v : Value} {xs : List Int} (h : OwnOff w base v xs) (hu : Upd F w w') (hF : ∀ g, v.ownBlock = some g → g ∉ F) : OwnOff w' base v xs := by
  rcases h with h | ⟨g, off, cap, cur, rfl, hb, hh, h1, h2⟩
  · exact Or.inl h
  · exact Or.inr ⟨g, off, cap, cur, rfl, hb, by rw [hu.block g (heap_lt hh) (hF g rfl)]; exact hh, h1, h2⟩
theorem OwnOff.shape {w : World} {base : Nat} {v : Value} {xs : List Int} (h : OwnOff w base v xs) :
    ∃ a cap, v = .slice a xs.length cap ∧ xs.length ≤ cap ∧ cap ≤ 9223372036854775807 ∧ ∀ j u, xs[j]? = some u → ∃ g off, a = some ⟨g, off, none⟩ ∧ w.cell? ⟨g, off + j, none⟩ = some (.int .i64 u) := by
  rcases h with ⟨rfl, rfl⟩ | ⟨g, off, cap, cur, rfl, hb, hh, h1, h2, h3, h4⟩
  · exact ⟨none, 0, rfl, Nat.le_refl _, by omega, fun j u hj => by simp at hj⟩
  · refine ⟨_, cap, rfl, h1, h2, fun j u hj => ⟨g, off, rfl, ?_⟩⟩
    unfold World.cell?
    simp only [hh]
    simpa using h4 j u hj
theorem OwnOff.lit (w : World) (base : Nat) (x : Int) (hb : base ≤ w.heap.size) : OwnOff (w.alloc (.cells #[.int .i64 x] 3)) base (.slice (some ⟨w.heap.size, 0, none⟩) 1 1) [x] :=
  OwnOff.of_own (own_lit w [.int .i64 x] 3 base 1 1 rfl hb (by unfold maxLen; omega))
/-- s[1:] -/
def tailV (v : Value) : Value := match v with | .slice a n c => .slice (if c = 1 then a else a.map (·.add 1)) (n - 1) (c - 1) | v => v
theorem run_tail (w : World) (a : Option Addr) (n c : Nat) (h1 : 1 ≤ n) (h2 : n ≤ 9223372036854775807) :
    (Instr.slice 63 (.slice a n c) (some (.int .i64 1)) none none).run Try.prog w = .ok (tailV (.slice a n c)) w := by
  have hs : (sizeOf 3).run Try.prog w = .ok 1 w := by kernel_rfl
  unfold Instr.slice Instr.sliceBounds
  simp [run_underlying Try.underlying63, go_sem, hs, tailV]
  intro h; omega
theorem OwnOff.tail {w : World} {base : Nat} {v : Value} {x : Int} {xs : List Int} (h : OwnOff w base v (x :: xs)) : OwnOff w base (tailV v) xs ∧ (tailV v).ownBlock = v.ownBlock := by
  rcases h with ⟨rfl, h0⟩ | ⟨g, off, cap, cur, rfl, hb, hh, h1, h2, h3, h4⟩
  · cases h0
  · simp only [List.length_cons] at h1 ⊢
    unfold tailV
    simp only [Nat.add_sub_cancel]
    by_cases hc : cap = 1
    · subst hc
      have : xs = [] := List.eq_nil_of_length_eq_zero (by omega)
      subst this
      rw [if_pos rfl]
      exact ⟨Or.inr ⟨g, off, 0, cur, rfl, hb, hh, Nat.le_refl _, by omega, by omega, fun j u hj => by simp at hj⟩, rfl⟩
    · rw [if_neg hc]
      have e : (some (⟨g, off, none⟩ : Addr)).map (·.add 1) = some ⟨g, off + 1, none⟩ := by simp [Addr.add_lit]
      rw [e]
      refine ⟨Or.inr ⟨g, off + 1, cap - 1, cur, rfl, hb, hh, by omega, by omega, by omega, fun j u hj => ?_⟩, rfl⟩
      have := h4 (j + 1) u (by simpa using hj)
      rw [show off + 1 + j = off + (j + 1) by omega]; exact this
theorem tail_shape (a : Option Addr) (n c : Nat) : ∃ a', tailV (.slice a n c) = .slice a' (n - 1) (c - 1) := ⟨_, rfl⟩

theorem run_append_off {w : World} {base : Nat} {v : Value} {xs : List Int} (hown : OwnOff w base v xs) (t ty : TypeId) (ht : Try.prog.underlying t = some (.slice 3)) (g1 : Nat) (u : Int) (hnew : w.cell? ⟨g1, 0, none⟩ = some (.int .i64 u)) (hn : xs.length + 1 ≤ 1000000) (hbase : base ≤ w.heap.size) :
    ∃ v' w', (Builtin.append_ #[t, t] ty #[v, .slice (some ⟨g1, 0, none⟩) 1 1]).run Try.prog w = .ok v' w' ∧ OwnOff w' base v' (xs ++ [u]) ∧ Upd v.ownBlock.toList w w' ∧ (∀ k, v'.ownBlock = some k → v.ownBlock = some k ∨ w.heap.size ≤ k) := by
  obtain ⟨i, hi, hz0, hz1, hz2⟩ := info_parts intInfo
  have hnews : ∀ j x, [Value.int .i64 u][j]? = some x → w.cell? ((⟨g1, 0, none⟩ : Addr).add j) = some x := fun j x hj => by
    match j, hj with
    | 0, hj => simp at hj; subst hj; rw [addr_add0]; exact hnew
  have h1 : ∀ x ∈ [Value.int .i64 u], x.oneCell' = true := by simp [Value.oneCell']
  rcases hown with ⟨rfl, rfl⟩ | ⟨g, off, cap, cur, rfl, hb, hh, hc1, hc2, hc3, hc4⟩
  · obtain ⟨v', w', hr, h2, h3, _⟩ := run_append_own (P := Try.prog) w w.heap.size t ty 3 i (.int .i64 0) 1 8 ht hi hz0 hz1 hz2 rfl (by decide) (.slice none 0 0) 0 [] (World.ownsRow_nil w _ _ _) ⟨g1, 0, none⟩ 1 1 [.int .i64 u] rfl hnews h1 (by unfold maxLen; omega) (by omega) (Nat.le_refl _)
    exact ⟨v', w', hr, (OwnOff.of_own (xs := [u]) h2).mono hbase, (Upd.refl _ _).grown h3 (fun k hk => by cases hk), fun k hk => Or.inr (h2.lt k hk).1⟩
  · by_cases hfit : xs.length + 1 ≤ cap
    · have hf := run_firstCells_some (P := Try.prog) w i.size 1 ⟨g1, 0, none⟩ 1 1 [.int .i64 u] (by rw [hz1]; rfl) hnews
      have hst := run_storeCells_at Try.prog g (off + xs.length * i.size) 3 [.int .i64 u] 0 cur w hh (by rw [hz1]; simp; omega) h1
      simp only [Nat.add_zero] at hst
      have hrun : (Builtin.append_ #[t, t] ty #[.slice (some ⟨g, off, none⟩) xs.length cap, .slice (some ⟨g1, 0, none⟩) 1 1]).run Try.prog w = .ok (.slice (some ⟨g, off, none⟩) (xs.length + 1) cap) (w.setRow g (cur.toList.take (off + xs.length * i.size) ++ [Value.int .i64 u] ++ cur.toList.drop (off + xs.length * i.size + 1)).toArray) := by
        simp [Builtin.append_, run_underlying ht, sizeOf, typeInfo, hi, Builtin.lenOf, hfit, hf, Addr.add_lit]
        have := hst
        simp at this
        simp [this]
      rw [hz1, Nat.mul_one] at hrun
      refine ⟨_, _, hrun, Or.inr ⟨g, off, cap, _, by rw [List.length_append]; rfl, hb, setRow_heap w g cur _ _ _ hh, by rw [List.length_append]; exact hfit, hc2, ?_, fun j x hj => ?_⟩, ?_, fun k hk => Or.inl hk⟩
      · simp; omega
      · have hlen : off + xs.length ≤ cur.size := by omega
        rcases Nat.lt_or_ge j xs.length with h | h
        · rw [List.getElem?_append_left h] at hj
          have := hc4 j x hj
          rw [List.getElem?_toArray, List.append_assoc, List.getElem?_append_left (by simp; omega), List.getElem?_take, if_pos (by omega)]
          simpa using this
        · have hj2 : j = xs.length := by
            have := (List.getElem?_eq_some_iff.1 hj).1
            rw [List.length_append] at this
            simp at this
            omega
          subst hj2
          rw [List.getElem?_append_right (Nat.le_refl _)] at hj
          simp at hj
          subst hj
          rw [List.getElem?_toArray, List.append_assoc, List.getElem?_append_right (by simp; omega)]
          simp [Nat.min_eq_left hlen]
      · exact ⟨rfl, rfl, rfl, by simp, fun k hk hm => setRow_other w g k _ (fun e => hm (by simp [Value.ownBlock, e]))⟩
    · obtain ⟨v', w', hr, h2, h3⟩ := run_append_arg_grows (P := Try.prog) w t ty 3 i (.int .i64 0) 1 8 ht hi hz0 hz1 hz2 rfl (by decide) ⟨g, off, none⟩ xs.length cap (intsZ xs) (by rw [intsZ_len, Nat.mul_one]) (fun j x hj => by
        unfold intsZ at hj
        rw [List.getElem?_map] at hj
        cases hq : xs[j]? with
        | none => rw [hq] at hj; cases hj
        | some y =>
          rw [hq] at hj
          simp at hj
          subst hj
          rw [Addr.add_lit]
          unfold World.cell?
          simp only [hh]
          simpa using hc4 j y hq) ⟨g1, 0, none⟩ 1 1 [.int .i64 u] rfl hnews (by omega) (by unfold maxLen; omega) (by omega)
      have h4 : w'.ownsRow w.heap.size 3 1 v' (xs ++ [u]).length (intsZ (xs ++ [u])) := by rw [List.length_append, intsZ_append]; exact h2
      exact ⟨v', w', hr, (OwnOff.of_own h4).mono hbase, (Upd.refl _ _).grown h3 (fun k hk => by cases hk), fun k hk => Or.inr (h2.lt k hk).1⟩
theorem wp_append_off {o : Oper} {a : Act} {w : World} {K : Act → World → Prop} {Q : Exit → Act → World → Prop} (s x : Operand) (t : TypeId)
    (ho : o.op = .call { callee := .builtin .append, args := #[s, x], argTypes := #[t, t] }) (ht : Try.prog.underlying t = some (.slice 3))
    (base : Nat) (v : Value) (xs : List Int) (hs : a.eval s = v) (hown : OwnOff w base v xs)
    (g1 : Nat) (u : Int) (hx : a.eval x = .slice (some ⟨g1, 0, none⟩) 1 1) (hnew : w.cell? ⟨g1, 0, none⟩ = some (.int .i64 u)) (hn : xs.length + 1 ≤ 1000000) (hbase : base ≤ w.heap.size)
    (h : ∀ v' w', OwnOff w' base v' (xs ++ [u]) → Upd v.ownBlock.toList w w' → (∀ k, v'.ownBlock = some k → v.ownBlock = some k ∨ w.heap.size ≤ k) → K (a.put o.dst v') w') : Oper.wp Try.prog o a w K Q := by
  obtain ⟨v', w', hr, h2, h3, h4⟩ := run_append_off hown t o.type ht g1 u hnew hn hbase
  unfold Oper.wp execOp
  simp only [ho, resolve, invoke, builtin, Sem.run_bind, Sem.run_pure, Result.andThen_ok, List.map_toArray, List.map_cons, List.map_nil, hs, hx, hr]
  exact h _ _ h2 h3 h4
theorem step_append_off {ops : Array Oper} {o : Oper} {a : Act} {w : World} {K : Act → World → Prop} {Q : Exit → Act → World → Prop} {E : Prop} (hgd : o.guard = none) (s x : Operand) (t : TypeId)
    (ho : o.op = .call { callee := .builtin .append, args := #[s, x], argTypes := #[t, t] }) (ht : Try.prog.underlying t = some (.slice 3))
    (base : Nat) (v : Value) (xs : List Int) (hs : a.eval s = v) (hown : OwnOff w base v xs)
    (g1 : Nat) (u : Int) (hx : a.eval x = .slice (some ⟨g1, 0, none⟩) 1 1) (hnew : w.cell? ⟨g1, 0, none⟩ = some (.int .i64 u)) (hn : xs.length + 1 ≤ 1000000) (hbase : base ≤ w.heap.size)
    (h : ∀ v' w', OwnOff w' base v' (xs ++ [u]) → Upd v.ownBlock.toList w w' → (∀ k, v'.ownBlock = some k → v.ownBlock = some k ∨ w.heap.size ≤ k) → K (a.put o.dst v') w') :
    if Region.wanted o (yielded ops a.tmps) = true then Oper.wp Try.prog o a w K Q else E := by
  have hw : Region.wanted o (yielded ops a.tmps) = true := by simp [Region.wanted, hgd]
  rw [if_pos hw]
  exact wp_append_off s x t ho ht base v xs hs hown g1 u hx hnew hn hbase h
theorem wpList_append_off {ops : Array Oper} {rest : List Oper} {o : Oper} {a : Act} {w : World} {Q : Exit → Act → World → Prop} (hgd : o.guard = none) (s x : Operand) (t : TypeId)
    (ho : o.op = .call { callee := .builtin .append, args := #[s, x], argTypes := #[t, t] }) (ht : Try.prog.underlying t = some (.slice 3))
    (base : Nat) (v : Value) (xs : List Int) (hs : a.eval s = v) (hown : OwnOff w base v xs)
    (g1 : Nat) (u : Int) (hx : a.eval x = .slice (some ⟨g1, 0, none⟩) 1 1) (hnew : w.cell? ⟨g1, 0, none⟩ = some (.int .i64 u)) (hn : xs.length + 1 ≤ 1000000) (hbase : base ≤ w.heap.size)
    (h : ∀ v' w', OwnOff w' base v' (xs ++ [u]) → Upd v.ownBlock.toList w w' → (∀ k, v'.ownBlock = some k → v.ownBlock = some k ∨ w.heap.size ≤ k) → wpList Try.prog ops Q rest (a.put o.dst v') w') : wpList Try.prog ops Q (o :: rest) a w :=
  wpList_plain hgd fun _ hK => wp_append_off s x t ho ht base v xs hs hown g1 u hx hnew hn hbase fun v' w' h2 h3 h4 => hK _ _ (h v' w' h2 h3 h4)

theorem SlI.tail {w : World} {F : List Nat} {v : Value} {x : Int} {xs : List Int} (h : SlI w F v (x :: xs)) : SlI w F (tailV v) xs := by
  obtain ⟨a, cap, rfl, h1, h2, h3⟩ := h
  obtain ⟨g, off, rfl, hg, hF, _⟩ := h3 0 x rfl
  simp only [List.length_cons] at h1 ⊢
  unfold tailV
  simp only [Nat.add_sub_cancel]
  refine ⟨_, _, rfl, by omega, by omega, fun j u hj => ?_⟩
  have hjl : j < xs.length := (List.getElem?_eq_some_iff.1 hj).1
  rw [if_neg (by omega)]
  obtain ⟨g2, off2, he, hg2, hF2, hc⟩ := h3 (j + 1) u (by simpa using hj)
  simp only [Option.some.injEq, Addr.mk.injEq, and_true] at he
  obtain ⟨rfl, rfl⟩ := he
  exact ⟨g, off + 1, by simp [Addr.add_lit], hg, hF, by rw [show off + 1 + j = off + (j + 1) by omega]; exact hc⟩
theorem SlI.of_lst {w : World} {F : List Nat} {lo : Nat} {v : Value} {xs : List Int} (h : LstAt w lo v xs.length (intsZ xs)) (hF : ∀ g, g ∈ F → g < lo) : SlI w F v xs := by
  obtain ⟨a, cap, rfl, h1, h2, h3⟩ := h.open
  refine ⟨a, cap, rfl, h2, h1, fun j u hj => ?_⟩
  have hjl : j < xs.length := (List.getElem?_eq_some_iff.1 hj).1
  obtain ⟨g, rfl, hlo, hg, hc⟩ := h3 (by omega)
  exact ⟨g, 0, rfl, hg, fun hm => by have := hF g hm; omega, by rw [Nat.zero_add]; exact hc j _ (by unfold intsZ; rw [List.getElem?_map, hj]; rfl)⟩
theorem SlI.upd {w w' : World} {F G : List Nat} {v : Value} {xs : List Int} (h : SlI w F v xs) (hu : Upd G w w') (hG : ∀ g, g ∈ G → g ∈ F) : SlI w' F v xs := by
  obtain ⟨a, cap, rfl, h1, h2, h3⟩ := h
  refine ⟨a, cap, rfl, h1, h2, fun j u hj => ?_⟩
  obtain ⟨g, off, rfl, hg, hF, hc⟩ := h3 j u hj
  exact ⟨g, off, rfl, Nat.lt_of_lt_of_le hg hu.size, hF, by rw [hu.cell hg (fun hm => hF (hG _ hm))]; exact hc⟩
end Go.Proofs.Ytighgbdijagolaa

set_option linter.unusedVariables false
set_option linter.unusedSimpArgs false
namespace Go.Proofs.Ytighgbdijagolaa
open Go Go.RowKit

set_option maxHeartbeats 1000000 in
theorem row_sl (bt ba lo n : Nat) (S : CS) (v : Value) (l : List Int) (w : World) (h : ForestAt w bt ba lo n S) (F : List Nat) (hv : SlI w F v l) :
    Calls Try.prog 107 #[.pointer (some ⟨bt, 0, none⟩), v] w fun e w' => e = .returned (.bool (rowB n S l)) ∧ w' = w := by
  obtain ⟨a, cap, rfl, hlc, hcp, hp⟩ := hv
  have HP := Lib.hid hp
  clear hp
  unfold rowB
  generalize hlen : l.length = len at *
  have HLEN := Lib.hid hlen
  clear hlen
  have kR := fun x => root_any bt ba lo n S x w h
  have kD := fun x => degree_any bt ba lo n S x w h
  clear h
  go_enter Try.func107, Try.ntmps107
  go_wp2
  go_loop [9] (fun i => ∃ k : Nat, k ≤ len ∧ i = .int .i64 (k : Int) ∧ rowTo n S l k = true) (fun i => len - (intOf i).toNat)
  case atStart => exact ⟨0, by omega, rfl, rfl⟩
  case round =>
    obtain ⟨k, hk, rfl, ht⟩ := hrel
    by_cases hlt : k < len
    · obtain ⟨g, off, rfl, _, _, c1⟩ := HP.out k (l.getD k 0) (by simp [List.getD_eq_getElem?_getD, HLEN.out, hlt])
      have c2 : 0 < k → w.cell? ⟨g, off + (k - 1), none⟩ = some (.int .i64 (l.getD (k - 1) 0)) := fun hk0 => by
        have hk1 : k - 1 < l.length := by rw [HLEN.out]; omega
        obtain ⟨g2, off2, he, _, _, c⟩ := HP.out (k - 1) (l.getD (k - 1) 0) (by simp [List.getD_eq_getElem?_getD, hk1])
        simp only [Option.some.injEq, Addr.mk.injEq, and_true] at he
        obtain ⟨rfl, rfl⟩ := he
        exact c
      have hsu := rowTo_succ n S l k
      have hno := rowTo_no n S l k ht
      rw [ht, Bool.true_and] at hsu
      unfold rowOk at hsu hno
      have HS := Lib.hid hsu
      have HN := Lib.hid hno
      have k1 := kR (l.getD k 0)
      have k2 := kD (l.getD k 0)
      have k3 := kD (l.getD (k - 1) 0)
      clear hsu hno ht kR kD
      generalize l.getD k 0 = x at *
      generalize l.getD (k - 1) 0 = y at *
      generalize rootB n S x = b at *
      generalize degOf n S x = d at *
      generalize degOf n S y = d2 at *
      cases b with
      | false =>
        go_wp2_with (go_at_call 115; refine (k1).mono ?_; rintro e w' ⟨rfl, rfl⟩)
        go_ret
        exact ⟨ret_bool (HN.out rfl _ hlt).symm, rfl⟩
      | true =>
        by_cases hk0 : k = 0
        · subst hk0
          clear c2
          rw [Nat.add_zero] at c1
          go_wp2_with (go_at_call 115; refine (k1).mono ?_; rintro e w' ⟨rfl, rfl⟩)
          go_round
          case rel => exact ⟨1, by omega, rfl, HS.out⟩
          case measure => simp [intOf]; omega
        · have c3 := c2 (by omega)
          have hk1 : 1 ≤ k := by omega
          clear c2
          obtain ⟨k', rfl⟩ : ∃ k', k = k' + 1 := ⟨k - 1, by omega⟩
          simp only [Nat.add_sub_cancel] at c3
          by_cases hd : d2 < d
          · have hd' : ¬ (d ≤ d2) := by omega
            go_wp2_with (first | (go_at_call 115; (with_reducible refine (k1).mono ?_); rintro e w' ⟨rfl, rfl⟩) | (go_at_call 57; (with_reducible refine (k3).mono ?_); rintro e w' ⟨rfl, rfl⟩) | (go_at_call 57; (with_reducible refine (k2).mono ?_); rintro e w' ⟨rfl, rfl⟩))
            go_round
            case rel => exact ⟨k' + 1 + 1, by omega, by go_num, by rw [HS.out]; simp [hd]⟩
            case measure => simp [intOf]; omega
          · have hd' : d ≤ d2 := by omega
            go_wp2_with (first | (go_at_call 115; (with_reducible refine (k1).mono ?_); rintro e w' ⟨rfl, rfl⟩) | (go_at_call 57; (with_reducible refine (k3).mono ?_); rintro e w' ⟨rfl, rfl⟩) | (go_at_call 57; (with_reducible refine (k2).mono ?_); rintro e w' ⟨rfl, rfl⟩))
            go_ret
            exact ⟨ret_bool (HN.out (by simp; omega) _ hlt).symm, rfl⟩
    · obtain rfl : k = len := by omega
      go_wp2
      go_ret
      exact ⟨by first | rfl | exact ret_bool ht.symm, rfl⟩
set_option maxHeartbeats 1000000 in
theorem index_sl (w : World) (F : List Nat) (v : Value) (l : List Int) (x : Int) (h : SlI w F v l) :
    Calls Try.prog 117 #[v, .int .i64 x] w fun e w' => e = .returned (.int .i64 (idxOf l x)) ∧ w' = w := by
  obtain ⟨a, cap, rfl, hlc, hcp, hp⟩ := h
  have HP := Lib.hid hp
  clear hp
  generalize hlen : l.length = len at *
  have HLEN := Lib.hid hlen
  clear hlen
  go_enter Try.func117, Try.ntmps117
  go_wp2
  go_loop [8] (fun i => ∃ q : Nat, q ≤ len ∧ i = .int .i64 (q : Int) ∧ x ∉ l.take q) (fun i => len - (intOf i).toNat)
  case atStart => exact ⟨0, by omega, rfl, by simp⟩
  case round =>
    obtain ⟨q, hq, rfl, hn⟩ := hrel
    by_cases hlt : q < len
    · obtain ⟨y, hyy⟩ : ∃ y, l[q]? = some y := ⟨l[q]'(by rw [HLEN.out]; exact hlt), by simp⟩
      obtain ⟨gb, off, rfl, _, _, hc⟩ := HP.out q y hyy
      by_cases hxy : x = y
      · subst hxy
        have hi := idx_here l x q hn hyy
        have HI := Lib.hid hi
        clear hn hyy hi
        go_wp2
        go_ret
        exact ⟨ret_int HI.out.symm, rfl⟩
      · have b1 : (x == y) = false := by simpa using hxy
        have hn2 : x ∉ l.take (q + 1) := by rw [List.take_add_one, hyy]; simp; exact ⟨hn, hxy⟩
        have HN2 := Lib.hid hn2
        clear hn hyy hn2 hxy
        go_wp2
        go_round
        case rel => exact ⟨q + 1, by omega, by go_num, HN2.out⟩
        case measure => simp [intOf]; omega
    · obtain rfl : q = len := by omega
      rw [List.take_of_length_le (by rw [HLEN.out]; omega)] at hn
      have HI := Lib.hid (idx_none l x hn)
      clear hn
      go_wp2
      go_ret
      exact ⟨ret_int HI.out.symm, rfl⟩

theorem contains_sl (w : World) (F : List Nat) (v : Value) (l : List Int) (x : Int) (h : SlI w F v l) :
    Calls Try.prog 110 #[v, .int .i64 x] w fun e w' => e = .returned (.bool (decide (x ∈ l))) ∧ w' = w := by
  have k1 := index_sl w F v l x h
  obtain ⟨a, cap, rfl, _⟩ := h
  by_cases hx : x ∈ l
  · obtain ⟨i, hi, he, _⟩ := idx_mem l x hx
    rw [he] at k1
    go_enter Try.func110, Try.ntmps110
    go_wp2_with ((go_at_call 117; (with_reducible refine (k1).mono ?_); rintro e w9 ⟨rfl, hw9⟩; rw [hw9]; clear hw9 w9))
    go_ret
    exact ⟨ret_bool (by simp [hx]), rfl⟩
  · rw [idx_none l x hx] at k1
    go_enter Try.func110, Try.ntmps110
    go_wp2_with ((go_at_call 117; (with_reducible refine (k1).mono ?_); rintro e w9 ⟨rfl, hw9⟩; rw [hw9]; clear hw9 w9))
    go_ret
    exact ⟨ret_bool (by simp [hx]), rfl⟩

theorem clos_any (w : World) (F : List Nat) (B7 : Nat) (v : Value) (l : List Int) (x : Int) (h : SlI w F v l) (hr : RowAt w B7 63 1 (fun _ => v)) :
    Calls Try.prog 109 #[.int .i64 x, .pointer (some ⟨B7, 0, none⟩)] w fun e w' => e = .returned (.bool (decide (x ∈ l))) ∧ w' = w := by
  have k1 := contains_sl w F v l x h
  have c0 := hr.cell 0 (by omega)
  obtain ⟨a, cap, rfl, _⟩ := h
  go_enter Try.func109, Try.ntmps109
  go_wp2_with ((go_at_call 110; (with_reducible refine (k1).mono ?_); rintro e w9 ⟨rfl, hw9⟩; rw [hw9]; clear hw9 w9))
  go_ret
  exact ⟨rfl, rfl⟩
set_option maxHeartbeats 1000000 in
/-- Where the first one of a row is that is in another one: the sign of it. -/
theorem indexf_any (w : World) (F : List Nat) (B7 : Nat) (va v : Value) (A l : List Int) (ha : SlI w F va A) (h : SlI w F v l) (hr : RowAt w B7 63 1 (fun _ => v)) :
    Calls Try.prog 116 #[va, .func (Fn.func 109) #[] #[.pointer (some ⟨B7, 0, none⟩)]] w fun e w' => (∃ i : Int, e = .returned (.int .i64 i) ∧ decide (0 ≤ i) = A.any (fun x => decide (x ∈ l))) ∧ w' = w := by
  have kC := fun x => clos_any w F B7 v l x h hr
  clear h hr
  obtain ⟨a, cap, rfl, hlc, hcp, hp⟩ := ha
  have HP := Lib.hid hp
  clear hp
  generalize hlen : A.length = len at *
  have HLEN := Lib.hid hlen
  clear hlen
  go_enter Try.func116, Try.ntmps116
  go_wp2
  go_loop [8] (fun i => ∃ q : Nat, q ≤ len ∧ i = .int .i64 (q : Int) ∧ (A.take q).any (fun x => decide (x ∈ l)) = false) (fun i => len - (intOf i).toNat)
  case atStart => exact ⟨0, by omega, rfl, by simp⟩
  case round =>
    obtain ⟨q, hq, rfl, hn⟩ := hrel
    by_cases hlt : q < len
    · obtain ⟨y, hyy⟩ : ∃ y, A[q]? = some y := ⟨A[q]'(by rw [HLEN.out]; exact hlt), by simp⟩
      obtain ⟨gb, off, rfl, _, _, hc⟩ := HP.out q y hyy
      have k1 := kC y
      by_cases hy : y ∈ l
      · rw [decide_eq_true hy] at k1
        have hfin : A.any (fun x => decide (x ∈ l)) = true := List.any_eq_true.2 ⟨y, List.mem_of_getElem? hyy, by simpa using hy⟩
        have HF := Lib.hid hfin
        clear hn hyy hy kC hfin
        go_wp2_with ((go_at_call 109; (with_reducible refine (k1).mono ?_); rintro e w9 ⟨rfl, hw9⟩; rw [hw9]; clear hw9 w9))
        go_ret
        exact ⟨⟨_, rfl, by rw [HF.out]; simp⟩, rfl⟩
      · rw [decide_eq_false hy] at k1
        have hn2 : (A.take (q + 1)).any (fun x => decide (x ∈ l)) = false := by rw [List.take_add_one, hyy, List.any_append, hn]; simpa using hy
        have HN2 := Lib.hid hn2
        clear hn hyy hn2 hy kC
        go_wp2_with ((go_at_call 109; (with_reducible refine (k1).mono ?_); rintro e w9 ⟨rfl, hw9⟩; rw [hw9]; clear hw9 w9))
        go_round
        case rel => exact ⟨q + 1, by omega, by go_num, HN2.out⟩
        case measure => simp [intOf]; omega
    · obtain rfl : q = len := by omega
      rw [List.take_of_length_le (by rw [HLEN.out]; omega)] at hn
      have HN := Lib.hid hn
      clear hn kC
      go_wp2
      go_ret
      exact ⟨⟨_, rfl, by rw [HN.out]; rfl⟩, rfl⟩
theorem containsf_any (w : World) (F : List Nat) (B7 : Nat) (va v : Value) (A l : List Int) (ha : SlI w F va A) (h : SlI w F v l) (hr : RowAt w B7 63 1 (fun _ => v)) :
    Calls Try.prog 108 #[va, .func (Fn.func 109) #[] #[.pointer (some ⟨B7, 0, none⟩)]] w fun e w' => e = .returned (.bool (A.any (fun x => decide (x ∈ l)))) ∧ w' = w := by
  have k1 := indexf_any w F B7 va v A l ha h hr
  generalize A.any (fun x => decide (x ∈ l)) = b at *
  obtain ⟨a, cap, rfl, _⟩ := ha
  clear h hr
  go_enter Try.func108, Try.ntmps108
  go_wp2_with (go_at_call 116; (with_reducible refine (k1).mono ?_); rintro e w9 ⟨⟨i, rfl, hi⟩, hw9⟩; rw [hw9]; clear hw9 w9; have HI := Lib.hid hi; clear hi)
  go_ret
  exact ⟨ret_bool (by first | exact HI.out | (rw [← HI.out]; simp)), rfl⟩
end Go.Proofs.Ytighgbdijagolaa
