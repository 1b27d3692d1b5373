/-
  Slices of integers that do not begin where their block begins: cut from in front, and appended to. Conditions: those of each lemma.
-/
import Derived.Test.YtdgohhkgmfjhaaaWords
import Derived.Test.YtdgohhkgmfjhaaaAppend
import Derived.ArgAppend
set_option linter.unusedVariables false
set_option linter.unusedSimpArgs false
namespace Go.Proofs.Ytdgohhkgmfjhaaa
open Go Go.RowKit

/-- A slice of the call's own, wherever in its block it begins, of these integers. -/
def OwnOff (w : World) (base : Nat) (v : Value) (xs : List Int) : Prop :=
  (v = .slice none 0 0 ∧ xs = []) ∨
  ∃ g off cap cur, v = .slice (some ⟨g, off, none⟩) xs.length cap ∧ base ≤ g ∧ w.heap[g]? = some (.cells cur 3 (0, 0)) ∧ xs.length ≤ cap ∧ cap ≤ 9223372036854775807 ∧ off + cap ≤ cur.size ∧ ∀ j u, xs[j]? = some u → cur[off + j]? = some (.int .i64 u)
theorem OwnOff.nil (w : World) (base : Nat) : OwnOff w base (.slice none 0 0) [] := Or.inl ⟨rfl, rfl⟩
theorem OwnOff.of_own {w : World} {base : Nat} {v : Value} {xs : List Int} (h : w.ownsRow base 3 1 v xs.length (intsZ xs)) : OwnOff w base v xs := by
  rcases h.2 with ⟨rfl, h0⟩ | ⟨g, cap, cur, rfl, hb, hg, hn, hc, hs, ht⟩
  · exact Or.inl ⟨rfl, List.eq_nil_of_length_eq_zero h0⟩
  · refine Or.inr ⟨g, 0, cap, cur, rfl, hb, hg, hn, by unfold maxLen at hc; exact hc, by omega, fun j u hj => ?_⟩
    have hjl : j < xs.length := (List.getElem?_eq_some_iff.1 hj).1
    have : (intsZ xs)[j]? = some (.int .i64 u) := by unfold intsZ; rw [List.getElem?_map, hj]; rfl
    rw [← ht, List.getElem?_take, if_pos (by omega)] at this
    rw [Nat.zero_add]
    simpa using this
theorem heap_lt {w : World} {g : Nat} {o : Obj} (h : w.heap[g]? = some o) : g < w.heap.size := by
  rcases Nat.lt_or_ge g w.heap.size with h' | h'
  · exact h'
  · rw [Array.getElem?_eq_none h'] at h; cases h
theorem OwnOff.lt {w : World} {base : Nat} {v : Value} {xs : List Int} (h : OwnOff w base v xs) (g : Nat) (hg : v.ownBlock = some g) : base ≤ g ∧ g < w.heap.size := by
  rcases h with ⟨rfl, _⟩ | ⟨g', off, cap, cur, rfl, hb, hh, _⟩
  · cases hg
  · simp only [Value.ownBlock, Option.some.injEq] at hg
    subst hg
    exact ⟨hb, heap_lt hh⟩
theorem OwnOff.mono {w : World} {base base' : Nat} {v : Value} {xs : List Int} (h : OwnOff w base v xs) (hb : base' ≤ base) : OwnOff w base' v xs := by
  rcases h with h | ⟨g', off, cap, cur, rfl, hb', hh⟩
  · exact Or.inl h
  · exact Or.inr ⟨g', off, cap, cur, rfl, Nat.le_trans hb hb', hh⟩
theorem OwnOff.upd {w w' : World} {F : List Nat} {base : Nat} {v : Value} {xs : List Int} (h : OwnOff w base v xs) (hu : Upd F w w') (hF : ∀ g, v.ownBlock = some g → g ∉ F) : OwnOff w' base v xs := by
  rcases h with h | ⟨g, off, cap, cur, rfl, hb, hh, h1, h2⟩
  · exact Or.inl h
  · exact Or.inr ⟨g, off, cap, cur, rfl, hb, by rw [hu.block g (heap_lt hh) (hF g rfl)]; exact hh, h1, h2⟩
theorem OwnOff.shape {w : World} {base : Nat} {v : Value} {xs : List Int} (h : OwnOff w base v xs) :
    ∃ a cap, v = .slice a xs.length cap ∧ xs.length ≤ cap ∧ cap ≤ 9223372036854775807 ∧ ∀ j u, xs[j]? = some u → ∃ g off, a = some ⟨g, off, none⟩ ∧ w.cell? ⟨g, off + j, none⟩ = some (.int .i64 u) := by
  rcases h with ⟨rfl, rfl⟩ | ⟨g, off, cap, cur, rfl, hb, hh, h1, h2, h3, h4⟩
  · exact ⟨none, 0, rfl, Nat.le_refl _, by omega, fun j u hj => by simp at hj⟩
  · refine ⟨_, cap, rfl, h1, h2, fun j u hj => ⟨g, off, rfl, ?_⟩⟩
    unfold World.cell?
    simp only [hh]
    simpa using h4 j u hj
theorem OwnOff.lit (w : World) (base : Nat) (x : Int) (hb : base ≤ w.heap.size) : OwnOff (w.alloc (.cells #[.int .i64 x] 3)) base (.slice (some ⟨w.heap.size, 0, none⟩) 1 1) [x] :=
  OwnOff.of_own (own_lit w [.int .i64 x] 3 base 1 1 rfl hb (by unfold maxLen; omega))
/-- s[1:] -/
def tailV (v : Value) : Value := match v with | .slice a n c => .slice (if c = 1 then a else a.map (·.add 1)) (n - 1) (c - 1) | v => v
theorem run_tail (w : World) (a : Option Addr) (n c : Nat) (h1 : 1 ≤ n) (h2 : n ≤ 9223372036854775807) :
    (Instr.slice 30 (.slice a n c) (some (.int .i64 1)) none none).run Try.prog w = .ok (tailV (.slice a n c)) w := by
  have hs : (sizeOf 3).run Try.prog w = .ok 1 w := by kernel_rfl
  unfold Instr.slice Instr.sliceBounds
  simp [run_underlying Try.underlying30, go_sem, hs, tailV]
  intro h; omega
theorem OwnOff.tail {w : World} {base : Nat} {v : Value} {x : Int} {xs : List Int} (h : OwnOff w base v (x :: xs)) : OwnOff w base (tailV v) xs ∧ (tailV v).ownBlock = v.ownBlock := by
  rcases h with ⟨rfl, h0⟩ | ⟨g, off, cap, cur, rfl, hb, hh, h1, h2, h3, h4⟩
  · cases h0
  · simp only [List.length_cons] at h1 ⊢
    unfold tailV
    simp only [Nat.add_sub_cancel]
    by_cases hc : cap = 1
    · subst hc
      have : xs = [] := List.eq_nil_of_length_eq_zero (by omega)
      subst this
      rw [if_pos rfl]
      exact ⟨Or.inr ⟨g, off, 0, cur, rfl, hb, hh, Nat.le_refl _, by omega, by omega, fun j u hj => by simp at hj⟩, rfl⟩
    · rw [if_neg hc]
      have e : (some (⟨g, off, none⟩ : Addr)).map (·.add 1) = some ⟨g, off + 1, none⟩ := by simp [Addr.add_lit]
      rw [e]
      refine ⟨Or.inr ⟨g, off + 1, cap - 1, cur, rfl, hb, hh, by omega, by omega, by omega, fun j u hj => ?_⟩, rfl⟩
      have := h4 (j + 1) u (by simpa using hj)
      rw [show off + 1 + j = off + (j + 1) by omega]; exact this
theorem tail_shape (a : Option Addr) (n c : Nat) : ∃ a', tailV (.slice a n c) = .slice a' (n - 1) (c - 1) := ⟨_, rfl⟩

theorem run_append_off {w : World} {base : Nat} {v : Value} {xs : List Int} (hown : OwnOff w base v xs) (t ty : TypeId) (ht : Try.prog.underlying t = some (.slice 3)) (g1 : Nat) (u : Int) (hnew : w.cell? ⟨g1, 0, none⟩ = some (.int .i64 u)) (hn : xs.length + 1 ≤ 1000000) (hbase : base ≤ w.heap.size) :
    ∃ v' w', (Builtin.append_ #[t, t] ty #[v, .slice (some ⟨g1, 0, none⟩) 1 1]).run Try.prog w = .ok v' w' ∧ OwnOff w' base v' (xs ++ [u]) ∧ Upd v.ownBlock.toList w w' ∧ (∀ k, v'.ownBlock = some k → v.ownBlock = some k ∨ w.heap.size ≤ k) := by
  obtain ⟨i, hi, hz0, hz1, hz2⟩ := info_parts intInfo
  have hnews : ∀ j x, [Value.int .i64 u][j]? = some x → w.cell? ((⟨g1, 0, none⟩ : Addr).add j) = some x := fun j x hj => by
    match j, hj with
    | 0, hj => simp at hj; subst hj; rw [addr_add0]; exact hnew
  have h1 : ∀ x ∈ [Value.int .i64 u], x.oneCell' = true := by simp [Value.oneCell']
  rcases hown with ⟨rfl, rfl⟩ | ⟨g, off, cap, cur, rfl, hb, hh, hc1, hc2, hc3, hc4⟩
  · obtain ⟨v', w', hr, h2, h3, _⟩ := run_append_own (P := Try.prog) w w.heap.size t ty 3 i (.int .i64 0) 1 8 ht hi hz0 hz1 hz2 rfl (by decide) (.slice none 0 0) 0 [] (World.ownsRow_nil w _ _ _) ⟨g1, 0, none⟩ 1 1 [.int .i64 u] rfl hnews h1 (by unfold maxLen; omega) (by omega) (Nat.le_refl _)
    exact ⟨v', w', hr, (OwnOff.of_own (xs := [u]) h2).mono hbase, (Upd.refl _ _).grown h3 (fun k hk => by cases hk), fun k hk => Or.inr (h2.lt k hk).1⟩
  · by_cases hfit : xs.length + 1 ≤ cap
    · have hf := run_firstCells_some (P := Try.prog) w i.size 1 ⟨g1, 0, none⟩ 1 1 [.int .i64 u] (by rw [hz1]; rfl) hnews
      have hst := run_storeCells_at Try.prog g (off + xs.length * i.size) 3 [.int .i64 u] 0 cur w hh (by rw [hz1]; simp; omega) h1
      simp only [Nat.add_zero] at hst
      have hrun : (Builtin.append_ #[t, t] ty #[.slice (some ⟨g, off, none⟩) xs.length cap, .slice (some ⟨g1, 0, none⟩) 1 1]).run Try.prog w = .ok (.slice (some ⟨g, off, none⟩) (xs.length + 1) cap) (w.setRow g (cur.toList.take (off + xs.length * i.size) ++ [Value.int .i64 u] ++ cur.toList.drop (off + xs.length * i.size + 1)).toArray) := by
        simp [Builtin.append_, run_underlying ht, sizeOf, typeInfo, hi, Builtin.lenOf, hfit, hf, Addr.add_lit]
        have := hst
        simp at this
        simp [this]
      rw [hz1, Nat.mul_one] at hrun
      refine ⟨_, _, hrun, Or.inr ⟨g, off, cap, _, by rw [List.length_append]; rfl, hb, setRow_heap w g cur _ _ _ hh, by rw [List.length_append]; exact hfit, hc2, ?_, fun j x hj => ?_⟩, ?_, fun k hk => Or.inl hk⟩
      · simp; omega
      · have hlen : off + xs.length ≤ cur.size := by omega
        rcases Nat.lt_or_ge j xs.length with h | h
        · rw [List.getElem?_append_left h] at hj
          have := hc4 j x hj
          rw [List.getElem?_toArray, List.append_assoc, List.getElem?_append_left (by simp; omega), List.getElem?_take, if_pos (by omega)]
          simpa using this
        · have hj2 : j = xs.length := by
            have := (List.getElem?_eq_some_iff.1 hj).1
            rw [List.length_append] at this
            simp at this
            omega
          subst hj2
          rw [List.getElem?_append_right (Nat.le_refl _)] at hj
          simp at hj
          subst hj
          rw [List.getElem?_toArray, List.append_assoc, List.getElem?_append_right (by simp; omega)]
          simp [Nat.min_eq_left hlen]
      · exact ⟨rfl, rfl, rfl, by simp, fun k hk hm => setRow_other w g k _ (fun e => hm (by simp [Value.ownBlock, e]))⟩
    · obtain ⟨v', w', hr, h2, h3⟩ := run_append_arg_grows (P := Try.prog) w t ty 3 i (.int .i64 0) 1 8 ht hi hz0 hz1 hz2 rfl (by decide) ⟨g, off, none⟩ xs.length cap (intsZ xs) (by rw [intsZ_len, Nat.mul_one]) (fun j x hj => by
        unfold intsZ at hj
        rw [List.getElem?_map] at hj
        cases hq : xs[j]? with
        | none => rw [hq] at hj; cases hj
        | some y =>
          rw [hq] at hj
          simp at hj
          subst hj
          rw [Addr.add_lit]
          unfold World.cell?
          simp only [hh]
          simpa using hc4 j y hq) ⟨g1, 0, none⟩ 1 1 [.int .i64 u] rfl hnews (by omega) (by unfold maxLen; omega) (by omega)
      have h4 : w'.ownsRow w.heap.size 3 1 v' (xs ++ [u]).length (intsZ (xs ++ [u])) := by rw [List.length_append, intsZ_append]; exact h2
      exact ⟨v', w', hr, (OwnOff.of_own h4).mono hbase, (Upd.refl _ _).grown h3 (fun k hk => by cases hk), fun k hk => Or.inr (h2.lt k hk).1⟩
theorem wp_append_off {o : Oper} {a : Act} {w : World} {K : Act → World → Prop} {Q : Exit → Act → World → Prop} (s x : Operand) (t : TypeId)
    (ho : o.op = .call { callee := .builtin .append, args := #[s, x], argTypes := #[t, t] }) (ht : Try.prog.underlying t = some (.slice 3))
    (base : Nat) (v : Value) (xs : List Int) (hs : a.eval s = v) (hown : OwnOff w base v xs)
    (g1 : Nat) (u : Int) (hx : a.eval x = .slice (some ⟨g1, 0, none⟩) 1 1) (hnew : w.cell? ⟨g1, 0, none⟩ = some (.int .i64 u)) (hn : xs.length + 1 ≤ 1000000) (hbase : base ≤ w.heap.size)
    (h : ∀ v' w', OwnOff w' base v' (xs ++ [u]) → Upd v.ownBlock.toList w w' → (∀ k, v'.ownBlock = some k → v.ownBlock = some k ∨ w.heap.size ≤ k) → K (a.put o.dst v') w') : Oper.wp Try.prog o a w K Q := by
  obtain ⟨v', w', hr, h2, h3, h4⟩ := run_append_off hown t o.type ht g1 u hnew hn hbase
  unfold Oper.wp execOp
  simp only [ho, resolve, invoke, builtin, Sem.run_bind, Sem.run_pure, Result.andThen_ok, List.map_toArray, List.map_cons, List.map_nil, hs, hx, hr]
  exact h _ _ h2 h3 h4
theorem step_append_off {ops : Array Oper} {o : Oper} {a : Act} {w : World} {K : Act → World → Prop} {Q : Exit → Act → World → Prop} {E : Prop} (hgd : o.guard = none) (s x : Operand) (t : TypeId)
    (ho : o.op = .call { callee := .builtin .append, args := #[s, x], argTypes := #[t, t] }) (ht : Try.prog.underlying t = some (.slice 3))
    (base : Nat) (v : Value) (xs : List Int) (hs : a.eval s = v) (hown : OwnOff w base v xs)
    (g1 : Nat) (u : Int) (hx : a.eval x = .slice (some ⟨g1, 0, none⟩) 1 1) (hnew : w.cell? ⟨g1, 0, none⟩ = some (.int .i64 u)) (hn : xs.length + 1 ≤ 1000000) (hbase : base ≤ w.heap.size)
    (h : ∀ v' w', OwnOff w' base v' (xs ++ [u]) → Upd v.ownBlock.toList w w' → (∀ k, v'.ownBlock = some k → v.ownBlock = some k ∨ w.heap.size ≤ k) → K (a.put o.dst v') w') :
    if Region.wanted o (yielded ops a.tmps) = true then Oper.wp Try.prog o a w K Q else E := by
  have hw : Region.wanted o (yielded ops a.tmps) = true := by simp [Region.wanted, hgd]
  rw [if_pos hw]
  exact wp_append_off s x t ho ht base v xs hs hown g1 u hx hnew hn hbase h
theorem wpList_append_off {ops : Array Oper} {rest : List Oper} {o : Oper} {a : Act} {w : World} {Q : Exit → Act → World → Prop} (hgd : o.guard = none) (s x : Operand) (t : TypeId)
    (ho : o.op = .call { callee := .builtin .append, args := #[s, x], argTypes := #[t, t] }) (ht : Try.prog.underlying t = some (.slice 3))
    (base : Nat) (v : Value) (xs : List Int) (hs : a.eval s = v) (hown : OwnOff w base v xs)
    (g1 : Nat) (u : Int) (hx : a.eval x = .slice (some ⟨g1, 0, none⟩) 1 1) (hnew : w.cell? ⟨g1, 0, none⟩ = some (.int .i64 u)) (hn : xs.length + 1 ≤ 1000000) (hbase : base ≤ w.heap.size)
    (h : ∀ v' w', OwnOff w' base v' (xs ++ [u]) → Upd v.ownBlock.toList w w' → (∀ k, v'.ownBlock = some k → v.ownBlock = some k ∨ w.heap.size ≤ k) → wpList Try.prog ops Q rest (a.put o.dst v') w') : wpList Try.prog ops Q (o :: rest) a w :=
  wpList_plain hgd fun _ hK => wp_append_off s x t ho ht base v xs hs hown g1 u hx hnew hn hbase fun v' w' h2 h3 h4 => hK _ _ (h v' w' h2 h3 h4)

/-- A slice that is only read, in a block that none of F is: of these integers. -/
def SlI (w : World) (F : List Nat) (v : Value) (xs : List Int) : Prop :=
  ∃ a cap, v = .slice a xs.length cap ∧ xs.length ≤ cap ∧ cap ≤ 9223372036854775807 ∧ ∀ j u, xs[j]? = some u → ∃ g off, a = some ⟨g, off, none⟩ ∧ g < w.heap.size ∧ g ∉ F ∧ w.cell? ⟨g, off + j, none⟩ = some (.int .i64 u)
theorem SlI.tail {w : World} {F : List Nat} {v : Value} {x : Int} {xs : List Int} (h : SlI w F v (x :: xs)) : SlI w F (tailV v) xs := by
  obtain ⟨a, cap, rfl, h1, h2, h3⟩ := h
  obtain ⟨g, off, rfl, hg, hF, _⟩ := h3 0 x rfl
  simp only [List.length_cons] at h1 ⊢
  unfold tailV
  simp only [Nat.add_sub_cancel]
  refine ⟨_, _, rfl, by omega, by omega, fun j u hj => ?_⟩
  have hjl : j < xs.length := (List.getElem?_eq_some_iff.1 hj).1
  rw [if_neg (by omega)]
  obtain ⟨g2, off2, he, hg2, hF2, hc⟩ := h3 (j + 1) u (by simpa using hj)
  simp only [Option.some.injEq, Addr.mk.injEq, and_true] at he
  obtain ⟨rfl, rfl⟩ := he
  exact ⟨g, off + 1, by simp [Addr.add_lit], hg, hF, by rw [show off + 1 + j = off + (j + 1) by omega]; exact hc⟩
theorem SlI.of_lst {w : World} {F : List Nat} {lo : Nat} {v : Value} {xs : List Int} (h : LstAt w lo v xs.length (intsZ xs)) (hF : ∀ g, g ∈ F → g < lo) : SlI w F v xs := by
  obtain ⟨a, cap, rfl, h1, h2, h3⟩ := h.open
  refine ⟨a, cap, rfl, h2, h1, fun j u hj => ?_⟩
  have hjl : j < xs.length := (List.getElem?_eq_some_iff.1 hj).1
  obtain ⟨g, rfl, hlo, hg, hc⟩ := h3 (by omega)
  exact ⟨g, 0, rfl, hg, fun hm => by have := hF g hm; omega, by rw [Nat.zero_add]; exact hc j _ (by unfold intsZ; rw [List.getElem?_map, hj]; rfl)⟩
theorem SlI.upd {w w' : World} {F G : List Nat} {v : Value} {xs : List Int} (h : SlI w F v xs) (hu : Upd G w w') (hG : ∀ g, g ∈ G → g ∈ F) : SlI w' F v xs := by
  obtain ⟨a, cap, rfl, h1, h2, h3⟩ := h
  refine ⟨a, cap, rfl, h1, h2, fun j u hj => ?_⟩
  obtain ⟨g, off, rfl, hg, hF, hc⟩ := h3 j u hj
  exact ⟨g, off, rfl, Nat.lt_of_lt_of_le hg hu.size, hF, by rw [hu.cell hg (fun hm => hF (hG _ hm))]; exact hc⟩
end Go.Proofs.Ytdgohhkgmfjhaaa
