/-
  append of integers wherever they lie, as a step of a region that draws its order; how a row of counts stands. Conditions: those of each lemma.
-/
import Derived.Test.YtdgohhkgmfjhaaaFr3
set_option linter.unusedVariables false
set_option linter.unusedSimpArgs false
namespace Go.Proofs.Ytdgohhkgmfjhaaa
open Go Go.RowKit

theorem wp_append_sli {o : Oper} {a : Act} {w : World} {K : Act → World → Prop} {Q : Exit → Act → World → Prop} (s x : Operand) (t : TypeId)
    (ho : o.op = .call { callee := .builtin .append, args := #[s, x], argTypes := #[t, t] }) (ht : Try.prog.underlying t = some (.slice 3))
    (base : Nat) (v : Value) (n : Nat) (xs : List Value) (hs : a.eval s = v) (hown : w.ownsRow base 3 1 v n xs)
    (F : List Nat) (v2 : Value) (l : List Int) (hx : a.eval x = v2) (hl : SlI w F v2 l) (hn : n + l.length ≤ 1000000) (hbase : base ≤ w.heap.size)
    (h : ∀ v' w', w'.ownsRow base 3 1 v' (n + l.length) (xs ++ intsZ l) → Upd v.ownBlock.toList w w' → K (a.put o.dst v') w') : Oper.wp Try.prog o a w K Q := by
  obtain ⟨i, hi, hz0, hz1, hz2⟩ := info_parts intInfo
  obtain ⟨ax, c, rfl, h1, h2, h3⟩ := hl
  cases ax with
  | none =>
    have hl0 : l = [] := by
      cases l with
      | nil => rfl
      | cons y t => obtain ⟨g, off, he, _⟩ := h3 0 y rfl; cases he
    subst hl0
    have hr := run_append_none_c (P := Try.prog) base t o.type 3 i 1 ht hi v n xs hown c
    unfold Oper.wp execOp
    simp only [List.length_nil] at hx
    simp only [ho, resolve, invoke, builtin, Sem.run_bind, Sem.run_pure, Result.andThen_ok, List.map_toArray, List.map_cons, List.map_nil, hs, hx, hr]
    exact (h v w (by simpa [intsZ] using hown) (Upd.refl _ _))
  | some ad =>
    have hnews : ∀ j u, (intsZ l)[j]? = some u → w.cell? (ad.add j) = some u := fun j u hj => by
      unfold intsZ at hj
      rw [List.getElem?_map] at hj
      cases hq : l[j]? with
      | none => rw [hq] at hj; cases hj
      | some y =>
        rw [hq] at hj
        simp at hj
        subst hj
        obtain ⟨g, off, he, _, _, hc⟩ := h3 j y hq
        cases he
        rw [Addr.add_lit]; exact hc
    exact wp_append_own w s x t ho base 3 i (.int .i64 0) 1 8 ht hi hz0 hz1 hz2 rfl (by decide) v n xs hs hown ad l.length c (intsZ l) hx (by rw [intsZ_len, Nat.mul_one]) hnews (intsZ_one l) (by unfold maxLen; omega) (by omega) hbase (fun v' w' h2 h3 _ => h v' w' h2 ((Upd.refl _ _).grown h3 (fun k hk => Or.inl (by simp [hk]))))
theorem step_append_sli {ops : Array Oper} {o : Oper} {a : Act} {w : World} {K : Act → World → Prop} {Q : Exit → Act → World → Prop} {E : Prop} (hgd : o.guard = none) (s x : Operand) (t : TypeId)
    (ho : o.op = .call { callee := .builtin .append, args := #[s, x], argTypes := #[t, t] }) (ht : Try.prog.underlying t = some (.slice 3))
    (base : Nat) (v : Value) (n : Nat) (xs : List Value) (hs : a.eval s = v) (hown : w.ownsRow base 3 1 v n xs)
    (F : List Nat) (v2 : Value) (l : List Int) (hx : a.eval x = v2) (hl : SlI w F v2 l) (hn : n + l.length ≤ 1000000) (hbase : base ≤ w.heap.size)
    (h : ∀ v' w', w'.ownsRow base 3 1 v' (n + l.length) (xs ++ intsZ l) → Upd v.ownBlock.toList w w' → K (a.put o.dst v') w') :
    if Region.wanted o (yielded ops a.tmps) = true then Oper.wp Try.prog o a w K Q else E := by
  have hw : Region.wanted o (yielded ops a.tmps) = true := by simp [Region.wanted, hgd]
  rw [if_pos hw]
  exact wp_append_sli s x t ho ht base v n xs hs hown F v2 l hx hl hn hbase h

/-- How often each thing is in one list, less how often it is in another one. -/
def cntV (T M : List Int) (j : Nat) : Value := .int .i64 ((T.count (j : Int) : Int) - (M.count (j : Int) : Int))
theorem cnt_add (T : List Int) (y : Nat) (j : Nat) : (if j = y then Value.int .i64 ((T.count (y : Int) : Int) - (([] : List Int).count (y : Int) : Int) + 1) else cntV T [] j) = cntV (T ++ [(y : Int)]) [] j := by
  unfold cntV
  by_cases h : j = y
  · subst h
    simp [List.count_append]
  · rw [if_neg h]
    have : ((y : Int) == (j : Int)) = false := by simp; omega
    simp [List.count_append, List.count_cons, this]
theorem cnt_sub (T M : List Int) (y : Nat) (j : Nat) : (if j = y then Value.int .i64 ((T.count (y : Int) : Int) - (M.count (y : Int) : Int) - 1) else cntV T M j) = cntV T (M ++ [(y : Int)]) j := by
  unfold cntV
  by_cases h : j = y
  · subst h
    simp [List.count_append]
    omega
  · rw [if_neg h]
    have : ((y : Int) == (j : Int)) = false := by simp; omega
    simp [List.count_append, List.count_cons, this]
theorem cnt_bd (T M : List Int) (y : Nat) : ∃ c : Int, cntV T M y = .int .i64 c ∧ -(M.length : Int) ≤ c ∧ c ≤ T.length ∧ c = (T.count (y : Int) : Int) - (M.count (y : Int) : Int) := by
  refine ⟨_, rfl, ?_, ?_, rfl⟩
  · have := List.count_le_length (a := (y : Int)) (l := M); omega
  · have := List.count_le_length (a := (y : Int)) (l := T); omega
theorem cnt_stepA (T : List Int) (y : Nat) (c : Int) (h : c = (T.count (y : Int) : Int) - (([] : List Int).count (y : Int) : Int)) (j : Nat) : (if j = y then Value.int .i64 (c + 1) else cntV T [] j) = cntV (T ++ [(y : Int)]) [] j := by
  rw [h]; exact cnt_add T y j
theorem cnt_stepB (T M : List Int) (y : Nat) (c : Int) (h : c = (T.count (y : Int) : Int) - (M.count (y : Int) : Int)) (j : Nat) : (if j = y then Value.int .i64 (c - 1) else cntV T M j) = cntV T (M ++ [(y : Int)]) j := by
  rw [h]; exact cnt_sub T M y j
theorem cnt_zero {T M : List Int} (h : M.Perm T) (j : Nat) : cntV T M j = .int .i64 0 := by
  unfold cntV
  rw [h.count_eq]
  congr 1
  omega
end Go.Proofs.Ytdgohhkgmfjhaaa
