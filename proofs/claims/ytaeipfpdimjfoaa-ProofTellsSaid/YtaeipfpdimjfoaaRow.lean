/-
  A block of cells that is known whole: what its cells hold, as a function of the place; what stores, new blocks and calls do to it. Conditions: those of each lemma.
-/
import Derived.Test.YtaeipfpdimjfoaaOwn
set_option linter.unusedVariables false
set_option linter.unusedSimpArgs false
namespace Go.Proofs.Ytaeipfpdimjfoaa
open Go Go.RowKit

/-- Block b is a row of m cells of type e, none of them frozen; cell j holds f j. -/
def RowAt (w : World) (b : Nat) (e : TypeId) (m : Nat) (f : Nat → Value) : Prop :=
  ∃ arr : Array Value, w.heap[b]? = some (.cells arr e (0, 0)) ∧ arr.size = m ∧ ∀ j, j < m → arr[j]? = some (f j)
theorem RowAt.lt {w : World} {b m : Nat} {e : TypeId} {f : Nat → Value} (h : RowAt w b e m f) : b < w.heap.size := by
  obtain ⟨arr, h1, _⟩ := h
  rcases Nat.lt_or_ge b w.heap.size with h' | h'
  · exact h'
  · rw [Array.getElem?_eq_none h'] at h1; cases h1
theorem RowAt.cell {w : World} {b m : Nat} {e : TypeId} {f : Nat → Value} (h : RowAt w b e m f) (j : Nat) (hj : j < m) : w.cell? ⟨b, j, none⟩ = some (f j) := by
  obtain ⟨arr, h1, h2, h3⟩ := h
  unfold World.cell?; simp only [h1]; simpa using h3 j hj
theorem RowAt.cellAt {w : World} {b m : Nat} {e : TypeId} {f : Nat → Value} {v : Value} (h : RowAt w b e m f) (j : Nat) (hj : j < m) (hv : f j = v) : w.cell? ⟨b, j, none⟩ = some v := by rw [← hv]; exact h.cell j hj
theorem RowAt.free {w : World} {b m : Nat} {e : TypeId} {f : Nat → Value} (h : RowAt w b e m f) (j : Nat) : w.frozen? ⟨b, j, none⟩ = false := by
  obtain ⟨arr, h1, h2, h3⟩ := h
  simp [World.frozen?, h1]
theorem RowAt.same {w w' : World} {b m : Nat} {e : TypeId} {f : Nat → Value} (h : RowAt w b e m f) (hb : w'.heap[b]? = w.heap[b]?) : RowAt w' b e m f := by
  obtain ⟨arr, h1, h2, h3⟩ := h
  exact ⟨arr, hb.trans h1, h2, h3⟩
theorem RowAt.upd {w w' : World} {S : List Nat} {b m : Nat} {e : TypeId} {f : Nat → Value} (h : RowAt w b e m f) (hu : Upd S w w') (hn : b ∉ S) : RowAt w' b e m f := h.same (hu.block b h.lt hn)
theorem RowAt.ext {w : World} {b m : Nat} {e : TypeId} {f g : Nat → Value} (h : RowAt w b e m f) (hg : ∀ j, j < m → f j = g j) : RowAt w b e m g := by
  obtain ⟨arr, h1, h2, h3⟩ := h
  exact ⟨arr, h1, h2, fun j hj => by rw [h3 j hj, hg j hj]⟩
theorem RowAt.set {w : World} {b m : Nat} {e : TypeId} {f : Nat → Value} (h : RowAt w b e m f) (j : Nat) (v : Value) :
    RowAt (w.setCell ⟨b, j, none⟩ v) b e m (fun i => if i = j then v else f i) := by
  obtain ⟨arr, h1, h2, h3⟩ := h
  refine ⟨arr.setIfInBounds j v, ?_, by simp [h2], fun i hi => ?_⟩
  · simp [World.setCell, Array.getElem?_modify, h1]
  · rw [Array.getElem?_setIfInBounds]
    by_cases hij : j = i
    · subst hij; simp [h2, hi]
    · rw [if_neg hij]; show _ = some (if i = j then v else f i); rw [if_neg (fun e => hij e.symm)]; exact h3 i hi
theorem RowAt.far {w : World} {b m : Nat} {e : TypeId} {f : Nat → Value} (h : RowAt w b e m f) (a : Addr) (v : Value) (hn : b ≠ a.block) : RowAt (w.setCell a v) b e m f :=
  h.same (Below.heap_setCell _ _ _ _ hn)
theorem RowAt.drew {w : World} {b m : Nat} {e : TypeId} {f : Nat → Value} (h : RowAt w b e m f) : RowAt w.drew b e m f := h
theorem RowAt.drewN {w : World} {b m : Nat} {e : TypeId} {f : Nat → Value} (h : RowAt w b e m f) (n : Nat) : RowAt (w.drewN n) b e m f := h
theorem RowAt.alloc {w : World} {b m : Nat} {e : TypeId} {f : Nat → Value} (h : RowAt w b e m f) (o : Obj) : RowAt (w.alloc o) b e m f := h.same (Below.heap_alloc _ _ _ h.lt)
theorem rowAt_new (w : World) (l : List Value) (e : TypeId) : RowAt (w.alloc (.cells l.toArray e)) w.heap.size e l.length (fun j => l.getD j undef) := by
  refine ⟨l.toArray, ?_, by simp, fun j hj => ?_⟩
  · show (w.heap.push _)[w.heap.size]? = _; simp
  · simp [hj, List.getD_eq_getElem?_getD]
theorem rowAt_owns {w : World} {base size n cap g : Nat} {e : TypeId} {xs : List Value} (h : w.ownsRow base e size (.slice (some ⟨g, 0, none⟩) n cap) n xs) (hcap : cap = n) (hn : n = 0 → xs = []) :
    RowAt w g e (n * size) (fun j => xs.getD j undef) := by
  subst hcap
  rcases h.2 with ⟨h1, h0⟩ | ⟨g', cap', cur, h1, _, hg, _, _, hs, ht⟩
  · cases h1
  · simp only [Value.slice.injEq, Option.some.injEq, Addr.mk.injEq, and_true, true_and] at h1
    obtain ⟨rfl, rfl⟩ := h1
    refine ⟨cur, hg, hs, fun j hj => ?_⟩
    have e1 : cur.toList = xs := by rw [← ht, List.take_of_length_le (by simp [hs])]
    rw [← e1]
    have hj' : j < cur.toList.length := by simp [hs]; exact hj
    simp [List.getD_eq_getElem?_getD]
    rw [Array.getElem?_eq_getElem (by simpa using hj')]; rfl
/-- make([]T, n) of a variable n: a new row of zero values. -/
theorem wpList_make_row {P : Program} {w : World} {ops : Array Oper} {rest : List Oper} {o : Oper} {a : Act} {Q : Exit → Act → World → Prop}
    (hg : o.guard = none) (l : Operand) (t : TypeId) (hop : o.op = Op.makeSlice t l l) (e : TypeId) (z : Value) (size bytes : Nat) (h1 : P.underlying t = some (.slice e))
    (hinfo : (P.info? e).map (fun i => (i.zero, i.size, i.bytes)) = some (some z, size, bytes)) (n : Nat) (hl : a.eval l = .int .i64 (n : Int)) (b2 : bytes * n ≤ 281474976710656) (b3 : n ≤ maxLen)
    (hK : ∀ w', RowAt w' w.heap.size e (n * size) (fun j => (madeCells z.cells (n * size)).toList.getD j undef) → Upd [] w w' → wpList P ops Q rest (a.put o.dst (.slice (some ⟨w.heap.size, 0, none⟩) n n)) w') :
    wpList P ops Q (o :: rest) a w := by
  obtain ⟨i, hi, hz0, hz1, hz2⟩ := info_parts hinfo
  exact wpList_make_full w hg l l t hop w.heap.size e i z size h1 hi hz0 hz1 .i64 .i64 n n n hl hl rfl rfl (by rw [hz2]; exact b2) b3 (Nat.le_refl _) (fun w' ho hgr =>
    hK w' (rowAt_owns ho rfl (fun h0 => List.eq_nil_of_length_eq_zero (by rw [ho.1, h0, Nat.zero_mul]))) ((Upd.refl [] w).grown hgr (fun k hk => by cases hk)))
/-- A slice value, nil or the head of a row from block lo on, of n elements whose cells are xs. -/
def LstAt (w : World) (lo : Nat) (v : Value) (n : Nat) (xs : List Value) : Prop :=
  (v = .slice none 0 0 ∧ n = 0 ∧ xs = []) ∨
  ∃ g cap, v = .slice (some ⟨g, 0, none⟩) n cap ∧ n ≤ cap ∧ cap ≤ 9223372036854775807 ∧ lo ≤ g ∧ g < w.heap.size ∧ ∀ j u, xs[j]? = some u → w.cell? ⟨g, j, none⟩ = some u
theorem LstAt.open {w : World} {lo n : Nat} {v : Value} {xs : List Value} (h : LstAt w lo v n xs) :
    ∃ a cap, v = .slice a n cap ∧ cap ≤ 9223372036854775807 ∧ n ≤ cap ∧ (0 < n → ∃ g, a = some ⟨g, 0, none⟩ ∧ lo ≤ g ∧ g < w.heap.size ∧ ∀ j u, xs[j]? = some u → w.cell? ⟨g, j, none⟩ = some u) := by
  rcases h with ⟨rfl, rfl, rfl⟩ | ⟨g, cap, rfl, h1, h2, h3⟩
  · exact ⟨none, 0, rfl, by omega, by omega, fun h => by omega⟩
  · exact ⟨_, cap, rfl, h2, h1, fun _ => ⟨g, rfl, h3⟩⟩
theorem LstAt.of_owns {w : World} {base size n : Nat} {e : TypeId} {v : Value} {xs : List Value} (h : w.ownsRow base e size v n xs) : LstAt w base v n xs := by
  rcases h.2 with ⟨rfl, rfl⟩ | ⟨g, cap, cur, rfl, hb, hg, hn, hc, _⟩
  · exact Or.inl ⟨rfl, rfl, List.eq_nil_of_length_eq_zero (by rw [h.1, Nat.zero_mul])⟩
  · refine Or.inr ⟨g, cap, rfl, hn, by unfold maxLen at hc; exact hc, hb, (h.lt g rfl).2, fun j u hj => ?_⟩
    have hlt : j < xs.length := by
      rcases Nat.lt_or_ge j xs.length with h' | h'
      · exact h'
      · rw [List.getElem?_eq_none h'] at hj; cases hj
    rw [h.cellAt j (by rw [← h.1]; exact hlt)]; exact hj
theorem LstAt.upd {w w' : World} {S : List Nat} {lo n : Nat} {v : Value} {xs : List Value} (h : LstAt w lo v n xs) (hu : Upd S w w') (hS : ∀ k, k ∈ S → k < lo ∨ w.heap.size ≤ k) : LstAt w' lo v n xs := by
  rcases h with h | ⟨g, cap, rfl, h1, h2, h3, h4, h5⟩
  · exact Or.inl h
  · exact Or.inr ⟨g, cap, rfl, h1, h2, h3, Nat.lt_of_lt_of_le h4 hu.size, fun j u hj => by rw [hu.cell h4 (fun hm => by rcases hS _ hm with h' | h' <;> simp at * <;> omega)]; exact h5 j u hj⟩
theorem LstAt.mono {w : World} {lo lo' n : Nat} {v : Value} {xs : List Value} (h : LstAt w lo v n xs) (hl : lo' ≤ lo) : LstAt w lo' v n xs := by
  rcases h with h | ⟨g, cap, rfl, h1, h2, h3, h4⟩
  · exact Or.inl h
  · exact Or.inr ⟨g, cap, rfl, h1, h2, Nat.le_trans hl h3, h4⟩

/-- append(s, x...) of a whole slice x to a row of the call's own. -/
theorem wp_append_lst {P : Program} {o : Oper} {a : Act} {w : World} {K : Act → World → Prop} {Q : Exit → Act → World → Prop} (s x : Operand) (t : TypeId)
    (ho : o.op = .call { callee := .builtin .append, args := #[s, x], argTypes := #[t, t] })
    (base : Nat) (e : TypeId) (z : Value) (size bytes : Nat) (ht : P.underlying t = some (.slice e)) (hinfo : (P.info? e).map (fun i => (i.zero, i.size, i.bytes)) = some (some z, size, bytes))
    (hzs : z.cells.size = size) (hsz : 0 < size) (v : Value) (n : Nat) (xs : List Value) (hs : a.eval s = v) (hown : w.ownsRow base e size v n xs)
    (lo m : Nat) (news : List Value) (v2 : Value) (hx : a.eval x = v2) (hl : LstAt w lo v2 m news) (hlen : news.length = m * size) (h1 : ∀ u ∈ news, u.oneCell' = true)
    (hn : n + m ≤ maxLen) (hbytes : (n + m) * bytes ≤ 140737488355328) (hbase : base ≤ w.heap.size)
    (h : ∀ v' w', w'.ownsRow base e size v' (n + m) (xs ++ news) → Upd v.ownBlock.toList w w' → K (a.put o.dst v') w') : o.wp P a w K Q := by
  obtain ⟨i, hi, hz0, hz1, hz2⟩ := info_parts hinfo
  rcases hl with ⟨rfl, rfl, rfl⟩ | ⟨g, cap, rfl, h2, h3, h4, h5, h6⟩
  · have hrun := run_append_owned_none (P := P) (w := w) base t o.type e i size ht hi v n xs hown
    unfold Oper.wp
    simp [execOp, ho, resolve, invoke, builtin, hs, hx, hrun, Result.andThen]
    exact h v w (by simpa using hown) (Upd.refl _ _)
  · refine wp_append_own w s x t ho base e i z size bytes ht hi hz0 hz1 hz2 hzs hsz v n xs hs hown ⟨g, 0, none⟩ m cap news hx hlen (fun j u hj => ?_) h1 hn hbytes hbase (fun v' w' h1 h2 _ => h v' w' h1 ((Upd.refl _ _).grown h2 (fun k hk => Or.inl (by simp [hk]))))
    have e1 : ((⟨g, 0, none⟩ : Addr).add j) = ⟨g, j, none⟩ := by
      unfold Addr.add; split
      · subst_vars; rfl
      · simp
    rw [e1]; exact h6 j u hj
theorem wpList_append_lst {P : Program} {ops : Array Oper} {rest : List Oper} {o : Oper} {a : Act} {w : World} {Q : Exit → Act → World → Prop} (hgd : o.guard = none) (s x : Operand) (t : TypeId)
    (ho : o.op = .call { callee := .builtin .append, args := #[s, x], argTypes := #[t, t] })
    (base : Nat) (e : TypeId) (z : Value) (size bytes : Nat) (ht : P.underlying t = some (.slice e)) (hinfo : (P.info? e).map (fun i => (i.zero, i.size, i.bytes)) = some (some z, size, bytes))
    (hzs : z.cells.size = size) (hsz : 0 < size) (v : Value) (n : Nat) (xs : List Value) (hs : a.eval s = v) (hown : w.ownsRow base e size v n xs)
    (lo m : Nat) (news : List Value) (v2 : Value) (hx : a.eval x = v2) (hl : LstAt w lo v2 m news) (hlen : news.length = m * size) (h1 : ∀ u ∈ news, u.oneCell' = true)
    (hn : n + m ≤ maxLen) (hbytes : (n + m) * bytes ≤ 140737488355328) (hbase : base ≤ w.heap.size)
    (h : ∀ v' w', w'.ownsRow base e size v' (n + m) (xs ++ news) → Upd v.ownBlock.toList w w' → wpList P ops Q rest (a.put o.dst v') w') : wpList P ops Q (o :: rest) a w :=
  wpList_plain hgd fun _ hK => wp_append_lst s x t ho base e z size bytes ht hinfo hzs hsz v n xs hs hown lo m news v2 hx hl hlen h1 hn hbytes hbase fun v' w' h2 h3 => hK _ _ (h v' w' h2 h3)
theorem below_of_own {w w' : World} {base size n : Nat} {e : TypeId} {v : Value} {xs : List Value} (ho : w.ownsRow base e size v n xs) (hb : base ≤ w.heap.size) (hu : Upd v.ownBlock.toList w w') : Below base w w' :=
  ⟨hu.os, hu.tape, hu.output, hu.size, fun k hk => hu.block k (Nat.lt_of_lt_of_le hk hb) (fun hm => by have := (ho.lt k (by simpa using hm)).1; omega)⟩
theorem Upd.over {w0 w w' : World} {S : List Nat} {base : Nat} (h : Upd S w0 w) (hb : Below base w w') (hw : w0.heap.size ≤ base) : Upd S w0 w' :=
  ⟨hb.os.trans h.os, hb.tape.trans h.tape, hb.output.trans h.output, Nat.le_trans h.size hb.size, fun k hk hn => (hb.block k (by omega)).trans (h.block k hk hn)⟩
theorem step_append_lst {P : Program} {ops : Array Oper} {o : Oper} {a : Act} {w : World} {K : Act → World → Prop} {Q : Exit → Act → World → Prop} {E : Prop} (hgd : o.guard = none) (s x : Operand) (t : TypeId)
    (ho : o.op = .call { callee := .builtin .append, args := #[s, x], argTypes := #[t, t] })
    (base : Nat) (e : TypeId) (z : Value) (size bytes : Nat) (ht : P.underlying t = some (.slice e)) (hinfo : (P.info? e).map (fun i => (i.zero, i.size, i.bytes)) = some (some z, size, bytes))
    (hzs : z.cells.size = size) (hsz : 0 < size) (v : Value) (n : Nat) (xs : List Value) (hs : a.eval s = v) (hown : w.ownsRow base e size v n xs)
    (lo m : Nat) (news : List Value) (v2 : Value) (hx : a.eval x = v2) (hl : LstAt w lo v2 m news) (hlen : news.length = m * size) (h1 : ∀ u ∈ news, u.oneCell' = true)
    (hn : n + m ≤ maxLen) (hbytes : (n + m) * bytes ≤ 140737488355328) (hbase : base ≤ w.heap.size)
    (h : ∀ v' w', w'.ownsRow base e size v' (n + m) (xs ++ news) → Upd v.ownBlock.toList w w' → Below base w w' → K (a.put o.dst v') w') :
    if Region.wanted o (yielded ops a.tmps) = true then Oper.wp P o a w K Q else E := by
  have hw : Region.wanted o (yielded ops a.tmps) = true := by simp [Region.wanted, hgd]
  rw [if_pos hw]
  exact wp_append_lst s x t ho base e z size bytes ht hinfo hzs hsz v n xs hs hown lo m news v2 hx hl hlen h1 hn hbytes hbase (fun v' w' h2 h3 => h v' w' h2 h3 (below_of_own hown hbase h3))
/-- Block b is a row of m cells, whatever they hold. -/
def HasRow (w : World) (b : Nat) (e : TypeId) (m : Nat) : Prop := ∃ f, RowAt w b e m f
def cv (w : World) (a : Addr) : Value := (w.cell? a).getD undef
theorem HasRow.cell {w : World} {b m : Nat} {e : TypeId} (h : HasRow w b e m) (j : Nat) (hj : j < m) : w.cell? ⟨b, j, none⟩ = some (cv w ⟨b, j, none⟩) := by
  obtain ⟨f, h⟩ := h
  unfold cv
  rw [h.cell j hj]; rfl
theorem HasRow.free {w : World} {b m : Nat} {e : TypeId} (h : HasRow w b e m) (j : Nat) : w.frozen? ⟨b, j, none⟩ = false := by
  obtain ⟨f, h⟩ := h
  exact h.free j
theorem HasRow.upd {w w' : World} {S : List Nat} {b m : Nat} {e : TypeId} (h : HasRow w b e m) (hu : Upd S w w') (hn : b ∉ S) : HasRow w' b e m := by
  obtain ⟨f, h⟩ := h
  exact ⟨f, h.upd hu hn⟩
theorem HasRow.set {w : World} {b m : Nat} {e : TypeId} (h : HasRow w b e m) (j : Nat) (v : Value) : HasRow (w.setCell ⟨b, j, none⟩ v) b e m := by
  obtain ⟨f, h⟩ := h
  exact ⟨_, h.set j v⟩
theorem hasRow_new (w : World) (l : List Value) (e : TypeId) : HasRow (w.alloc (.cells l.toArray e)) w.heap.size e l.length := ⟨_, rowAt_new w l e⟩
theorem HasRow.over {w w' : World} {b m base : Nat} {e : TypeId} (h : HasRow w b e m) (hb : Below base w w') (hk : b < base) : HasRow w' b e m := by
  obtain ⟨f, h⟩ := h
  exact ⟨f, h.same (hb.block b hk)⟩
end Go.Proofs.Ytaeipfpdimjfoaa
