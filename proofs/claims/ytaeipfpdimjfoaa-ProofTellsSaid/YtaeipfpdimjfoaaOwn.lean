/-
  Slices that a call makes and appends to, one element at a time: a law for the walk, and what becomes of the world. Conditions: those of each lemma.
-/
import Derived.Test.YtaeipfpdimjfoaaBase
set_option linter.unusedVariables false
set_option linter.unusedSimpArgs false
namespace Go.Proofs.Ytaeipfpdimjfoaa
open Go Go.RowKit

theorem owns_mono {w : World} {base base' size n : Nat} {e : TypeId} {v : Value} {xs : List Value} (h : w.ownsRow base e size v n xs) (hb : base' ≤ base) : w.ownsRow base' e size v n xs := by
  refine ⟨h.1, ?_⟩
  rcases h.2 with hn | ⟨g, cap, cur, rfl, hb', hg, rest⟩
  · exact Or.inl hn
  · exact Or.inr ⟨g, cap, cur, rfl, Nat.le_trans hb hb', hg, rest⟩

theorem newCell (W : World) (us : List Value) (e : TypeId) (j : Nat) (u : Value) (hj : us[j]? = some u) : (W.alloc (.cells us.toArray e)).cell? ((⟨W.heap.size, 0, none⟩ : Addr).add j) = some u := by
  have e1 : ((⟨W.heap.size, 0, none⟩ : Addr).add j) = ⟨W.heap.size, j, none⟩ := by
    unfold Addr.add; split
    · subst_vars; rfl
    · simp
  rw [e1]
  have e2 : (W.alloc (.cells us.toArray e)).heap[W.heap.size]? = some (.cells us.toArray e) := by
    show (W.heap.push _)[W.heap.size]? = _
    simp
  unfold World.cell?; simp only [e2]; simpa using hj

/-- append(s, x) of one element x, s a row of the call's own: the row goes on where it is, or a new one is made. -/
theorem wpList_append_sep {P : Program} {ops : Array Oper} {rest : List Oper} {o : Oper} {a : Act} {Q : Exit → Act → World → Prop} {W : World} (hgd : o.guard = none) (s x : Operand) (t : TypeId)
    (ho : o.op = .call { callee := .builtin .append, args := #[s, x], argTypes := #[t, t] })
    (base : Nat) (e : TypeId) (z : Value) (size bytes : Nat) (ht : P.underlying t = some (.slice e)) (hinfo : (P.info? e).map (fun i => (i.zero, i.size, i.bytes)) = some (some z, size, bytes))
    (hzs : z.cells.size = size) (hsz : 0 < size) (v : Value) (n : Nat) (xs : List Value) (hs : a.eval s = v) (hown : W.ownsRow base e size v n xs)
    (us : List Value) (hus : us.length = size) (h1 : ∀ u ∈ us, u.oneCell' = true) (hx : a.eval x = .slice (some ⟨W.heap.size, 0, none⟩) 1 1)
    (hn : n + 1 ≤ maxLen) (hbytes : (n + 1) * bytes ≤ 140737488355328) (hbase : base ≤ W.heap.size)
    (h : ∀ v' w', w'.ownsRow base e size v' (n + 1) (xs ++ us) → Upd v.ownBlock.toList W w' → (v'.ownBlock = v.ownBlock ∨ ∀ k, v'.ownBlock = some k → W.heap.size < k) → wpList P ops Q rest (a.put o.dst v') w') :
    wpList P ops Q (o :: rest) a (W.alloc (.cells us.toArray e)) := by
  obtain ⟨i, hi, hz0, hz1, hz2⟩ := info_parts hinfo
  have hcell := fun j u hj => newCell W us e j u hj
  rcases hown.2 with ⟨rfl, rfl⟩ | ⟨g, cap, cur, rfl, hbg, hg, hnc, hcm, hcs, htk⟩
  · have hxs : xs = [] := List.eq_nil_of_length_eq_zero (by rw [hown.1, Nat.zero_mul])
    subst hxs
    refine wpList_append_grows _ hgd s x t ho e i z size bytes ht hi hz0 hz1 hz2 hzs hsz none 0 0 [] hs (fun _ => ⟨rfl, rfl⟩) (by simp) (fun b hb => by cases hb) ⟨W.heap.size, 0, none⟩ 1 1 us hx (by omega) hcell h1 (by omega) hn hbytes ?_
    intro v' w' ho' hgr
    refine h v' w' (owns_mono ho' (by simp; omega)) (((Upd.refl _ _).alloc _).grown hgr (fun k hk => by cases hk)) (Or.inr fun k hk => ?_)
    have := (ho'.lt k hk).1
    simp at this; omega
  · have hown' := hown.alloc (.cells us.toArray e)
    by_cases hfit : n + 1 ≤ cap
    · refine wpList_append_fits _ hgd s x t ho base e i size ht hi hz1 g n cap xs hs hown' ⟨W.heap.size, 0, none⟩ 1 1 us hx (by omega) hcell h1 hfit ?_
      intro w' ho' hgr
      exact h _ w' ho' (((Upd.refl _ _).alloc _).grown hgr (fun k hk => Or.inl (by cases hk; simp [Value.ownBlock]))) (Or.inl rfl)
    · refine wpList_append_grows _ hgd s x t ho e i z size bytes ht hi hz0 hz1 hz2 hzs hsz (some ⟨g, 0, none⟩) n cap xs hs (fun hb => by cases hb) hown.1 (fun b hb j u hj => ?_) ⟨W.heap.size, 0, none⟩ 1 1 us hx (by omega) hcell h1 (by omega) hn hbytes ?_
      · cases hb
        exact hown'.cells rfl j u hj
      · intro v' w' ho' hgr
        refine h v' w' (owns_mono ho' (by simp; omega)) (((Upd.refl _ _).alloc _).grown hgr (fun k hk => by cases hk)) (Or.inr fun k hk => ?_)
        have := (ho'.lt k hk).1
        simp at this; omega

theorem wpList_append_one {P : Program} {ops : Array Oper} {rest : List Oper} {o : Oper} {a : Act} {Q : Exit → Act → World → Prop} {W : World} (hgd : o.guard = none) (s x : Operand) (t : TypeId)
    (ho : o.op = .call { callee := .builtin .append, args := #[s, x], argTypes := #[t, t] })
    (base : Nat) (e : TypeId) (z : Value) (size bytes : Nat) (ht : P.underlying t = some (.slice e)) (hinfo : (P.info? e).map (fun i => (i.zero, i.size, i.bytes)) = some (some z, size, bytes))
    (hzs : z.cells.size = size) (hsz : 0 < size) (v : Value) (n : Nat) (xs : List Value) (hs : a.eval s = v) (hown : W.ownsRow base e size v n xs)
    (us : List Value) (hus : us.length = size) (h1 : ∀ u ∈ us, u.oneCell' = true) (hx : a.eval x = .slice (some ⟨W.heap.size, 0, none⟩) 1 1)
    (hn : n + 1 ≤ maxLen) (hbytes : (n + 1) * bytes ≤ 140737488355328) (hbase : base ≤ W.heap.size)
    (h : ∀ v' w', w'.ownsRow base e size v' (n + 1) (xs ++ us) → Upd v.ownBlock.toList W w' → wpList P ops Q rest (a.put o.dst v') w') :
    wpList P ops Q (o :: rest) a (W.alloc (.cells us.toArray e)) :=
  wpList_append_sep hgd s x t ho base e z size bytes ht hinfo hzs hsz v n xs hs hown us hus h1 hx hn hbytes hbase (fun v' w' h1 h2 _ => h v' w' h1 h2)

theorem owns_upd {w w' : World} {S : List Nat} {base size n : Nat} {e : TypeId} {v : Value} {xs : List Value} (h : w.ownsRow base e size v n xs) (hu : Upd S w w') (hne : ∀ k, v.ownBlock = some k → k ∉ S) : w'.ownsRow base e size v n xs := by
  refine ⟨h.1, ?_⟩
  rcases h.2 with hn | ⟨g, cap, cur, rfl, hb, hg, rest⟩
  · exact Or.inl hn
  · have hlt := h.lt g rfl
    exact Or.inr ⟨g, cap, cur, rfl, hb, by rw [hu.block g hlt.2 (hne g rfl)]; exact hg, rest⟩

/-- What is written is of the call's own. -/
theorem Upd.own {w0 w w' : World} {S : List Nat} {base size n : Nat} {e : TypeId} {v : Value} {xs : List Value} (h : Upd S w0 w) (ho : w.ownsRow base e size v n xs) (hb : w0.heap.size ≤ base) (hu : Upd v.ownBlock.toList w w') : Upd S w0 w' :=
  h.joined hu (fun x hx => Or.inr (Nat.le_trans hb (ho.lt x (by simpa using hx)).1))

theorem own_shape {w : World} {base size n : Nat} {e : TypeId} {v : Value} {xs : List Value} (h : w.ownsRow base e size v n xs) (hn : 0 < n) :
    ∃ g cap, v = .slice (some ⟨g, 0, none⟩) n cap ∧ base ≤ g ∧ g < w.heap.size ∧ n ≤ cap ∧ cap ≤ 9223372036854775807 ∧ (∀ j u, xs[j]? = some u → w.cell? ⟨g, j, none⟩ = some u) ∧ ∀ j, w.frozen? ⟨g, j, none⟩ = false := by
  rcases h.2 with ⟨_, h0⟩ | ⟨g, cap, cur, rfl, hb, hg, hnc, hcm, _⟩
  · omega
  · refine ⟨g, cap, rfl, hb, (h.lt g rfl).2, hnc, by unfold maxLen at hcm; exact hcm, fun j u hj => ?_, fun j => h.frozenAt j⟩
    have hlt : j < xs.length := by
      rcases Nat.lt_or_ge j xs.length with h' | h'
      · exact h'
      · rw [List.getElem?_eq_none h'] at hj; cases hj
    rw [h.cellAt j (by rw [← h.1]; exact hlt)]; exact hj

/-- A slice literal: a row of the call's own. -/
theorem own_lit (W : World) (xs : List Value) (e : TypeId) (base size n : Nat) (hl : xs.length = n * size) (hb : base ≤ W.heap.size) (hn : n ≤ maxLen) :
    (W.alloc (.cells xs.toArray e)).ownsRow base e size (.slice (some ⟨W.heap.size, 0, none⟩) n n) n xs := by
  refine ⟨hl, Or.inr ⟨W.heap.size, n, xs.toArray, rfl, hb, ?_, Nat.le_refl _, hn, by simpa using hl, ?_⟩⟩
  · show (W.heap.push _)[W.heap.size]? = _; simp
  · rw [← hl]; simp
theorem own_lit_at (W : World) (g : Nat) (hg : g = W.heap.size) (xs : List Value) (e : TypeId) (base size n : Nat) (hl : xs.length = n * size) (hb : base ≤ W.heap.size) (hn : n ≤ maxLen) :
    (W.alloc (.cells xs.toArray e)).ownsRow base e size (.slice (some ⟨g, 0, none⟩) n n) n xs := by
  subst hg; exact own_lit W xs e base size n hl hb hn
theorem own_slice {w : World} {base size n : Nat} {e : TypeId} {v : Value} {xs : List Value} (h : w.ownsRow base e size v n xs) : ∃ a cap, v = .slice a n cap ∧ cap ≤ 9223372036854775807 := by
  rcases h.2 with ⟨rfl, rfl⟩ | ⟨g, cap, cur, rfl, _, _, _, hc, _⟩
  · exact ⟨none, 0, rfl, by omega⟩
  · exact ⟨_, cap, rfl, by unfold maxLen at hc; exact hc⟩
end Go.Proofs.Ytaeipfpdimjfoaa
