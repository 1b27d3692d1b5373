/-
  Slices that a call makes and appends to, one element at a time: a law for the walk, and what becomes of the world. Conditions: those of each lemma.
-/
import Derived.Test.YtdgfibcbnlkbpaaBase
set_option linter.unusedVariables false
set_option linter.unusedSimpArgs false
namespace Go.Proofs.Ytdgfibcbnlkbpaa
open Go Go.RowKit

theorem wpList_append_one {P : Program} {ops : Array Oper} {rest : List Oper} {o : Oper} {a : Act} {Q : Exit → Act → World → Prop} {W : World} (hgd : o.guard = none) (s x : Operand) (t : TypeId)
    (ho : o.op = .call { callee := .builtin .append, args := #[s, x], argTypes := #[t, t] })
    (base : Nat) (e : TypeId) (z : Value) (size bytes : Nat) (ht : P.underlying t = some (.slice e)) (hinfo : (P.info? e).map (fun i => (i.zero, i.size, i.bytes)) = some (some z, size, bytes))
    (hzs : z.cells.size = size) (hsz : 0 < size) (v : Value) (n : Nat) (xs : List Value) (hs : a.eval s = v) (hown : W.ownsRow base e size v n xs)
    (us : List Value) (hus : us.length = size) (h1 : ∀ u ∈ us, u.oneCell' = true) (hx : a.eval x = .slice (some ⟨W.heap.size, 0, none⟩) 1 1)
    (hn : n + 1 ≤ maxLen) (hbytes : (n + 1) * bytes ≤ 140737488355328) (hbase : base ≤ W.heap.size)
    (h : ∀ v' w', w'.ownsRow base e size v' (n + 1) (xs ++ us) → Upd v.ownBlock.toList W w' → wpList P ops Q rest (a.put o.dst v') w') :
    wpList P ops Q (o :: rest) a (W.alloc (.cells us.toArray e)) := by
  obtain ⟨i, hi, hz0, hz1, hz2⟩ := info_parts hinfo
  refine wpList_append_own _ hgd s x t ho base e i z size bytes ht hi hz0 hz1 hz2 hzs hsz v n xs hs (hown.alloc _) ⟨W.heap.size, 0, none⟩ 1 1 us hx (by omega) (fun j u hj => ?_) h1 hn hbytes (by simp; omega) ?_
  · have hj' : j < us.length := by
      rcases Nat.lt_or_ge j us.length with h' | h'
      · exact h'
      · rw [List.getElem?_eq_none h'] at hj; cases hj
    have e1 : ((⟨W.heap.size, 0, none⟩ : Addr).add j) = ⟨W.heap.size, j, none⟩ := by
      unfold Addr.add; split
      · subst_vars; rfl
      · simp
    rw [e1]
    have e2 : (W.alloc (.cells us.toArray e)).heap[W.heap.size]? = some (.cells us.toArray e) := by
      show (W.heap.push _)[W.heap.size]? = _
      simp
    unfold World.cell?; simp only [e2]; simpa using hj
  · intro v' w' ho' hg _
    exact h v' w' ho' (((Upd.refl _ _).alloc _).grown hg (fun k hk => Or.inl (by simp [hk])))

theorem owns_upd {w w' : World} {S : List Nat} {base size n : Nat} {e : TypeId} {v : Value} {xs : List Value} (h : w.ownsRow base e size v n xs) (hu : Upd S w w') (hne : ∀ k, v.ownBlock = some k → k ∉ S) : w'.ownsRow base e size v n xs := by
  refine ⟨h.1, ?_⟩
  rcases h.2 with hn | ⟨g, cap, cur, rfl, hb, hg, rest⟩
  · exact Or.inl hn
  · have hlt := h.lt g rfl
    exact Or.inr ⟨g, cap, cur, rfl, hb, by rw [hu.block g hlt.2 (hne g rfl)]; exact hg, rest⟩

/-- What is written is of the call's own. -/
theorem Upd.own {w0 w w' : World} {S : List Nat} {base size n : Nat} {e : TypeId} {v : Value} {xs : List Value} (h : Upd S w0 w) (ho : w.ownsRow base e size v n xs) (hb : w0.heap.size ≤ base) (hu : Upd v.ownBlock.toList w w') : Upd S w0 w' :=
  h.joined hu (fun x hx => Or.inr (Nat.le_trans hb (ho.lt x (by simpa using hx)).1))

theorem own_shape {w : World} {base size n : Nat} {e : TypeId} {v : Value} {xs : List Value} (h : w.ownsRow base e size v n xs) (hn : 0 < n) :
    ∃ g cap, v = .slice (some ⟨g, 0, none⟩) n cap ∧ base ≤ g ∧ g < w.heap.size ∧ n ≤ cap ∧ cap ≤ 9223372036854775807 ∧ (∀ j u, xs[j]? = some u → w.cell? ⟨g, j, none⟩ = some u) ∧ ∀ j, w.frozen? ⟨g, j, none⟩ = false := by
  rcases h.2 with ⟨_, h0⟩ | ⟨g, cap, cur, rfl, hb, hg, hnc, hcm, _⟩
  · omega
  · refine ⟨g, cap, rfl, hb, (h.lt g rfl).2, hnc, by unfold maxLen at hcm; exact hcm, fun j u hj => ?_, fun j => h.frozenAt j⟩
    have hlt : j < xs.length := by
      rcases Nat.lt_or_ge j xs.length with h' | h'
      · exact h'
      · rw [List.getElem?_eq_none h'] at hj; cases hj
    rw [h.cellAt j (by rw [← h.1]; exact hlt)]; exact hj

end Go.Proofs.Ytdgfibcbnlkbpaa
