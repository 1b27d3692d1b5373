/-
  Lemmas for PathWays: Row, Append, Ints, Ent. Conditions: those of each lemma.
-/
import Derived.WalkKit
import Derived.WalkSpells
import Derived.WalkLawsBesides
import Derived.BigQuiet
import Derived.Deep.RegionHeld3
import Derived.ProofKit
import Derived.OpenShut
import Derived.Lib.Hide
import Derived.Maps.AppendAt
import Derived.Test.YtklibcncmbofpaaGreatProg
import Derived.Test.YtklibcncmbofpaaGreatP01
import Derived.Test.YtklibcncmbofpaaGreatP03
set_option linter.unusedVariables false
set_option linter.unusedSimpArgs false
namespace Go.Proofs.YtklibcncmbofpaaGreat
open Go Go.RowKit
def RowAt (w : World) (b : Nat) (e : TypeId) (m : Nat) (f : Nat → Value) : Prop :=
 ∃ arr : Array Value, w.heap[b]? = some (.cells arr e (0, 0)) ∧ arr.size = m ∧ ∀ j, j < m → arr[j]? = some (f j)
theorem RowAt.lt {w : World} {b m : Nat} {e : TypeId} {f : Nat → Value} (h : RowAt w b e m f) : b < w.heap.size := by
 obtain ⟨arr, h1, _⟩ := h
 rcases Nat.lt_or_ge b w.heap.size with h' | h'
 ·exact h'
 ·rw [Array.getElem?_eq_none h'] at h1; cases h1
theorem RowAt.cell {w : World} {b m : Nat} {e : TypeId} {f : Nat → Value} (h : RowAt w b e m f) (j : Nat) (hj : j < m) : w.cell? ⟨b, j, none⟩ = some (f j) := by
 obtain ⟨arr, h1, h2, h3⟩ := h
 unfold World.cell?; simp only [h1]; simpa using h3 j hj
theorem RowAt.cellAt {w : World} {b m : Nat} {e : TypeId} {f : Nat → Value} {v : Value} (h : RowAt w b e m f) (j : Nat) (hj : j < m) (hv : f j = v) : w.cell? ⟨b, j, none⟩ = some v := by rw [← hv]; exact h.cell j hj
theorem RowAt.free {w : World} {b m : Nat} {e : TypeId} {f : Nat → Value} (h : RowAt w b e m f) (j : Nat) : w.frozen? ⟨b, j, none⟩ = false := by
 obtain ⟨arr, h1, h2, h3⟩ := h
 simp [World.frozen?, h1]
theorem RowAt.same {w w' : World} {b m : Nat} {e : TypeId} {f : Nat → Value} (h : RowAt w b e m f) (hb : w'.heap[b]? = w.heap[b]?) : RowAt w' b e m f := by
 obtain ⟨arr, h1, h2, h3⟩ := h
 exact ⟨arr, hb.trans h1, h2, h3⟩
theorem RowAt.upd {w w' : World} {S : List Nat} {b m : Nat} {e : TypeId} {f : Nat → Value} (h : RowAt w b e m f) (hu : Upd S w w') (hn : b ∉ S) : RowAt w' b e m f := h.same (hu.block b h.lt hn)
theorem RowAt.ext {w : World} {b m : Nat} {e : TypeId} {f g : Nat → Value} (h : RowAt w b e m f) (hg : ∀ j, j < m → f j = g j) : RowAt w b e m g := by
 obtain ⟨arr, h1, h2, h3⟩ := h
 exact ⟨arr, h1, h2, fun j hj => by rw [h3 j hj, hg j hj]⟩
theorem RowAt.set {w : World} {b m : Nat} {e : TypeId} {f : Nat → Value} (h : RowAt w b e m f) (j : Nat) (v : Value) :
  RowAt (w.setCell ⟨b, j, none⟩ v) b e m (fun i => if i = j then v else f i) := by
 obtain ⟨arr, h1, h2, h3⟩ := h
 refine ⟨arr.setIfInBounds j v, ?_, by simp [h2], fun i hi => ?_⟩
 ·simp [World.setCell, Array.getElem?_modify, h1]
 ·rw [Array.getElem?_setIfInBounds]
  by_cases hij : j = i
  ·subst hij; simp [h2, hi]
  ·rw [if_neg hij]; show _ = some (if i = j then v else f i); rw [if_neg (fun e => hij e.symm)]; exact h3 i hi
theorem RowAt.far {w : World} {b m : Nat} {e : TypeId} {f : Nat → Value} (h : RowAt w b e m f) (a : Addr) (v : Value) (hn : b ≠ a.block) : RowAt (w.setCell a v) b e m f :=
 h.same (Below.heap_setCell _ _ _ _ hn)
theorem RowAt.alloc {w : World} {b m : Nat} {e : TypeId} {f : Nat → Value} (h : RowAt w b e m f) (o : Obj) : RowAt (w.alloc o) b e m f := h.same (Below.heap_alloc _ _ _ h.lt)
theorem rowAt_new (w : World) (l : List Value) (e : TypeId) : RowAt (w.alloc (.cells l.toArray e)) w.heap.size e l.length (fun j => l.getD j undef) := by
 refine ⟨l.toArray, ?_, by simp, fun j hj => ?_⟩
 ·show (w.heap.push _)[w.heap.size]? = _; simp
 ·simp [hj, List.getD_eq_getElem?_getD]
theorem rowAt_owns {w : World} {base size n cap g : Nat} {e : TypeId} {xs : List Value} (h : w.ownsRow base e size (.slice (some ⟨g, 0, none⟩) n cap) n xs) (hcap : cap = n) (hn : n = 0 → xs = []) :
  RowAt w g e (n * size) (fun j => xs.getD j undef) := by
 subst hcap
 rcases h.2 with ⟨h1, h0⟩ | ⟨g', cap', cur, h1, _, hg, _, _, hs, ht⟩
 ·cases h1
 ·simp only [Value.slice.injEq, Option.some.injEq, Addr.mk.injEq, and_true, true_and] at h1
  obtain ⟨rfl, rfl⟩ := h1
  refine ⟨cur, hg, hs, fun j hj => ?_⟩
  have e1 : cur.toList = xs := by rw [← ht, List.take_of_length_le (by simp [hs])]
  rw [← e1]
  have hj' : j < cur.toList.length := by simp [hs]; exact hj
  simp [List.getD_eq_getElem?_getD]
  rw [Array.getElem?_eq_getElem (by simpa using hj')]; rfl
theorem wpList_make_row {P : Program} {w : World} {ops : Array Oper} {rest : List Oper} {o : Oper} {a : Act} {Q : Exit → Act → World → Prop}
  (hg : o.guard = none) (l : Operand) (t : TypeId) (hop : o.op = Op.makeSlice t l l) (e : TypeId) (z : Value) (size bytes : Nat) (h1 : P.underlying t = some (.slice e))
  (hinfo : (P.info? e).map (fun i => (i.zero, i.size, i.bytes)) = some (some z, size, bytes)) (n : Nat) (hl : a.eval l = .int .i64 (n : Int)) (b2 : bytes * n ≤ 281474976710656) (b3 : n ≤ maxLen)
  (hK : ∀ w', RowAt w' w.heap.size e (n * size) (fun j => (madeCells z.cells (n * size)).toList.getD j undef) → Upd [] w w' → wpList P ops Q rest (a.put o.dst (.slice (some ⟨w.heap.size, 0, none⟩) n n)) w') :
  wpList P ops Q (o :: rest) a w := by
 obtain ⟨i, hi, hz0, hz1, hz2⟩ := info_parts hinfo
 exact wpList_make_full w hg l l t hop w.heap.size e i z size h1 hi hz0 hz1 .i64 .i64 n n n hl hl rfl rfl (by rw [hz2]; exact b2) b3 (Nat.le_refl _) (fun w' ho hgr =>
  hK w' (rowAt_owns ho rfl (fun h0 => List.eq_nil_of_length_eq_zero (by rw [ho.1, h0, Nat.zero_mul]))) ((Upd.refl [] w).grown hgr (fun k hk => by cases hk)))
def LstAt (w : World) (lo : Nat) (v : Value) (n : Nat) (xs : List Value) : Prop :=
 (v = .slice none 0 0 ∧ n = 0 ∧ xs = []) ∨
 ∃ g cap, v = .slice (some ⟨g, 0, none⟩) n cap ∧ n ≤ cap ∧ cap ≤ 9223372036854775807 ∧ lo ≤ g ∧ g < w.heap.size ∧ ∀ j u, xs[j]? = some u → w.cell? ⟨g, j, none⟩ = some u
theorem LstAt.of_owns {w : World} {base size n : Nat} {e : TypeId} {v : Value} {xs : List Value} (h : w.ownsRow base e size v n xs) : LstAt w base v n xs := by
 rcases h.2 with ⟨rfl, rfl⟩ | ⟨g, cap, cur, rfl, hb, hg, hn, hc, _⟩
 ·exact Or.inl ⟨rfl, rfl, List.eq_nil_of_length_eq_zero (by rw [h.1, Nat.zero_mul])⟩
 ·refine Or.inr ⟨g, cap, rfl, hn, by unfold maxLen at hc; exact hc, hb, (h.lt g rfl).2, fun j u hj => ?_⟩
  have hlt : j < xs.length := by
   rcases Nat.lt_or_ge j xs.length with h' | h'
   ·exact h'
   ·rw [List.getElem?_eq_none h'] at hj; cases hj
  rw [h.cellAt j (by rw [← h.1]; exact hlt)]; exact hj
theorem LstAt.upd {w w' : World} {S : List Nat} {lo n : Nat} {v : Value} {xs : List Value} (h : LstAt w lo v n xs) (hu : Upd S w w') (hS : ∀ k, k ∈ S → k < lo ∨ w.heap.size ≤ k) : LstAt w' lo v n xs := by
 rcases h with h | ⟨g, cap, rfl, h1, h2, h3, h4, h5⟩
 ·exact Or.inl h
 ·exact Or.inr ⟨g, cap, rfl, h1, h2, h3, Nat.lt_of_lt_of_le h4 hu.size, fun j u hj => by rw [hu.cell h4 (fun hm => by rcases hS _ hm with h' | h' <;> simp at * <;> omega)]; exact h5 j u hj⟩
theorem wp_append_lst {P : Program} {o : Oper} {a : Act} {w : World} {K : Act → World → Prop} {Q : Exit → Act → World → Prop} (s x : Operand) (t : TypeId)
  (ho : o.op = .call { callee := .builtin .append, args := #[s, x], argTypes := #[t, t] })
  (base : Nat) (e : TypeId) (z : Value) (size bytes : Nat) (ht : P.underlying t = some (.slice e)) (hinfo : (P.info? e).map (fun i => (i.zero, i.size, i.bytes)) = some (some z, size, bytes))
  (hzs : z.cells.size = size) (hsz : 0 < size) (v : Value) (n : Nat) (xs : List Value) (hs : a.eval s = v) (hown : w.ownsRow base e size v n xs)
  (lo m : Nat) (news : List Value) (v2 : Value) (hx : a.eval x = v2) (hl : LstAt w lo v2 m news) (hlen : news.length = m * size) (h1 : ∀ u ∈ news, u.oneCell' = true)
  (hn : n + m ≤ maxLen) (hbytes : (n + m) * bytes ≤ 140737488355328) (hbase : base ≤ w.heap.size)
  (h : ∀ v' w', w'.ownsRow base e size v' (n + m) (xs ++ news) → Upd v.ownBlock.toList w w' → K (a.put o.dst v') w') : o.wp P a w K Q := by
 obtain ⟨i, hi, hz0, hz1, hz2⟩ := info_parts hinfo
 rcases hl with ⟨rfl, rfl, rfl⟩ | ⟨g, cap, rfl, h2, h3, h4, h5, h6⟩
 ·have hrun := run_append_owned_none (P := P) (w := w) base t o.type e i size ht hi v n xs hown
  unfold Oper.wp
  simp [execOp, ho, resolve, invoke, builtin, hs, hx, hrun, Result.andThen]
  exact h v w (by simpa using hown) (Upd.refl _ _)
 ·refine wp_append_own w s x t ho base e i z size bytes ht hi hz0 hz1 hz2 hzs hsz v n xs hs hown ⟨g, 0, none⟩ m cap news hx hlen (fun j u hj => ?_) h1 hn hbytes hbase (fun v' w' h1 h2 _ => h v' w' h1 ((Upd.refl _ _).grown h2 (fun k hk => Or.inl (by simp [hk]))))
  have e1 : ((⟨g, 0, none⟩ : Addr).add j) = ⟨g, j, none⟩ := by
   unfold Addr.add; split
   ·subst_vars; rfl
   ·simp
  rw [e1]; exact h6 j u hj
theorem wpList_append_lst {P : Program} {ops : Array Oper} {rest : List Oper} {o : Oper} {a : Act} {w : World} {Q : Exit → Act → World → Prop} (hgd : o.guard = none) (s x : Operand) (t : TypeId)
  (ho : o.op = .call { callee := .builtin .append, args := #[s, x], argTypes := #[t, t] })
  (base : Nat) (e : TypeId) (z : Value) (size bytes : Nat) (ht : P.underlying t = some (.slice e)) (hinfo : (P.info? e).map (fun i => (i.zero, i.size, i.bytes)) = some (some z, size, bytes))
  (hzs : z.cells.size = size) (hsz : 0 < size) (v : Value) (n : Nat) (xs : List Value) (hs : a.eval s = v) (hown : w.ownsRow base e size v n xs)
  (lo m : Nat) (news : List Value) (v2 : Value) (hx : a.eval x = v2) (hl : LstAt w lo v2 m news) (hlen : news.length = m * size) (h1 : ∀ u ∈ news, u.oneCell' = true)
  (hn : n + m ≤ maxLen) (hbytes : (n + m) * bytes ≤ 140737488355328) (hbase : base ≤ w.heap.size)
  (h : ∀ v' w', w'.ownsRow base e size v' (n + m) (xs ++ news) → Upd v.ownBlock.toList w w' → wpList P ops Q rest (a.put o.dst v') w') : wpList P ops Q (o :: rest) a w :=
 wpList_plain hgd fun _ hK => wp_append_lst s x t ho base e z size bytes ht hinfo hzs hsz v n xs hs hown lo m news v2 hx hl hlen h1 hn hbytes hbase fun v' w' h2 h3 => hK _ _ (h v' w' h2 h3)
def cv (w : World) (a : Addr) : Value := (w.cell? a).getD undef
end Go.Proofs.YtklibcncmbofpaaGreat
namespace Go.Proofs.YtklibcncmbofpaaGreat
open Go Go.RowKit
theorem addr_add0 (g j : Nat) : ((⟨g, 0, none⟩ : Addr).add j) = ⟨g, j, none⟩ := by
 unfold Addr.add; split
 ·subst_vars; rfl
 ·simp
theorem newCell0 (W : World) (us : List Value) (e : TypeId) (j : Nat) (u : Value) (hj : us[j]? = some u) : (W.alloc (.cells us.toArray e)).cell? ⟨W.heap.size, j, none⟩ = some u := by
 rw [← addr_add0]; exact newCell W us e j u hj
theorem wp_append_one {P : Program} {o : Oper} {a : Act} {w : World} {K : Act → World → Prop} {Q : Exit → Act → World → Prop} (s x : Operand) (t : TypeId)
  (ho : o.op = .call { callee := .builtin .append, args := #[s, x], argTypes := #[t, t] })
  (base : Nat) (e : TypeId) (z : Value) (size bytes : Nat) (ht : P.underlying t = some (.slice e)) (hinfo : (P.info? e).map (fun i => (i.zero, i.size, i.bytes)) = some (some z, size, bytes))
  (hzs : z.cells.size = size) (hsz : 0 < size) (v : Value) (n : Nat) (xs : List Value) (hs : a.eval s = v) (hown : w.ownsRow base e size v n xs)
  (g : Nat) (news : List Value) (hx : a.eval x = .slice (some ⟨g, 0, none⟩) 1 1) (hl : news.length = size) (hnews : ∀ j u, news[j]? = some u → w.cell? ⟨g, j, none⟩ = some u) (h1 : ∀ u ∈ news, u.oneCell' = true)
  (hn : n + 1 ≤ maxLen) (hbytes : (n + 1) * bytes ≤ 140737488355328) (hbase : base ≤ w.heap.size)
  (h : ∀ v' w', w'.ownsRow base e size v' (n + 1) (xs ++ news) → Upd v.ownBlock.toList w w' → (v'.ownBlock = v.ownBlock ∨ v'.ownBlock = some w.heap.size) → K (a.put o.dst v') w') : Oper.wp P o a w K Q := by
 obtain ⟨i, hi, hz0, hz1, hz2⟩ := info_parts hinfo
 obtain ⟨v', w', hr, h2, h3, _, h5⟩ := run_append_own_at (P := P) w base t o.type e i z size bytes ht hi hz0 hz1 hz2 hzs hsz v n xs hown ⟨g, 0, none⟩ 1 1 news (by rw [hl, Nat.one_mul]) (fun j u hj => by rw [addr_add0]; exact hnews j u hj) h1 hn hbytes hbase
 unfold Oper.wp execOp
 simp only [ho, resolve, invoke, builtin, Sem.run_bind, Sem.run_pure, Result.andThen_ok, List.map_toArray, List.map_cons, List.map_nil, hs, hx, hr]
 exact h _ _ h2 ((Upd.refl _ _).grown h3 (fun k hk => Or.inl (by simp [hk]))) h5
theorem step_append_one {P : Program} {ops : Array Oper} {o : Oper} {a : Act} {w : World} {K : Act → World → Prop} {Q : Exit → Act → World → Prop} {E : Prop} (hgd : o.guard = none) (s x : Operand) (t : TypeId)
  (ho : o.op = .call { callee := .builtin .append, args := #[s, x], argTypes := #[t, t] })
  (base : Nat) (e : TypeId) (z : Value) (size bytes : Nat) (ht : P.underlying t = some (.slice e)) (hinfo : (P.info? e).map (fun i => (i.zero, i.size, i.bytes)) = some (some z, size, bytes))
  (hzs : z.cells.size = size) (hsz : 0 < size) (v : Value) (n : Nat) (xs : List Value) (hs : a.eval s = v) (hown : w.ownsRow base e size v n xs)
  (g : Nat) (news : List Value) (hx : a.eval x = .slice (some ⟨g, 0, none⟩) 1 1) (hl : news.length = size) (hnews : ∀ j u, news[j]? = some u → w.cell? ⟨g, j, none⟩ = some u) (h1 : ∀ u ∈ news, u.oneCell' = true)
  (hn : n + 1 ≤ maxLen) (hbytes : (n + 1) * bytes ≤ 140737488355328) (hbase : base ≤ w.heap.size)
  (h : ∀ v' w', w'.ownsRow base e size v' (n + 1) (xs ++ news) → Upd v.ownBlock.toList w w' → (v'.ownBlock = v.ownBlock ∨ v'.ownBlock = some w.heap.size) → K (a.put o.dst v') w') :
  if Region.wanted o (yielded ops a.tmps) = true then Oper.wp P o a w K Q else E := by
 have hw : Region.wanted o (yielded ops a.tmps) = true := by simp [Region.wanted, hgd]
 rw [if_pos hw]
 exact wp_append_one s x t ho base e z size bytes ht hinfo hzs hsz v n xs hs hown g news hx hl hnews h1 hn hbytes hbase h
end Go.Proofs.YtklibcncmbofpaaGreat
namespace Go.Proofs.YtklibcncmbofpaaGreat
open Go Go.RowKit
theorem intInfo : (Tryz.prog.info? 3).map (fun i => (i.zero, i.size, i.bytes)) = some (some (.int .i64 0), 1, 8) := by kernel_rfl
def intsZ (l : List Int) : List Value := l.map (fun x => Value.int .i64 x)
theorem intsZ_append (a b : List Int) : intsZ (a ++ b) = intsZ a ++ intsZ b := by unfold intsZ; rw [List.map_append]
theorem intsZ_len (a : List Int) : (intsZ a).length = a.length := by unfold intsZ; simp
theorem intsZ_one (l : List Int) : ∀ u ∈ intsZ l, u.oneCell' = true := by
 intro u hu; unfold intsZ at hu; simp only [List.mem_map] at hu; obtain ⟨x, _, rfl⟩ := hu; rfl
theorem intsZ_get {l : List Int} {j : Nat} (hj : j < l.length) : (intsZ l)[j]? = some (.int .i64 (l.getD j 0)) := by unfold intsZ; simp [List.getD_eq_getElem?_getD, hj]
theorem cell_new {X : World} {us : List Value} {e : TypeId} {g : Nat} (hg : g = X.heap.size) (j : Nat) {u : Value} (hj : us[j]? = some u) : (X.alloc (.cells us.toArray e)).cell? ⟨g, j, none⟩ = some u := by
 subst hg; exact newCell0 X us e j u hj
theorem cell_newd {X : World} {us : List Value} {e : TypeId} {g : Nat} (hg : g = X.heap.size) (j : Nat) {u : Value} (hj : us[j]? = some u) : ((X.alloc (.cells us.toArray e)).drew).cell? ⟨g, j, none⟩ = some u := cell_new hg j hj
structure IZ (w : World) (g cap : Nat) (l : List Int) : Prop where
 own : w.ownsRow 0 3 1 (.slice (some ⟨g, 0, none⟩) l.length cap) l.length (intsZ l)
theorem IZ.lt {w : World} {g cap : Nat} {l : List Int} (h : IZ w g cap l) : g < w.heap.size := (h.own.lt g rfl).2
theorem IZ.cap {w : World} {g cap : Nat} {l : List Int} (h : IZ w g cap l) : l.length ≤ cap ∧ cap ≤ 9223372036854775807 := by
 rcases h.own.2 with ⟨h1, _⟩ | ⟨g', cap', cur, h1, _, _, h2, h3, _⟩
 ·cases h1
 ·cases h1; unfold maxLen at h3; exact ⟨h2, h3⟩
theorem IZ.cell {w : World} {g cap : Nat} {l : List Int} (h : IZ w g cap l) (j : Nat) (hj : j < l.length) : w.cell? ⟨g, j, none⟩ = some (.int .i64 (l.getD j 0)) := by
 rw [h.own.cellAt j (by omega)]
 exact intsZ_get hj
theorem IZ.free {w : World} {g cap : Nat} {l : List Int} (h : IZ w g cap l) (j : Nat) : w.frozen? ⟨g, j, none⟩ = false := h.own.frozenAt j
theorem IZ.upd {w w' : World} {S : List Nat} {g cap : Nat} {l : List Int} (h : IZ w g cap l) (hu : Upd S w w') (hn : g ∉ S) : IZ w' g cap l :=
 ⟨owns_upd h.own hu (fun k hk => by cases hk; exact hn)⟩
theorem IZ.drewN {w : World} {g cap : Nat} {l : List Int} (h : IZ w g cap l) (n : Nat) : IZ (w.drewN n) g cap l := h.upd ((Upd.refl [] w).drewN n) (by simp)
theorem IZ.set {w : World} {g cap : Nat} {l : List Int} (h : IZ w g cap l) (j : Nat) (x : Int) : IZ (w.setCell ⟨g, j, none⟩ (.int .i64 x)) g cap (l.set j x) := by
 rcases h.own.2 with ⟨h1, _⟩ | ⟨g', cap', cur, h1, hb, hg, hn, hc, hs, ht⟩
 ·cases h1
 ·cases h1
  refine ⟨⟨by rw [intsZ_len]; omega, Or.inr ⟨g, cap, cur.setIfInBounds j (.int .i64 x), by rw [List.length_set], by omega, ?_, by rw [List.length_set]; exact hn, hc, by simp; omega, ?_⟩⟩⟩
  ·simp [World.setCell, Array.getElem?_modify, hg]
  ·rw [List.length_set, Array.toList_setIfInBounds]
   by_cases hj : j < l.length
   ·rw [List.take_set, ht]
    unfold intsZ
    rw [List.map_set]
   ·rw [List.take_set_of_le (by omega), ht, List.set_eq_of_length_le (by omega)]
theorem IZ.lit (w : World) (l : List Int) (hl : l.length ≤ 1000000) : IZ (w.alloc (.cells (intsZ l).toArray 3)) w.heap.size l.length l :=
 ⟨own_lit w (intsZ l) 3 0 1 l.length (by rw [intsZ_len]; omega) (by omega) (by unfold maxLen; omega)⟩
theorem IZ.of_own {w : World} {base : Nat} {v : Value} {l : List Int} (h : w.ownsRow base 3 1 v l.length (intsZ l)) (hl : 0 < l.length) : ∃ g cap, v = .slice (some ⟨g, 0, none⟩) l.length cap ∧ IZ w g cap l ∧ base ≤ g := by
 obtain ⟨g, cap, rfl, hb, _⟩ := own_shape h hl
 exact ⟨g, cap, rfl, ⟨owns_mono h (by omega)⟩, hb⟩
def SlI (w : World) (F : List Nat) (v : Value) (xs : List Int) : Prop :=
 ∃ a cap, v = .slice a xs.length cap ∧ xs.length ≤ cap ∧ cap ≤ 9223372036854775807 ∧ ∀ j u, xs[j]? = some u → ∃ g off, a = some ⟨g, off, none⟩ ∧ g < w.heap.size ∧ g ∉ F ∧ w.cell? ⟨g, off + j, none⟩ = some (.int .i64 u)
theorem SlI.fresh {w w' : World} {F F' : List Nat} {v : Value} {xs : List Int} (h : SlI w F v xs) (hu : Upd F w w') (hF : ∀ g, g ∈ F' → g ∈ F ∨ w.heap.size ≤ g) : SlI w' F' v xs := by
 obtain ⟨a, cap, rfl, h1, h2, h3⟩ := h
 refine ⟨a, cap, rfl, h1, h2, fun j u hj => ?_⟩
 obtain ⟨g, off, rfl, hg, hn, hc⟩ := h3 j u hj
 exact ⟨g, off, rfl, Nat.lt_of_lt_of_le hg hu.size, fun hm => by rcases hF g hm with h' | h'; exact hn h'; omega, by rw [hu.cell hg hn]; exact hc⟩
end Go.Proofs.YtklibcncmbofpaaGreat
namespace Go.Proofs.YtklibcncmbofpaaGreat
open Go Go.RowKit
def cmpZ (a b : Int) : Int := if a < b then -1 else if b < a then 1 else 0
def cmpE (k1 s1 k2 s2 : Int) : Int := if k1 = k2 then cmpZ s1 s2 else cmpZ k1 k2
theorem cmpE_less (k1 s1 k2 s2 : Int) : decide (cmpE k1 s1 k2 s2 < 0) = lessE k1 s1 k2 s2 := by
 unfold cmpE lessE cmpZ
 split
 ·rw [decide_eq_decide]; split; omega; split <;> omega
 ·rw [decide_eq_decide]; split; omega; split <;> omega
theorem nanI_any (x : Int) (w : World) : Calls Tryz.prog 85 #[.int .i64 x] w fun e w' => e = .returned (.bool false) ∧ w' = w := by
 have h : (x != x) = false := by simp
 go_enter Tryz.func85, Tryz.ntmps85
 go_wp2
 go_ret
 exact ⟨rfl, rfl⟩
theorem nanU_any (x : Int) (w : World) : Calls Tryz.prog 173 #[.int .u64 x] w fun e w' => e = .returned (.bool false) ∧ w' = w := by
 have h : (x != x) = false := by simp
 go_enter Tryz.func173, Tryz.ntmps173
 go_wp2
 go_ret
 exact ⟨rfl, rfl⟩
theorem cmpI_any (a b : Int) (w : World) : Calls Tryz.prog 170 #[.int .i64 a, .int .i64 b] w fun e w' => e = .returned (.int .i64 (cmpZ a b)) ∧ w' = w := by
 have k := fun x => nanI_any x w
 unfold cmpZ
 by_cases h1 : a < b
 ·go_enter Tryz.func170, Tryz.ntmps170
  go_wp2_with ((go_at_call 85; (with_reducible refine ((k _)).mono ?_); rintro e w9 ⟨rfl, hw9⟩; rw [hw9]; clear hw9 w9))
  go_ret
  exact ⟨by first | rfl | (refine ret_int ?_; simp; try omega), rfl⟩
 ·by_cases h2 : b < a
  ·go_enter Tryz.func170, Tryz.ntmps170
   go_wp2_with ((go_at_call 85; (with_reducible refine ((k _)).mono ?_); rintro e w9 ⟨rfl, hw9⟩; rw [hw9]; clear hw9 w9))
   go_ret
   exact ⟨by first | rfl | (refine ret_int ?_; simp; try omega), rfl⟩
  ·have e : a = b := by omega
   subst e
   clear h1 h2
   go_enter Tryz.func170, Tryz.ntmps170
   go_wp2_with ((go_at_call 85; (with_reducible refine ((k _)).mono ?_); rintro e w9 ⟨rfl, hw9⟩; rw [hw9]; clear hw9 w9))
   go_ret
   exact ⟨by first | rfl | (refine ret_int ?_; simp; try omega), rfl⟩
theorem cmpU_any (a b : Int) (w : World) : Calls Tryz.prog 171 #[.int .u64 a, .int .u64 b] w fun e w' => e = .returned (.int .i64 (cmpZ a b)) ∧ w' = w := by
 have k := fun x => nanU_any x w
 unfold cmpZ
 by_cases h1 : a < b
 ·go_enter Tryz.func171, Tryz.ntmps171
  go_wp2_with ((go_at_call 173; (with_reducible refine ((k _)).mono ?_); rintro e w9 ⟨rfl, hw9⟩; rw [hw9]; clear hw9 w9))
  go_ret
  exact ⟨by first | rfl | (refine ret_int ?_; simp; try omega), rfl⟩
 ·by_cases h2 : b < a
  ·go_enter Tryz.func171, Tryz.ntmps171
   go_wp2_with ((go_at_call 173; (with_reducible refine ((k _)).mono ?_); rintro e w9 ⟨rfl, hw9⟩; rw [hw9]; clear hw9 w9))
   go_ret
   exact ⟨by first | rfl | (refine ret_int ?_; simp; try omega), rfl⟩
  ·have e : a = b := by omega
   subst e
   clear h1 h2
   go_enter Tryz.func171, Tryz.ntmps171
   go_wp2_with ((go_at_call 173; (with_reducible refine ((k _)).mono ?_); rintro e w9 ⟨rfl, hw9⟩; rw [hw9]; clear hw9 w9))
   go_ret
   exact ⟨by first | rfl | (refine ret_int ?_; simp; try omega), rfl⟩
def orZ (a b : Int) : Int := if a = 0 then b else a
set_option maxHeartbeats 1000000 in
theorem or_any (g : Nat) (a b : Int) (w : World) (c0 : w.cell? ⟨g, 0, none⟩ = some (.int .i64 a)) (c1 : w.cell? ⟨g, 1, none⟩ = some (.int .i64 b)) :
  Calls Tryz.prog 169 #[.slice (some ⟨g, 0, none⟩) 2 2] w fun e w' => e = .returned (.int .i64 (orZ a b)) ∧ w' = w := by
 unfold orZ
 by_cases ha : a = 0
 ·subst ha
  by_cases hb : b = 0
  ·subst hb
   go_enter Tryz.func169, Tryz.ntmps169
   go_wp2
   refine wp_loop_rounds 3 ?_
   rw [rounds_succ]
   go_wp2
   all_goals try (rw [rounds_succ]; go_wp2)
   all_goals try (rw [rounds_succ]; go_wp2)
   go_ret
   exact ⟨by simp, rfl⟩
  ·have hb' : (b != 0) = true := by simpa using hb
   go_enter Tryz.func169, Tryz.ntmps169
   go_wp2
   refine wp_loop_rounds 3 ?_
   rw [rounds_succ]
   go_wp2
   all_goals try (rw [rounds_succ]; go_wp2)
   all_goals try (rw [rounds_succ]; go_wp2)
   go_ret
   exact ⟨by simp, rfl⟩
 ·have ha' : (a != 0) = true := by simpa using ha
  have HA := Lib.hid ha
  clear ha
  go_enter Tryz.func169, Tryz.ntmps169
  go_wp2
  refine wp_loop_rounds 3 ?_
  rw [rounds_succ]
  go_wp2
  all_goals try (rw [rounds_succ]; go_wp2)
  all_goals try (rw [rounds_succ]; go_wp2)
  go_ret
  exact ⟨by first | rfl | rw [if_neg HA.out], rfl⟩
theorem orZ_cmp (k1 s1 k2 s2 : Int) : orZ (cmpZ k1 k2) (cmpZ s1 s2) = cmpE k1 s1 k2 s2 := by
 unfold orZ cmpE
 by_cases h : k1 = k2
 ·subst h; simp [cmpZ]
 ·rw [if_neg h, if_neg]
  unfold cmpZ; split; omega; split <;> omega
set_option maxHeartbeats 2000000 in
theorem compare_any (k1 s1 k2 s2 : Int) (w : World) : Calls Tryz.prog 164 #[.agg #[.int .i64 k1, .int .u64 s1], .agg #[.int .i64 k2, .int .u64 s2]] w fun e w' => e = .returned (.int .i64 (cmpE k1 s1 k2 s2)) ∧ Upd [] w w' := by
 rw [← orZ_cmp]
 have ka := fun W => cmpI_any k1 k2 W
 have kb := fun W => cmpU_any s1 s2 W
 generalize cmpZ k1 k2 = za at *
 generalize cmpZ s1 s2 = zb at *
 have r0 : ∀ W, Upd [] ((w.alloc (.cells #[.int .i64 k1, .int .u64 s1] 129)).alloc (.cells #[.int .i64 k2, .int .u64 s2] 129)) W → W.cell? ⟨w.heap.size, 0, none⟩ = some (.int .i64 k1) := fun W h => h.was (by simp)
 have r1 : ∀ W, Upd [] ((w.alloc (.cells #[.int .i64 k1, .int .u64 s1] 129)).alloc (.cells #[.int .i64 k2, .int .u64 s2] 129)) W → W.cell? ⟨w.heap.size, 1, none⟩ = some (.int .u64 s1) := fun W h => h.was (by simp)
 have r2 : ∀ W, Upd [] ((w.alloc (.cells #[.int .i64 k1, .int .u64 s1] 129)).alloc (.cells #[.int .i64 k2, .int .u64 s2] 129)) W → W.cell? ⟨w.heap.size + 1, 0, none⟩ = some (.int .i64 k2) := fun W h => h.was (by simp)
 have r3 : ∀ W, Upd [] ((w.alloc (.cells #[.int .i64 k1, .int .u64 s1] 129)).alloc (.cells #[.int .i64 k2, .int .u64 s2] 129)) W → W.cell? ⟨w.heap.size + 1, 1, none⟩ = some (.int .u64 s2) := fun W h => h.was (by simp)
 go_enter Tryz.func164, Tryz.ntmps164
 go_wp2
 go_region_held3 (Upd [] ((w.alloc (.cells #[.int .i64 k1, .int .u64 s1] 129)).alloc (.cells #[.int .i64 k2, .int .u64 s2] 129))) (repeat (first | assumption | exact Upd.refl _ _ | refine Upd.drew ?_ | refine Upd.alloc ?_ _ | (apply Upd.trans; rotate_left; assumption)))
  (first
   | (go_at_call 170; (with_reducible refine (ka _).mono ?_); rintro e w9 ⟨rfl, hw9⟩; rw [hw9]; clear hw9 w9)
   | (go_at_call 171; (with_reducible refine (kb _).mono ?_); rintro e w9 ⟨rfl, hw9⟩; rw [hw9]; clear hw9 w9)
   | (go_at_call 169; (with_reducible refine (or_any _ za zb _ (cell_newd (by simp) 0 rfl) (cell_newd (by simp) 1 rfl)).mono ?_); rintro e w9 ⟨rfl, hw9⟩; rw [hw9]; clear hw9 w9))
 go_wp2
 go_ret
 exact ⟨rfl, by (repeat (first | assumption | exact Upd.refl _ _ | refine Upd.alloc ?_ _ | refine Upd.drew ?_ | refine Upd.drewN ?_ _ | refine Upd.setCell ?_ (Or.inr (by first | (simp; done) | (simp; omega))) _ | (apply Upd.trans; rotate_left; assumption)))⟩
theorem eless_any (k1 s1 k2 s2 : Int) (w : World) : Calls Tryz.prog 158 #[.agg #[.int .i64 k1, .int .u64 s1], .agg #[.int .i64 k2, .int .u64 s2]] w fun e w' => e = .returned (.bool (lessE k1 s1 k2 s2)) ∧ Upd [] w w' := by
 rw [← cmpE_less]
 have k := fun W => compare_any k1 s1 k2 s2 W
 generalize cmpE k1 s1 k2 s2 = z at *
 go_enter Tryz.func158, Tryz.ntmps158
 go_wp2_with (go_at_call 164; (with_reducible refine (k _).mono ?_); rintro e w' ⟨rfl, hu⟩)
 all_goals
  go_ret
  exact ⟨ret_bool (by first | rfl | simp | (simp; omega)), ((Upd.refl _ _).alloc _ |>.alloc _).trans hu⟩
end Go.Proofs.YtklibcncmbofpaaGreat
