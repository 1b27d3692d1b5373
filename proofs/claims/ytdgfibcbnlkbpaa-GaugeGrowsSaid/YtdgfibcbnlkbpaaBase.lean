/-
  Small lemmas on worlds and endings that all of the walks of this folder use. Conditions: none beyond those that stand in each lemma.
-/
import Derived.WalkKit
import Derived.WalkSpells
import Derived.WalkLawsBesides
import Derived.BigQuiet
import Derived.Deep.RegionHeld3
import Derived.ProofKit
import Derived.Lib.Hide
set_option linter.unusedVariables false
set_option linter.unusedSimpArgs false
namespace Go.Proofs.Ytdgfibcbnlkbpaa
open Go.RowKit

theorem ret_int {k : IntKind} {a b : Int} (h : a = b) : Ending.returned (.int k a) = .returned (.int k b) := by rw [h]
theorem ret_bool {a b : Bool} (h : a = b) : Ending.returned (.bool a) = .returned (.bool b) := by rw [h]

/-- From w to w' only the blocks of S, of those that were there, may hold something else; blocks may have come. -/
structure Upd (S : List Nat) (w w' : World) : Prop where
  os : w'.os = w.os
  tape : w'.tape = w.tape
  output : w'.output = w.output
  size : w.heap.size ≤ w'.heap.size
  block : ∀ k, k < w.heap.size → k ∉ S → w'.heap[k]? = w.heap[k]?
theorem Upd.refl (S : List Nat) (w : World) : Upd S w w := ⟨rfl, rfl, rfl, Nat.le_refl _, fun _ _ _ => rfl⟩
theorem Upd.joined {S T : List Nat} {a b c : World} (h : Upd S a b) (k : Upd T b c) (hT : ∀ x, x ∈ T → x ∈ S ∨ a.heap.size ≤ x) : Upd S a c :=
  ⟨k.os.trans h.os, k.tape.trans h.tape, k.output.trans h.output, Nat.le_trans h.size k.size,
   fun i hi hs => (k.block i (Nat.lt_of_lt_of_le hi h.size) (fun hm => by rcases hT i hm with h1 | h1; exact hs h1; omega)).trans (h.block i hi hs)⟩
theorem Upd.trans {S : List Nat} {a b c : World} (h : Upd S a b) (k : Upd S b c) : Upd S a c := h.joined k (fun _ hx => Or.inl hx)
theorem Upd.then {S : List Nat} {a b c : World} (h : Upd S a b) (k : Upd [] b c) : Upd S a c := h.joined k (fun _ hx => by cases hx)
theorem Upd.mono {S T : List Nat} {a b : World} (h : Upd S a b) (hs : ∀ x, x ∈ S → x ∈ T) : Upd T a b :=
  ⟨h.os, h.tape, h.output, h.size, fun k hk hn => h.block k hk (fun hm => hn (hs k hm))⟩
theorem Upd.drew {S : List Nat} {a w : World} (h : Upd S a w) : Upd S a w.drew := ⟨h.os, h.tape, h.output, h.size, h.block⟩
theorem Upd.drewN {S : List Nat} {a w : World} (h : Upd S a w) (n : Nat) : Upd S a (w.drewN n) := ⟨h.os, h.tape, h.output, h.size, h.block⟩
theorem Upd.alloc {S : List Nat} {a w : World} (h : Upd S a w) (o : Obj) : Upd S a (w.alloc o) :=
  h.joined (T := []) ⟨rfl, rfl, rfl, by simp, fun k hk _ => Below.heap_alloc _ _ _ hk⟩ (fun _ hx => by cases hx)
theorem Upd.setCell {S : List Nat} {a w : World} (h : Upd S a w) {p : Addr} (hp : p.block ∈ S ∨ a.heap.size ≤ p.block) (u : Value) : Upd S a (w.setCell p u) :=
  h.joined (T := [p.block]) ⟨rfl, rfl, rfl, by simp [World.setCell], fun k hk hn => Below.heap_setCell _ _ _ _ (by simpa using hn)⟩ (fun x hx => by simp at hx; rw [hx]; exact hp)
theorem Upd.grown {S : List Nat} {a w w' : World} {row : Option Nat} (h : Upd S a w) (hg : w.grownBy w' row) (hr : ∀ k, row = some k → k ∈ S ∨ a.heap.size ≤ k) : Upd S a w' :=
  h.joined (T := row.toList) ⟨hg.os, hg.tape, hg.output, hg.size, fun k hk hn => hg.block k hk (fun e => hn (by rw [← e]; simp))⟩ (fun x hx => hr x (by simpa using hx))
theorem Upd.cell {S : List Nat} {w w' : World} (h : Upd S w w') {p : Addr} (hp : p.block < w.heap.size) (hn : p.block ∉ S) : w'.cell? p = w.cell? p := World.cell?_of_block (w := w) (h.block p.block hp hn)
theorem Upd.frozen {S : List Nat} {w w' : World} (h : Upd S w w') {p : Addr} (hp : p.block < w.heap.size) (hn : p.block ∉ S) : w'.frozen? p = w.frozen? p := World.frozen?_of_block (w := w) (h.block p.block hp hn)
theorem Upd.below {w w' : World} (h : Upd [] w w') : Below w.heap.size w w' := ⟨h.os, h.tape, h.output, h.size, fun k hk => h.block k hk (by simp)⟩
theorem upd_of_below {w w' : World} (h : Below w.heap.size w w') : Upd [] w w' := ⟨h.os, h.tape, h.output, h.size, fun k hk _ => h.block k hk⟩
/-- A cell that is there reads as before behind a call that only makes blocks. -/
theorem Upd.was {w w' : World} (h : Upd [] w w') {p : Addr} {v : Value} (hv : w.cell? p = some v) : w'.cell? p = some v := by
  rw [h.cell (World.block_lt_of_cell? w p hv) (by simp)]; exact hv
theorem bcell {W w1 : World} (hb : Upd [] W w1) : (∀ a, (W.cell? a).isSome = true → w1.cell? a = W.cell? a) ∧ (∀ a, (W.cell? a).isSome = true → w1.frozen? a = W.frozen? a) :=
  ⟨fun a h => by obtain ⟨u, hu⟩ := Option.isSome_iff_exists.1 h; exact hb.cell (World.block_lt_of_cell? W a hu) (by simp),
   fun a h => by obtain ⟨u, hu⟩ := Option.isSome_iff_exists.1 h; exact hb.frozen (World.block_lt_of_cell? W a hu) (by simp)⟩
end Go.Proofs.Ytdgfibcbnlkbpaa
