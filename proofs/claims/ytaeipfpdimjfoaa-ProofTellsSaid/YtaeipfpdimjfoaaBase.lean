/-
  Small lemmas on worlds and endings that all of the walks of this folder use. Conditions: none beyond those that stand in each lemma.
-/
import Derived.WalkKit
import Derived.WalkSpells
import Derived.WalkLawsBesides
import Derived.BigQuiet
import Derived.Deep.RegionHeld3
import Derived.ProofKit
import Derived.OpenShut
import Derived.Lib.Hide
set_option linter.unusedVariables false
set_option linter.unusedSimpArgs false
namespace Go.Proofs.Ytaeipfpdimjfoaa
open Go.RowKit

theorem ret_int {k : IntKind} {a b : Int} (h : a = b) : Ending.returned (.int k a) = .returned (.int k b) := by rw [h]
theorem ret_bool {a b : Bool} (h : a = b) : Ending.returned (.bool a) = .returned (.bool b) := by rw [h]

/-- From w to w' only the blocks of S, of those that were there, may hold something else; blocks may have come. -/
structure Upd (S : List Nat) (w w' : World) : Prop where
  os : w'.os = w.os
  tape : w'.tape = w.tape
  output : w'.output = w.output
  size : w.heap.size ≤ w'.heap.size
  block : ∀ k, k < w.heap.size → k ∉ S → w'.heap[k]? = w.heap[k]?
theorem Upd.refl (S : List Nat) (w : World) : Upd S w w := ⟨rfl, rfl, rfl, Nat.le_refl _, fun _ _ _ => rfl⟩
theorem Upd.joined {S T : List Nat} {a b c : World} (h : Upd S a b) (k : Upd T b c) (hT : ∀ x, x ∈ T → x ∈ S ∨ a.heap.size ≤ x) : Upd S a c :=
  ⟨k.os.trans h.os, k.tape.trans h.tape, k.output.trans h.output, Nat.le_trans h.size k.size,
   fun i hi hs => (k.block i (Nat.lt_of_lt_of_le hi h.size) (fun hm => by rcases hT i hm with h1 | h1; exact hs h1; omega)).trans (h.block i hi hs)⟩
theorem Upd.trans {S : List Nat} {a b c : World} (h : Upd S a b) (k : Upd S b c) : Upd S a c := h.joined k (fun _ hx => Or.inl hx)
theorem Upd.then {S : List Nat} {a b c : World} (h : Upd S a b) (k : Upd [] b c) : Upd S a c := h.joined k (fun _ hx => by cases hx)
theorem Upd.mono {S T : List Nat} {a b : World} (h : Upd S a b) (hs : ∀ x, x ∈ S → x ∈ T) : Upd T a b :=
  ⟨h.os, h.tape, h.output, h.size, fun k hk hn => h.block k hk (fun hm => hn (hs k hm))⟩
theorem Upd.drew {S : List Nat} {a w : World} (h : Upd S a w) : Upd S a w.drew := ⟨h.os, h.tape, h.output, h.size, h.block⟩
theorem Upd.drewN {S : List Nat} {a w : World} (h : Upd S a w) (n : Nat) : Upd S a (w.drewN n) := ⟨h.os, h.tape, h.output, h.size, h.block⟩
theorem Upd.alloc {S : List Nat} {a w : World} (h : Upd S a w) (o : Obj) : Upd S a (w.alloc o) :=
  h.joined (T := []) ⟨rfl, rfl, rfl, by simp, fun k hk _ => Below.heap_alloc _ _ _ hk⟩ (fun _ hx => by cases hx)
theorem Upd.setCell {S : List Nat} {a w : World} (h : Upd S a w) {p : Addr} (hp : p.block ∈ S ∨ a.heap.size ≤ p.block) (u : Value) : Upd S a (w.setCell p u) :=
  h.joined (T := [p.block]) ⟨rfl, rfl, rfl, by simp [World.setCell], fun k hk hn => Below.heap_setCell _ _ _ _ (by simpa using hn)⟩ (fun x hx => by simp at hx; rw [hx]; exact hp)
theorem Upd.grown {S : List Nat} {a w w' : World} {row : Option Nat} (h : Upd S a w) (hg : w.grownBy w' row) (hr : ∀ k, row = some k → k ∈ S ∨ a.heap.size ≤ k) : Upd S a w' :=
  h.joined (T := row.toList) ⟨hg.os, hg.tape, hg.output, hg.size, fun k hk hn => hg.block k hk (fun e => hn (by rw [← e]; simp))⟩ (fun x hx => hr x (by simpa using hx))
theorem Upd.cell {S : List Nat} {w w' : World} (h : Upd S w w') {p : Addr} (hp : p.block < w.heap.size) (hn : p.block ∉ S) : w'.cell? p = w.cell? p := World.cell?_of_block (w := w) (h.block p.block hp hn)
theorem Upd.frozen {S : List Nat} {w w' : World} (h : Upd S w w') {p : Addr} (hp : p.block < w.heap.size) (hn : p.block ∉ S) : w'.frozen? p = w.frozen? p := World.frozen?_of_block (w := w) (h.block p.block hp hn)
theorem Upd.below {w w' : World} (h : Upd [] w w') : Below w.heap.size w w' := ⟨h.os, h.tape, h.output, h.size, fun k hk => h.block k hk (by simp)⟩
theorem upd_of_below {w w' : World} (h : Below w.heap.size w w') : Upd [] w w' := ⟨h.os, h.tape, h.output, h.size, fun k hk _ => h.block k hk⟩
/-- A cell that is there reads as before behind a call that only makes blocks. -/
theorem Upd.was {w w' : World} (h : Upd [] w w') {p : Addr} {v : Value} (hv : w.cell? p = some v) : w'.cell? p = some v := by
  rw [h.cell (World.block_lt_of_cell? w p hv) (by simp)]; exact hv
theorem Upd.kept {S : List Nat} {w w' : World} (h : Upd S w w') {p : Addr} {v : Value} (hv : w.cell? p = some v) (hn : p.block ∉ S) : w'.cell? p = some v := by
  rw [h.cell (World.block_lt_of_cell? w p hv) hn]; exact hv
theorem Upd.keptF {S : List Nat} {w w' : World} (h : Upd S w w') {p : Addr} {v : Value} (hv : w.cell? p = some v) (hn : p.block ∉ S) (hf : w.frozen? p = false) : w'.frozen? p = false := by
  rw [h.frozen (World.block_lt_of_cell? w p hv) hn]; exact hf
theorem bcell {W w1 : World} (hb : Upd [] W w1) : (∀ a, (W.cell? a).isSome = true → w1.cell? a = W.cell? a) ∧ (∀ a, (W.cell? a).isSome = true → w1.frozen? a = W.frozen? a) :=
  ⟨fun a h => by obtain ⟨u, hu⟩ := Option.isSome_iff_exists.1 h; exact hb.cell (World.block_lt_of_cell? W a hu) (by simp),
   fun a h => by obtain ⟨u, hu⟩ := Option.isSome_iff_exists.1 h; exact hb.frozen (World.block_lt_of_cell? W a hu) (by simp)⟩

/-- A slice that came in: nil or not, of 'len' elements of 'sz' cells each; cell j of them all holds 'c j'. -/
def Slc (w : World) (v : Value) (len sz : Nat) (c : Nat → Value) : Prop :=
  ∃ a cap, v = .slice a len cap ∧ len ≤ maxLen ∧ (0 < len → ∃ b off, a = some ⟨b, off, none⟩ ∧ b < w.heap.size ∧ ∀ j, j < len * sz → w.cell? ⟨b, off + j, none⟩ = some (c j))
theorem Slc.upd {w w' : World} {v : Value} {len sz : Nat} {c : Nat → Value} (h : Slc w v len sz c) (hu : Upd [] w w') : Slc w' v len sz c := by
  obtain ⟨a, cap, rfl, hl, h⟩ := h
  exact ⟨a, cap, rfl, hl, fun hp => by
    obtain ⟨b, off, rfl, hb, hc⟩ := h hp
    exact ⟨b, off, rfl, Nat.lt_of_lt_of_le hb hu.size, fun j hj => hu.was (hc j hj)⟩⟩
/-- .. of integers of kind k. -/
def IsInts (k : IntKind) (w : World) (v : Value) (zs : List Int) : Prop := Slc w v zs.length 1 (fun j => .int k (zs.getD j 0)) ∧ ∀ n ∈ zs, (Lit.int k n).wf = true
open Go.ChangeShapes Go.ChangeAt Go.WideShapes in
theorem isInts_of_trod {H : Type} {enc : TypeId × Value → H} {P : Program} {W : World} {T E : TypeId} {k : IntKind} {v : Value} {d : DataW H} {p : List MemPlace} {base : Nat} {sp : Nat → Bool}
    (hT : P.underlying T = some (.slice E)) (hE : P.underlying E = some (.int k)) (hc : P.cellsOf E = 1) (ho : Value.okWide P W .any base T v) (h : DataW.Trod enc P W 0 sp true T v d p) : ∃ zs, IsInts k W v zs := by
  obtain ⟨a, len, cap, rfl⟩ := okWide_slice hT ho
  obtain ⟨fuel, hf⟩ := h
  rcases open_ints hT hE hc hf with ⟨hcs, _⟩ | ⟨x, l, c, zs, hcs, _, hl, hm, hz, _, hcell, hwz⟩
  · simp [Value.cells] at hcs
    obtain ⟨rfl, rfl, rfl⟩ := hcs
    exact ⟨[], ⟨_, _, rfl, by simp, fun h => by simp at h⟩, by simp⟩
  · simp [Value.cells] at hcs
    obtain ⟨rfl, rfl, rfl⟩ := hcs
    have hlz : len ≤ zs.length := by rw [hz]; split <;> omega
    have ht : (zs.take len).length = len := by simp; omega
    refine ⟨zs.take len, ⟨some x, cap, by rw [ht], by rw [ht]; omega, fun hp => ?_⟩, fun n hn => hwz n (List.mem_of_mem_take hn)⟩
    rw [ht] at hp
    obtain ⟨b, off, rfl, hcc⟩ := ints_at hcell (by omega)
    refine ⟨b, off, rfl, World.block_lt_of_cell? W _ (hcc 0 (by omega)), fun j hj => ?_⟩
    rw [ht, Nat.mul_one] at hj
    rw [hcc j (by omega)]
    simp [List.getElem?_take, hj]
end Go.Proofs.Ytaeipfpdimjfoaa
