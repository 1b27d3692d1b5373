/-
  Lemmas for RankNames: Base, Ns, Own, Row, Append, Ints, Ent. Conditions: those of each lemma.
-/
import Derived.WalkKit
import Derived.WalkSpells
import Derived.WalkLawsBesides
import Derived.BigQuiet
import Derived.Deep.RegionHeld3
import Derived.ProofKit
import Derived.OpenShut
import Derived.Lib.Hide
import Derived.Maps.AppendAt
import Derived.Test.YtklibcncmbofpaaGreatProg
set_option linter.unusedVariables false
set_option linter.unusedSimpArgs false
namespace Go.Proofs.YtklibcncmbofpaaGreat
open Go.RowKit
theorem ret_int {k : IntKind} {a b : Int} (h : a = b) : Ending.returned (.int k a) = .returned (.int k b) := by rw [h]
theorem ret_bool {a b : Bool} (h : a = b) : Ending.returned (.bool a) = .returned (.bool b) := by rw [h]
structure Upd (S : List Nat) (w w' : World) : Prop where
 os : w'.os = w.os
 tape : w'.tape = w.tape
 output : w'.output = w.output
 size : w.heap.size ≤ w'.heap.size
 block : ∀ k, k < w.heap.size → k ∉ S → w'.heap[k]? = w.heap[k]?
theorem Upd.refl (S : List Nat) (w : World) : Upd S w w := ⟨rfl, rfl, rfl, Nat.le_refl _, fun _ _ _ => rfl⟩
theorem Upd.joined {S T : List Nat} {a b c : World} (h : Upd S a b) (k : Upd T b c) (hT : ∀ x, x ∈ T → x ∈ S ∨ a.heap.size ≤ x) : Upd S a c :=
  ⟨k.os.trans h.os, k.tape.trans h.tape, k.output.trans h.output, Nat.le_trans h.size k.size,
   fun i hi hs => (k.block i (Nat.lt_of_lt_of_le hi h.size) (fun hm => by rcases hT i hm with h1 | h1; exact hs h1; omega)).trans (h.block i hi hs)⟩
theorem Upd.trans {S : List Nat} {a b c : World} (h : Upd S a b) (k : Upd S b c) : Upd S a c := h.joined k (fun _ hx => Or.inl hx)
theorem Upd.then {S : List Nat} {a b c : World} (h : Upd S a b) (k : Upd [] b c) : Upd S a c := h.joined k (fun _ hx => by cases hx)
theorem Upd.mono {S T : List Nat} {a b : World} (h : Upd S a b) (hs : ∀ x, x ∈ S → x ∈ T) : Upd T a b :=
 ⟨h.os, h.tape, h.output, h.size, fun k hk hn => h.block k hk (fun hm => hn (hs k hm))⟩
theorem Upd.drew {S : List Nat} {a w : World} (h : Upd S a w) : Upd S a w.drew := ⟨h.os, h.tape, h.output, h.size, h.block⟩
theorem Upd.drewN {S : List Nat} {a w : World} (h : Upd S a w) (n : Nat) : Upd S a (w.drewN n) := ⟨h.os, h.tape, h.output, h.size, h.block⟩
theorem Upd.alloc {S : List Nat} {a w : World} (h : Upd S a w) (o : Obj) : Upd S a (w.alloc o) :=
 h.joined (T := []) ⟨rfl, rfl, rfl, by simp, fun k hk _ => Below.heap_alloc _ _ _ hk⟩ (fun _ hx => by cases hx)
theorem Upd.setCell {S : List Nat} {a w : World} (h : Upd S a w) {p : Addr} (hp : p.block ∈ S ∨ a.heap.size ≤ p.block) (u : Value) : Upd S a (w.setCell p u) :=
 h.joined (T := [p.block]) ⟨rfl, rfl, rfl, by simp [World.setCell], fun k hk hn => Below.heap_setCell _ _ _ _ (by simpa using hn)⟩ (fun x hx => by simp at hx; rw [hx]; exact hp)
theorem Upd.grown {S : List Nat} {a w w' : World} {row : Option Nat} (h : Upd S a w) (hg : w.grownBy w' row) (hr : ∀ k, row = some k → k ∈ S ∨ a.heap.size ≤ k) : Upd S a w' :=
 h.joined (T := row.toList) ⟨hg.os, hg.tape, hg.output, hg.size, fun k hk hn => hg.block k hk (fun e => hn (by rw [← e]; simp))⟩ (fun x hx => hr x (by simpa using hx))
theorem Upd.cell {S : List Nat} {w w' : World} (h : Upd S w w') {p : Addr} (hp : p.block < w.heap.size) (hn : p.block ∉ S) : w'.cell? p = w.cell? p := World.cell?_of_block (w := w) (h.block p.block hp hn)
theorem Upd.frozen {S : List Nat} {w w' : World} (h : Upd S w w') {p : Addr} (hp : p.block < w.heap.size) (hn : p.block ∉ S) : w'.frozen? p = w.frozen? p := World.frozen?_of_block (w := w) (h.block p.block hp hn)
theorem Upd.below {w w' : World} (h : Upd [] w w') : Below w.heap.size w w' := ⟨h.os, h.tape, h.output, h.size, fun k hk => h.block k hk (by simp)⟩
theorem Upd.was {w w' : World} (h : Upd [] w w') {p : Addr} {v : Value} (hv : w.cell? p = some v) : w'.cell? p = some v := by
 rw [h.cell (World.block_lt_of_cell? w p hv) (by simp)]; exact hv
theorem Upd.kept {S : List Nat} {w w' : World} (h : Upd S w w') {p : Addr} {v : Value} (hv : w.cell? p = some v) (hn : p.block ∉ S) : w'.cell? p = some v := by
 rw [h.cell (World.block_lt_of_cell? w p hv) hn]; exact hv
theorem Upd.keptF {S : List Nat} {w w' : World} (h : Upd S w w') {p : Addr} {v : Value} (hv : w.cell? p = some v) (hn : p.block ∉ S) (hf : w.frozen? p = false) : w'.frozen? p = false := by
 rw [h.frozen (World.block_lt_of_cell? w p hv) hn]; exact hf
theorem bcell {W w1 : World} (hb : Upd [] W w1) : (∀ a, (W.cell? a).isSome = true → w1.cell? a = W.cell? a) ∧ (∀ a, (W.cell? a).isSome = true → w1.frozen? a = W.frozen? a) :=
  ⟨fun a h => by obtain ⟨u, hu⟩ := Option.isSome_iff_exists.1 h; exact hb.cell (World.block_lt_of_cell? W a hu) (by simp),
   fun a h => by obtain ⟨u, hu⟩ := Option.isSome_iff_exists.1 h; exact hb.frozen (World.block_lt_of_cell? W a hu) (by simp)⟩
end Go.Proofs.YtklibcncmbofpaaGreat
namespace Go.Proofs.YtklibcncmbofpaaGreat
structure Cl where
 i : Int
 k : Int
 s : Int
instance : Inhabited Cl := ⟨⟨0, 0, 0⟩⟩
def Cl.z : Cl := ⟨0, 0, 0⟩
structure NS where
 hs : List Bool
 cs : List Cl
def NS.c (A : NS) (x : Nat) : Cl := A.cs.getD x Cl.z
def NS.new (n : Nat) : NS := ⟨[false], List.replicate n Cl.z⟩
def hasN (A : NS) (h : Int) : Bool := decide (1 ≤ h) && decide (h < A.hs.length) && A.hs.getD h.toNat false
def slotN (A : NS) (x : Int) : Bool := decide (0 ≤ x) && decide (x < A.cs.length)
def inN (A : NS) (x : Int) : Bool := slotN A x && decide (0 < (A.c x.toNat).i)
def withN (A : NS) (x : Nat) (c : Cl) : NS := ⟨A.hs, A.cs.set x c⟩
def lessE (k1 s1 k2 s2 : Int) : Bool := if k1 = k2 then decide (s1 < s2) else decide (k1 < k2)
def makeV (A : NS) : Int := if 65536 < A.hs.length then 0 else A.hs.length
def makeN (A : NS) : NS := if 65536 < A.hs.length then A else ⟨A.hs ++ [true], A.cs⟩
def putB (A : NS) (h x : Int) : Bool := hasN A h && slotN A x && !inN A x
def putN (A : NS) (h x k s : Int) : NS := if putB A h x then withN A x.toNat ⟨h, k, s⟩ else A
def dropN (A : NS) (x : Int) : NS := if inN A x then withN A x.toNat Cl.z else A
def lowB (A : NS) (x k s : Int) : Bool := inN A x && !lessE (A.c x.toNat).k (A.c x.toNat).s k s
def lowN (A : NS) (x k s : Int) : NS := if lowB A x k s then withN A x.toNat ⟨(A.c x.toNat).i, k, s⟩ else A
def lenL (cs : List Cl) (h : Int) : Nat := (cs.filter fun c => decide (c.i = h) && decide (0 < h)).length
def lenN (A : NS) (h : Int) : Nat := lenL A.cs h
def lt3 (A : NS) (a b : Nat) : Prop := (A.c a).k < (A.c b).k ∨ (A.c a).k = (A.c b).k ∧ ((A.c a).s < (A.c b).s ∨ (A.c a).s = (A.c b).s ∧ a < b)
instance (A : NS) (a b : Nat) : Decidable (lt3 A a b) := by unfold lt3; infer_instance
def aheadN (A : NS) (a b : Int) : Bool := inN A a && inN A b && decide (lt3 A a.toNat b.toNat)
def minF (A : NS) (h : Int) (b : Option Nat) (x : Nat) : Option Nat := if decide (0 < h) && decide ((A.c x).i = h) && (match b with | none => true | some y => aheadN A x y) then some x else b
def minN (A : NS) (h : Int) : Option Nat := (List.range A.cs.length).foldl (minF A h) none
def slotV (o : Option Nat) : Int := match o with | some x => (x : Int) | none => 0
structure NS.Ok (A : NS) : Prop where
 h0 : 1 ≤ A.hs.length
 h1 : A.hs.length ≤ 65537
 h2 : A.hs.getD 0 false = false
 c1 : A.cs.length ≤ 65536
 cell : ∀ x, x < A.cs.length → ((A.c x).i = 0 ∧ (A.c x).k = 0 ∧ (A.c x).s = 0) ∨ hasN A (A.c x).i = true
 key : ∀ x, -9223372036854775808 ≤ (A.c x).k ∧ (A.c x).k ≤ 9223372036854775807 ∧ 0 ≤ (A.c x).s ∧ (A.c x).s ≤ 18446744073709551615
theorem hasN_iff (A : NS) (h : Int) : hasN A h = true ↔ 1 ≤ h ∧ h < A.hs.length ∧ A.hs.getD h.toNat false = true := by
 unfold hasN; simp [and_assoc]
theorem slotN_iff (A : NS) (x : Int) : slotN A x = true ↔ 0 ≤ x ∧ x < A.cs.length := by unfold slotN; simp
theorem inN_iff (A : NS) (x : Int) : inN A x = true ↔ 0 ≤ x ∧ x < A.cs.length ∧ 0 < (A.c x.toNat).i := by unfold inN slotN; simp [and_assoc]
theorem inN_nat (A : NS) (x : Nat) : inN A (x : Int) = true ↔ x < A.cs.length ∧ 0 < (A.c x).i := by rw [inN_iff]; simp
theorem NS.Ok.nat {A : NS} (h : A.Ok) (x : Nat) (hx : x < A.cs.length) : 0 ≤ (A.c x).i ∧ (A.c x).i < A.hs.length := by
 rcases h.cell x hx with h' | h'
 ·have := h.h0; omega
 ·have := (hasN_iff _ _).1 h'; omega
theorem c_with (A : NS) (x : Nat) (c : Cl) (y : Nat) : (withN A x c).c y = if y = x ∧ x < A.cs.length then c else A.c y := by
 unfold withN NS.c
 simp only [List.getD_eq_getElem?_getD, List.getElem?_set]
 by_cases h : x = y
 ·subst h
  by_cases hx : x < A.cs.length
  ·simp [hx]
  ·simp [hx, List.getElem?_eq_none (Nat.le_of_not_lt hx)]
 ·rw [if_neg h, if_neg (fun e => h e.1.symm)]
theorem len_with (A : NS) (x : Nat) (c : Cl) : (withN A x c).cs.length = A.cs.length := by unfold withN; simp
theorem has_with (A : NS) (x : Nat) (c : Cl) (h : Int) : hasN (withN A x c) h = hasN A h := rfl
theorem NS.Ok.with {A : NS} (h : A.Ok) (x : Nat) (c : Cl) (hc : (c.i = 0 ∧ c.k = 0 ∧ c.s = 0) ∨ hasN A c.i = true) (hk : -9223372036854775808 ≤ c.k ∧ c.k ≤ 9223372036854775807 ∧ 0 ≤ c.s ∧ c.s ≤ 18446744073709551615) : (withN A x c).Ok := by
 refine ⟨h.h0, h.h1, h.h2, by rw [len_with]; exact h.c1, fun y hy => ?_, fun y => ?_⟩
 ·rw [len_with] at hy
  rw [c_with, has_with]
  split
  ·exact hc
  ·exact h.cell y hy
 ·rw [c_with]; split
  ·exact hk
  ·exact h.key y
theorem NS.new_c (n x : Nat) : (NS.new n).c x = Cl.z := by
 unfold NS.new NS.c
 rw [List.getD_eq_getElem?_getD, List.getElem?_replicate]; split <;> rfl
theorem NS.new_ok (n : Nat) (hn : n ≤ 65536) : (NS.new n).Ok := by
 refine ⟨by simp [NS.new], by simp [NS.new], rfl, by simp [NS.new]; exact hn, fun x _ => Or.inl ?_, fun x => ?_⟩
 ·rw [NS.new_c]; exact ⟨rfl, rfl, rfl⟩
 ·rw [NS.new_c]; exact ⟨by decide, by decide, by decide, by decide⟩
theorem makeN_ok {A : NS} (h : A.Ok) : (makeN A).Ok := by
 unfold makeN; split
 ·exact h
 ·rename_i hl
  have h0 := h.h0
  refine ⟨by simp, by simp; omega, ?_, h.c1, fun x hx => ?_, h.key⟩
  ·have := h.h2
   simp only [List.getD_eq_getElem?_getD] at this ⊢
   rw [List.getElem?_append_left (by omega)]; exact this
  ·rcases h.cell x hx with h' | h'
   ·exact Or.inl h'
   ·refine Or.inr ?_
    have h2 := (hasN_iff _ _).1 h'
    refine (hasN_iff _ _).2 ⟨h2.1, by show (A.c x).i < ((A.hs ++ [true]).length : Int); rw [List.length_append]; have := h2.2.1; omega, ?_⟩
    have h3 := h2.2.2
    simp only [List.getD_eq_getElem?_getD] at h3 ⊢
    rw [List.getElem?_append_left (by show (A.c x).i.toNat < A.hs.length; omega)]; exact h3
theorem putB_iff (A : NS) (h x : Int) : putB A h x = true ↔ hasN A h = true ∧ slotN A x = true ∧ inN A x = false := by unfold putB; simp [and_assoc]
theorem putN_ok {A : NS} (h : A.Ok) (g x k s : Int) (hk : -9223372036854775808 ≤ k ∧ k ≤ 9223372036854775807 ∧ 0 ≤ s ∧ s ≤ 18446744073709551615) : (putN A g x k s).Ok := by
 unfold putN; split
 ·rename_i hp
  exact h.with _ _ (Or.inr ((putB_iff _ _ _).1 hp).1) hk
 ·exact h
theorem dropN_ok {A : NS} (h : A.Ok) (x : Int) : (dropN A x).Ok := by
 unfold dropN; split
 ·exact h.with _ _ (Or.inl ⟨rfl, rfl, rfl⟩) ⟨by decide, by decide, by decide, by decide⟩
 ·exact h
theorem inN_has {A : NS} (h : A.Ok) {x : Int} (hx : inN A x = true) : hasN A (A.c x.toNat).i = true := by
 have h1 := (inN_iff _ _).1 hx
 rcases h.cell x.toNat (by omega) with h' | h'
 ·omega
 ·exact h'
theorem lowN_ok {A : NS} (h : A.Ok) (x k s : Int) (hk : -9223372036854775808 ≤ k ∧ k ≤ 9223372036854775807 ∧ 0 ≤ s ∧ s ≤ 18446744073709551615) : (lowN A x k s).Ok := by
 unfold lowN; split
 ·rename_i hp
  unfold lowB at hp
  simp only [Bool.and_eq_true] at hp
  exact h.with _ _ (Or.inr (inN_has h hp.1)) hk
 ·exact h
/-! ### how many are in a heap -/
theorem lenL_le (cs : List Cl) (h : Int) : lenL cs h ≤ cs.length := List.length_filter_le _ _
theorem lenL_set (cs : List Cl) (x : Nat) (c : Cl) (h : Int) (hx : x < cs.length) :
  lenL (cs.set x c) h + (if (cs.getD x Cl.z).i = h ∧ 0 < h then 1 else 0) = lenL cs h + (if c.i = h ∧ 0 < h then 1 else 0) := by
 unfold lenL
 induction cs generalizing x with
 | nil => simp at hx
 | cons d r ih =>
  cases x with
  | zero =>
   simp only [List.set_cons_zero, List.filter_cons, List.getD_cons_zero]
   have e1 : ∀ c : Cl, (decide (c.i = h) && decide (0 < h)) = decide (c.i = h ∧ 0 < h) := fun c => by by_cases a : c.i = h <;> by_cases b : 0 < h <;> simp [a, b]
   have e2 : ∀ (p : Prop) [Decidable p] (d : Cl) (l : List Cl), (if decide p = true then d :: l else l).length = l.length + (if p then 1 else 0) := fun p _ d l => by by_cases hp : p <;> simp [hp]
   simp only [e1, e2]
   omega
  | succ x =>
   have := ih x (by simpa using hx)
   simp only [List.set_cons_succ, List.filter_cons, List.getD_cons_succ]
   split <;> simp at this ⊢ <;> omega
theorem lenN_with (A : NS) (x : Nat) (c : Cl) (h : Int) (hx : x < A.cs.length) :
  lenN (withN A x c) h + (if (A.c x).i = h ∧ 0 < h then 1 else 0) = lenN A h + (if c.i = h ∧ 0 < h then 1 else 0) := lenL_set A.cs x c h hx
theorem lenL_pos {cs : List Cl} {h : Int} : 0 < lenL cs h ↔ ∃ x, x < cs.length ∧ (cs.getD x Cl.z).i = h ∧ 0 < h := by
 unfold lenL
 rw [List.length_pos_iff_exists_mem]
 constructor
 ·rintro ⟨c, hc⟩
  obtain ⟨hm, hp⟩ := List.mem_filter.1 hc
  obtain ⟨x, hx, rfl⟩ := List.mem_iff_getElem.1 hm
  simp only [Bool.and_eq_true, decide_eq_true_eq] at hp
  exact ⟨x, hx, by simpa [List.getD_eq_getElem?_getD, hx] using hp.1, hp.2⟩
 ·rintro ⟨x, hx, h1, h2⟩
  refine ⟨cs[x], List.mem_filter.2 ⟨List.getElem_mem hx, ?_⟩⟩
  simp only [List.getD_eq_getElem?_getD, List.getElem?_eq_getElem hx, Option.getD_some] at h1
  simp [h1, h2]
theorem lenN_pos {A : NS} {h : Int} : 0 < lenN A h ↔ ∃ x, x < A.cs.length ∧ (A.c x).i = h ∧ 0 < h := lenL_pos
theorem lenN_le {A : NS} (hA : A.Ok) (h : Int) : lenN A h ≤ 65536 := Nat.le_trans (lenL_le _ _) hA.c1
/-! ### the order of slots -/
theorem lt3_trans {A : NS} {a b c : Nat} (h : lt3 A a b) (h' : lt3 A b c) : lt3 A a c := by unfold lt3 at *; omega
theorem lt3_irr {A : NS} {a : Nat} : ¬ lt3 A a a := by unfold lt3; omega
theorem lt3_total {A : NS} {a b : Nat} (h : a ≠ b) : lt3 A a b ∨ lt3 A b a := by unfold lt3; omega
theorem lt3_asym {A : NS} {a b : Nat} (h : lt3 A a b) : ¬ lt3 A b a := fun h' => lt3_irr (lt3_trans h h')
theorem ahead_nat (A : NS) (a b : Nat) : aheadN A (a : Int) (b : Int) = (inN A a && inN A b && decide (lt3 A a b)) := by unfold aheadN; simp
def IsMin (A : NS) (h : Int) (l : List Nat) (m : Nat) : Prop := m ∈ l ∧ (A.c m).i = h ∧ ∀ y, y ∈ l → (A.c y).i = h → y = m ∨ lt3 A m y
theorem minF_fold (A : NS) (h : Int) (hh : 0 < h) : ∀ (l : List Nat), (∀ x ∈ l, x < A.cs.length) → ∀ (pre : List Nat), (∀ x ∈ pre, x < A.cs.length) → ∀ o : Option Nat,
  (match o with | some m => IsMin A h pre m | none => ∀ y ∈ pre, (A.c y).i ≠ h) →
  (match l.foldl (minF A h) o with | some m => IsMin A h (pre ++ l) m | none => ∀ y ∈ pre ++ l, (A.c y).i ≠ h)
 | [], _, pre, _, o, ho => by simpa using ho
 | x :: l, hl, pre, hp, o, ho => by
  have hx := hl x (by simp)
  have step : (match minF A h o x with | some m => IsMin A h (pre ++ [x]) m | none => ∀ y ∈ pre ++ [x], (A.c y).i ≠ h) := by
   unfold minF
   by_cases hi : (A.c x).i = h
   ·cases o with
    | none =>
     simp only at ho
     simp only [hi, hh, decide_true, Bool.and_self, if_true]
     refine ⟨by simp, hi, fun y hy he => ?_⟩
     rcases List.mem_append.1 hy with hy | hy
     ·exact absurd he (ho y hy)
     ·exact Or.inl (by simpa using hy)
    | some m =>
     simp only at ho
     obtain ⟨h1, h2, h3⟩ := ho
     have hm := hp m h1
     have hin : inN A (x : Int) = true := (inN_nat A x).2 ⟨hx, by omega⟩
     have him : inN A (m : Int) = true := (inN_nat A m).2 ⟨hm, by omega⟩
     simp only [hi, hh, decide_true, Bool.and_self, Bool.true_and, ahead_nat, hin, him, decide_eq_true_eq]
     by_cases hlt : lt3 A x m
     ·rw [if_pos hlt]
      refine ⟨by simp, hi, fun y hy he => ?_⟩
      rcases List.mem_append.1 hy with hy | hy
      ·rcases h3 y hy he with rfl | h4
       ·exact Or.inr hlt
       ·exact Or.inr (lt3_trans hlt h4)
      ·exact Or.inl (by simpa using hy)
     ·rw [if_neg hlt]
      refine ⟨by simp [h1], h2, fun y hy he => ?_⟩
      rcases List.mem_append.1 hy with hy | hy
      ·exact h3 y hy he
      ·simp at hy; subst hy
       by_cases e : y = m
       ·exact Or.inl e
       ·rcases lt3_total (A := A) e with h4 | h4
        ·exact absurd h4 hlt
        ·exact Or.inr h4
   ·simp only [hi, decide_false, Bool.and_false, Bool.false_and, Bool.false_eq_true, if_false]
    cases o with
    | none =>
     simp only at ho ⊢
     intro y hy
     rcases List.mem_append.1 hy with hy | hy
     ·exact ho y hy
     ·simp at hy; subst hy; exact hi
    | some m =>
     simp only at ho ⊢
     obtain ⟨h1, h2, h3⟩ := ho
     refine ⟨by simp [h1], h2, fun y hy he => ?_⟩
     rcases List.mem_append.1 hy with hy | hy
     ·exact h3 y hy he
     ·simp at hy; subst hy; exact absurd he hi
  have := minF_fold A h hh l (fun y hy => hl y (by simp [hy])) (pre ++ [x]) (fun y hy => by rcases List.mem_append.1 hy with hy | hy; exact hp y hy; simp at hy; subst hy; exact hx) _ step
  simpa using this
def IsFirst (A : NS) (h : Int) (m : Nat) : Prop := m < A.cs.length ∧ (A.c m).i = h ∧ ∀ y, y < A.cs.length → (A.c y).i = h → y = m ∨ lt3 A m y
theorem minN_some {A : NS} {h : Int} (hh : 0 < h) {m : Nat} : minN A h = some m ↔ IsFirst A h m := by
 have := minF_fold A h hh (List.range A.cs.length) (fun x hx => by simpa using hx) [] (by simp) none (by simp)
 simp only [List.nil_append] at this
 change (match minN A h with | some m => _ | none => _) at this
 constructor
 ·intro e
  rw [e] at this
  obtain ⟨h1, h2, h3⟩ := this
  exact ⟨by simpa using h1, h2, fun y hy he => h3 y (by simpa using hy) he⟩
 ·rintro ⟨h1, h2, h3⟩
  cases e : minN A h with
  | none => rw [e] at this; exact absurd h2 (this m (by simpa using h1))
  | some m' =>
   rw [e] at this
   obtain ⟨k1, k2, k3⟩ := this
   rcases h3 m' (by simpa using k1) k2 with rfl | h4
   ·rfl
   ·rcases k3 m (by simpa using h1) h2 with rfl | h5
    ·rfl
    ·exact absurd h4 (lt3_asym h5)
theorem minN_none {A : NS} {h : Int} (hh : 0 < h) : minN A h = none ↔ lenN A h = 0 := by
 have := minF_fold A h hh (List.range A.cs.length) (fun x hx => by simpa using hx) [] (by simp) none (by simp)
 simp only [List.nil_append] at this
 change (match minN A h with | some m => _ | none => _) at this
 cases e : minN A h with
 | none =>
  rw [e] at this
  refine ⟨fun _ => ?_, fun _ => rfl⟩
  rcases Nat.eq_zero_or_pos (lenN A h) with h' | h'
  ·exact h'
  ·obtain ⟨x, hx, h1, _⟩ := lenN_pos.1 h'
   exact absurd h1 (this x (by simpa using hx))
 | some m =>
  rw [e] at this
  obtain ⟨k1, k2, _⟩ := this
  refine ⟨fun h => by (cases h), fun h0 => ?_⟩
  have : 0 < lenN A h := lenN_pos.2 ⟨m, by simpa using k1, k2, hh⟩
  omega
theorem minN_neg {A : NS} {h : Int} (hh : ¬ 0 < h) : minN A h = none := by
 unfold minN
 generalize List.range A.cs.length = l
 have : ∀ l : List Nat, l.foldl (minF A h) none = none := fun l => by
  induction l with
  | nil => rfl
  | cons x l ih => rw [List.foldl_cons, show minF A h none x = none by unfold minF; simp [hh]]; exact ih
 exact this l
theorem lenN_neg {A : NS} {h : Int} (hh : ¬ 0 < h) : lenN A h = 0 := by
 rcases Nat.eq_zero_or_pos (lenN A h) with h' | h'
 ·exact h'
 ·obtain ⟨x, _, _, h2⟩ := lenN_pos.1 h'; exact absurd h2 hh
theorem lt3_lower {A A' : NS} {x y : Nat} (h : lt3 A x y) (hy : A'.c y = A.c y) (hx : (A'.c x).k < (A.c x).k ∨ (A'.c x).k = (A.c x).k ∧ (A'.c x).s ≤ (A.c x).s) : lt3 A' x y := by
 unfold lt3 at *; rw [hy]; omega
theorem lowB_le {A : NS} {x k s : Int} (h : lowB A x k s = true) : k < (A.c x.toNat).k ∨ k = (A.c x.toNat).k ∧ s ≤ (A.c x.toNat).s := by
 unfold lowB lessE at h
 simp only [Bool.and_eq_true, Bool.not_eq_true'] at h
 have h2 := h.2
 split at h2
 ·simp at h2; omega
 ·simp at h2; omega
theorem low_c {A : NS} {x : Nat} {k s : Int} (hB : lowB A x k s = true) (hx : x < A.cs.length) (y : Nat) : (lowN A x k s).c y = if y = x then ⟨(A.c x).i, k, s⟩ else A.c y := by
 unfold lowN; rw [if_pos hB, Int.toNat_natCast, c_with]
 by_cases e : y = x
 ·rw [if_pos ⟨e, hx⟩, if_pos e]
 ·rw [if_neg (fun h => e h.1), if_neg e]
theorem low_i {A : NS} {x : Nat} {k s : Int} (hB : lowB A x k s = true) (hx : x < A.cs.length) (y : Nat) : ((lowN A x k s).c y).i = (A.c y).i := by
 rw [low_c hB hx]; split
 ·rename_i e; rw [e]
 ·rfl
theorem low_len (A : NS) (x k s : Int) : (lowN A x k s).cs.length = A.cs.length := by unfold lowN; split; exact len_with _ _ _; rfl
theorem low_hs (A : NS) (x k s : Int) : (lowN A x k s).hs = A.hs := by unfold lowN; split <;> rfl
theorem drop_c {A : NS} {x : Nat} (hB : inN A x = true) (y : Nat) : (dropN A x).c y = if y = x then Cl.z else A.c y := by
 have hx := ((inN_nat A x).1 hB).1
 unfold dropN; rw [if_pos hB, Int.toNat_natCast, c_with]
 by_cases e : y = x
 ·rw [if_pos ⟨e, hx⟩, if_pos e]
 ·rw [if_neg (fun h => e h.1), if_neg e]
theorem drop_len (A : NS) (x : Int) : (dropN A x).cs.length = A.cs.length := by unfold dropN; split; exact len_with _ _ _; rfl
theorem drop_hs (A : NS) (x : Int) : (dropN A x).hs = A.hs := by unfold dropN; split <;> rfl
theorem lt3_same {A A' : NS} {a b : Nat} (ha : A'.c a = A.c a) (hb : A'.c b = A.c b) : lt3 A' a b ↔ lt3 A a b := by unfold lt3; rw [ha, hb]
end Go.Proofs.YtklibcncmbofpaaGreat
namespace Go.Proofs.YtklibcncmbofpaaGreat
open Go Go.RowKit
theorem owns_mono {w : World} {base base' size n : Nat} {e : TypeId} {v : Value} {xs : List Value} (h : w.ownsRow base e size v n xs) (hb : base' ≤ base) : w.ownsRow base' e size v n xs := by
 refine ⟨h.1, ?_⟩
 rcases h.2 with hn | ⟨g, cap, cur, rfl, hb', hg, rest⟩
 ·exact Or.inl hn
 ·exact Or.inr ⟨g, cap, cur, rfl, Nat.le_trans hb hb', hg, rest⟩
theorem newCell (W : World) (us : List Value) (e : TypeId) (j : Nat) (u : Value) (hj : us[j]? = some u) : (W.alloc (.cells us.toArray e)).cell? ((⟨W.heap.size, 0, none⟩ : Addr).add j) = some u := by
 have e1 : ((⟨W.heap.size, 0, none⟩ : Addr).add j) = ⟨W.heap.size, j, none⟩ := by
  unfold Addr.add; split
  ·subst_vars; rfl
  ·simp
 rw [e1]
 have e2 : (W.alloc (.cells us.toArray e)).heap[W.heap.size]? = some (.cells us.toArray e) := by
  show (W.heap.push _)[W.heap.size]? = _
  simp
 unfold World.cell?; simp only [e2]; simpa using hj
theorem wpList_append_sep {P : Program} {ops : Array Oper} {rest : List Oper} {o : Oper} {a : Act} {Q : Exit → Act → World → Prop} {W : World} (hgd : o.guard = none) (s x : Operand) (t : TypeId)
  (ho : o.op = .call { callee := .builtin .append, args := #[s, x], argTypes := #[t, t] })
  (base : Nat) (e : TypeId) (z : Value) (size bytes : Nat) (ht : P.underlying t = some (.slice e)) (hinfo : (P.info? e).map (fun i => (i.zero, i.size, i.bytes)) = some (some z, size, bytes))
  (hzs : z.cells.size = size) (hsz : 0 < size) (v : Value) (n : Nat) (xs : List Value) (hs : a.eval s = v) (hown : W.ownsRow base e size v n xs)
  (us : List Value) (hus : us.length = size) (h1 : ∀ u ∈ us, u.oneCell' = true) (hx : a.eval x = .slice (some ⟨W.heap.size, 0, none⟩) 1 1)
  (hn : n + 1 ≤ maxLen) (hbytes : (n + 1) * bytes ≤ 140737488355328) (hbase : base ≤ W.heap.size)
  (h : ∀ v' w', w'.ownsRow base e size v' (n + 1) (xs ++ us) → Upd v.ownBlock.toList W w' → (v'.ownBlock = v.ownBlock ∨ ∀ k, v'.ownBlock = some k → W.heap.size < k) → wpList P ops Q rest (a.put o.dst v') w') :
  wpList P ops Q (o :: rest) a (W.alloc (.cells us.toArray e)) := by
 obtain ⟨i, hi, hz0, hz1, hz2⟩ := info_parts hinfo
 have hcell := fun j u hj => newCell W us e j u hj
 rcases hown.2 with ⟨rfl, rfl⟩ | ⟨g, cap, cur, rfl, hbg, hg, hnc, hcm, hcs, htk⟩
 ·have hxs : xs = [] := List.eq_nil_of_length_eq_zero (by rw [hown.1, Nat.zero_mul])
  subst hxs
  refine wpList_append_grows _ hgd s x t ho e i z size bytes ht hi hz0 hz1 hz2 hzs hsz none 0 0 [] hs (fun _ => ⟨rfl, rfl⟩) (by simp) (fun b hb => by cases hb) ⟨W.heap.size, 0, none⟩ 1 1 us hx (by omega) hcell h1 (by omega) hn hbytes ?_
  intro v' w' ho' hgr
  refine h v' w' (owns_mono ho' (by simp; omega)) (((Upd.refl _ _).alloc _).grown hgr (fun k hk => by cases hk)) (Or.inr fun k hk => ?_)
  have := (ho'.lt k hk).1
  simp at this; omega
 ·have hown' := hown.alloc (.cells us.toArray e)
  by_cases hfit : n + 1 ≤ cap
  ·refine wpList_append_fits _ hgd s x t ho base e i size ht hi hz1 g n cap xs hs hown' ⟨W.heap.size, 0, none⟩ 1 1 us hx (by omega) hcell h1 hfit ?_
   intro w' ho' hgr
   exact h _ w' ho' (((Upd.refl _ _).alloc _).grown hgr (fun k hk => Or.inl (by cases hk; simp [Value.ownBlock]))) (Or.inl rfl)
  ·refine wpList_append_grows _ hgd s x t ho e i z size bytes ht hi hz0 hz1 hz2 hzs hsz (some ⟨g, 0, none⟩) n cap xs hs (fun hb => by cases hb) hown.1 (fun b hb j u hj => ?_) ⟨W.heap.size, 0, none⟩ 1 1 us hx (by omega) hcell h1 (by omega) hn hbytes ?_
   ·cases hb
    exact hown'.cells rfl j u hj
   ·intro v' w' ho' hgr
    refine h v' w' (owns_mono ho' (by simp; omega)) (((Upd.refl _ _).alloc _).grown hgr (fun k hk => by cases hk)) (Or.inr fun k hk => ?_)
    have := (ho'.lt k hk).1
    simp at this; omega
theorem owns_upd {w w' : World} {S : List Nat} {base size n : Nat} {e : TypeId} {v : Value} {xs : List Value} (h : w.ownsRow base e size v n xs) (hu : Upd S w w') (hne : ∀ k, v.ownBlock = some k → k ∉ S) : w'.ownsRow base e size v n xs := by
 refine ⟨h.1, ?_⟩
 rcases h.2 with hn | ⟨g, cap, cur, rfl, hb, hg, rest⟩
 ·exact Or.inl hn
 ·have hlt := h.lt g rfl
  exact Or.inr ⟨g, cap, cur, rfl, hb, by rw [hu.block g hlt.2 (hne g rfl)]; exact hg, rest⟩
theorem Upd.own {w0 w w' : World} {S : List Nat} {base size n : Nat} {e : TypeId} {v : Value} {xs : List Value} (h : Upd S w0 w) (ho : w.ownsRow base e size v n xs) (hb : w0.heap.size ≤ base) (hu : Upd v.ownBlock.toList w w') : Upd S w0 w' :=
 h.joined hu (fun x hx => Or.inr (Nat.le_trans hb (ho.lt x (by simpa using hx)).1))
theorem own_shape {w : World} {base size n : Nat} {e : TypeId} {v : Value} {xs : List Value} (h : w.ownsRow base e size v n xs) (hn : 0 < n) :
  ∃ g cap, v = .slice (some ⟨g, 0, none⟩) n cap ∧ base ≤ g ∧ g < w.heap.size ∧ n ≤ cap ∧ cap ≤ 9223372036854775807 ∧ (∀ j u, xs[j]? = some u → w.cell? ⟨g, j, none⟩ = some u) ∧ ∀ j, w.frozen? ⟨g, j, none⟩ = false := by
 rcases h.2 with ⟨_, h0⟩ | ⟨g, cap, cur, rfl, hb, hg, hnc, hcm, _⟩
 ·omega
 ·refine ⟨g, cap, rfl, hb, (h.lt g rfl).2, hnc, by unfold maxLen at hcm; exact hcm, fun j u hj => ?_, fun j => h.frozenAt j⟩
  have hlt : j < xs.length := by
   rcases Nat.lt_or_ge j xs.length with h' | h'
   ·exact h'
   ·rw [List.getElem?_eq_none h'] at hj; cases hj
  rw [h.cellAt j (by rw [← h.1]; exact hlt)]; exact hj
theorem own_lit (W : World) (xs : List Value) (e : TypeId) (base size n : Nat) (hl : xs.length = n * size) (hb : base ≤ W.heap.size) (hn : n ≤ maxLen) :
  (W.alloc (.cells xs.toArray e)).ownsRow base e size (.slice (some ⟨W.heap.size, 0, none⟩) n n) n xs := by
 refine ⟨hl, Or.inr ⟨W.heap.size, n, xs.toArray, rfl, hb, ?_, Nat.le_refl _, hn, by simpa using hl, ?_⟩⟩
 ·show (W.heap.push _)[W.heap.size]? = _; simp
 ·rw [← hl]; simp
theorem own_slice {w : World} {base size n : Nat} {e : TypeId} {v : Value} {xs : List Value} (h : w.ownsRow base e size v n xs) : ∃ a cap, v = .slice a n cap ∧ cap ≤ 9223372036854775807 := by
 rcases h.2 with ⟨rfl, rfl⟩ | ⟨g, cap, cur, rfl, _, _, _, hc, _⟩
 ·exact ⟨none, 0, rfl, by omega⟩
 ·exact ⟨_, cap, rfl, by unfold maxLen at hc; exact hc⟩
end Go.Proofs.YtklibcncmbofpaaGreat
namespace Go.Proofs.YtklibcncmbofpaaGreat
open Go Go.RowKit
def RowAt (w : World) (b : Nat) (e : TypeId) (m : Nat) (f : Nat → Value) : Prop :=
 ∃ arr : Array Value, w.heap[b]? = some (.cells arr e (0, 0)) ∧ arr.size = m ∧ ∀ j, j < m → arr[j]? = some (f j)
theorem RowAt.lt {w : World} {b m : Nat} {e : TypeId} {f : Nat → Value} (h : RowAt w b e m f) : b < w.heap.size := by
 obtain ⟨arr, h1, _⟩ := h
 rcases Nat.lt_or_ge b w.heap.size with h' | h'
 ·exact h'
 ·rw [Array.getElem?_eq_none h'] at h1; cases h1
theorem RowAt.cell {w : World} {b m : Nat} {e : TypeId} {f : Nat → Value} (h : RowAt w b e m f) (j : Nat) (hj : j < m) : w.cell? ⟨b, j, none⟩ = some (f j) := by
 obtain ⟨arr, h1, h2, h3⟩ := h
 unfold World.cell?; simp only [h1]; simpa using h3 j hj
theorem RowAt.cellAt {w : World} {b m : Nat} {e : TypeId} {f : Nat → Value} {v : Value} (h : RowAt w b e m f) (j : Nat) (hj : j < m) (hv : f j = v) : w.cell? ⟨b, j, none⟩ = some v := by rw [← hv]; exact h.cell j hj
theorem RowAt.free {w : World} {b m : Nat} {e : TypeId} {f : Nat → Value} (h : RowAt w b e m f) (j : Nat) : w.frozen? ⟨b, j, none⟩ = false := by
 obtain ⟨arr, h1, h2, h3⟩ := h
 simp [World.frozen?, h1]
theorem RowAt.same {w w' : World} {b m : Nat} {e : TypeId} {f : Nat → Value} (h : RowAt w b e m f) (hb : w'.heap[b]? = w.heap[b]?) : RowAt w' b e m f := by
 obtain ⟨arr, h1, h2, h3⟩ := h
 exact ⟨arr, hb.trans h1, h2, h3⟩
theorem RowAt.upd {w w' : World} {S : List Nat} {b m : Nat} {e : TypeId} {f : Nat → Value} (h : RowAt w b e m f) (hu : Upd S w w') (hn : b ∉ S) : RowAt w' b e m f := h.same (hu.block b h.lt hn)
theorem RowAt.ext {w : World} {b m : Nat} {e : TypeId} {f g : Nat → Value} (h : RowAt w b e m f) (hg : ∀ j, j < m → f j = g j) : RowAt w b e m g := by
 obtain ⟨arr, h1, h2, h3⟩ := h
 exact ⟨arr, h1, h2, fun j hj => by rw [h3 j hj, hg j hj]⟩
theorem RowAt.set {w : World} {b m : Nat} {e : TypeId} {f : Nat → Value} (h : RowAt w b e m f) (j : Nat) (v : Value) :
  RowAt (w.setCell ⟨b, j, none⟩ v) b e m (fun i => if i = j then v else f i) := by
 obtain ⟨arr, h1, h2, h3⟩ := h
 refine ⟨arr.setIfInBounds j v, ?_, by simp [h2], fun i hi => ?_⟩
 ·simp [World.setCell, Array.getElem?_modify, h1]
 ·rw [Array.getElem?_setIfInBounds]
  by_cases hij : j = i
  ·subst hij; simp [h2, hi]
  ·rw [if_neg hij]; show _ = some (if i = j then v else f i); rw [if_neg (fun e => hij e.symm)]; exact h3 i hi
theorem RowAt.far {w : World} {b m : Nat} {e : TypeId} {f : Nat → Value} (h : RowAt w b e m f) (a : Addr) (v : Value) (hn : b ≠ a.block) : RowAt (w.setCell a v) b e m f :=
 h.same (Below.heap_setCell _ _ _ _ hn)
theorem RowAt.alloc {w : World} {b m : Nat} {e : TypeId} {f : Nat → Value} (h : RowAt w b e m f) (o : Obj) : RowAt (w.alloc o) b e m f := h.same (Below.heap_alloc _ _ _ h.lt)
theorem rowAt_new (w : World) (l : List Value) (e : TypeId) : RowAt (w.alloc (.cells l.toArray e)) w.heap.size e l.length (fun j => l.getD j undef) := by
 refine ⟨l.toArray, ?_, by simp, fun j hj => ?_⟩
 ·show (w.heap.push _)[w.heap.size]? = _; simp
 ·simp [hj, List.getD_eq_getElem?_getD]
theorem rowAt_owns {w : World} {base size n cap g : Nat} {e : TypeId} {xs : List Value} (h : w.ownsRow base e size (.slice (some ⟨g, 0, none⟩) n cap) n xs) (hcap : cap = n) (hn : n = 0 → xs = []) :
  RowAt w g e (n * size) (fun j => xs.getD j undef) := by
 subst hcap
 rcases h.2 with ⟨h1, h0⟩ | ⟨g', cap', cur, h1, _, hg, _, _, hs, ht⟩
 ·cases h1
 ·simp only [Value.slice.injEq, Option.some.injEq, Addr.mk.injEq, and_true, true_and] at h1
  obtain ⟨rfl, rfl⟩ := h1
  refine ⟨cur, hg, hs, fun j hj => ?_⟩
  have e1 : cur.toList = xs := by rw [← ht, List.take_of_length_le (by simp [hs])]
  rw [← e1]
  have hj' : j < cur.toList.length := by simp [hs]; exact hj
  simp [List.getD_eq_getElem?_getD]
  rw [Array.getElem?_eq_getElem (by simpa using hj')]; rfl
theorem wpList_make_row {P : Program} {w : World} {ops : Array Oper} {rest : List Oper} {o : Oper} {a : Act} {Q : Exit → Act → World → Prop}
  (hg : o.guard = none) (l : Operand) (t : TypeId) (hop : o.op = Op.makeSlice t l l) (e : TypeId) (z : Value) (size bytes : Nat) (h1 : P.underlying t = some (.slice e))
  (hinfo : (P.info? e).map (fun i => (i.zero, i.size, i.bytes)) = some (some z, size, bytes)) (n : Nat) (hl : a.eval l = .int .i64 (n : Int)) (b2 : bytes * n ≤ 281474976710656) (b3 : n ≤ maxLen)
  (hK : ∀ w', RowAt w' w.heap.size e (n * size) (fun j => (madeCells z.cells (n * size)).toList.getD j undef) → Upd [] w w' → wpList P ops Q rest (a.put o.dst (.slice (some ⟨w.heap.size, 0, none⟩) n n)) w') :
  wpList P ops Q (o :: rest) a w := by
 obtain ⟨i, hi, hz0, hz1, hz2⟩ := info_parts hinfo
 exact wpList_make_full w hg l l t hop w.heap.size e i z size h1 hi hz0 hz1 .i64 .i64 n n n hl hl rfl rfl (by rw [hz2]; exact b2) b3 (Nat.le_refl _) (fun w' ho hgr =>
  hK w' (rowAt_owns ho rfl (fun h0 => List.eq_nil_of_length_eq_zero (by rw [ho.1, h0, Nat.zero_mul]))) ((Upd.refl [] w).grown hgr (fun k hk => by cases hk)))
def cv (w : World) (a : Addr) : Value := (w.cell? a).getD undef
end Go.Proofs.YtklibcncmbofpaaGreat
namespace Go.Proofs.YtklibcncmbofpaaGreat
open Go Go.RowKit
theorem addr_add0 (g j : Nat) : ((⟨g, 0, none⟩ : Addr).add j) = ⟨g, j, none⟩ := by
 unfold Addr.add; split
 ·subst_vars; rfl
 ·simp
theorem newCell0 (W : World) (us : List Value) (e : TypeId) (j : Nat) (u : Value) (hj : us[j]? = some u) : (W.alloc (.cells us.toArray e)).cell? ⟨W.heap.size, j, none⟩ = some u := by
 rw [← addr_add0]; exact newCell W us e j u hj
theorem wp_append_one {P : Program} {o : Oper} {a : Act} {w : World} {K : Act → World → Prop} {Q : Exit → Act → World → Prop} (s x : Operand) (t : TypeId)
  (ho : o.op = .call { callee := .builtin .append, args := #[s, x], argTypes := #[t, t] })
  (base : Nat) (e : TypeId) (z : Value) (size bytes : Nat) (ht : P.underlying t = some (.slice e)) (hinfo : (P.info? e).map (fun i => (i.zero, i.size, i.bytes)) = some (some z, size, bytes))
  (hzs : z.cells.size = size) (hsz : 0 < size) (v : Value) (n : Nat) (xs : List Value) (hs : a.eval s = v) (hown : w.ownsRow base e size v n xs)
  (g : Nat) (news : List Value) (hx : a.eval x = .slice (some ⟨g, 0, none⟩) 1 1) (hl : news.length = size) (hnews : ∀ j u, news[j]? = some u → w.cell? ⟨g, j, none⟩ = some u) (h1 : ∀ u ∈ news, u.oneCell' = true)
  (hn : n + 1 ≤ maxLen) (hbytes : (n + 1) * bytes ≤ 140737488355328) (hbase : base ≤ w.heap.size)
  (h : ∀ v' w', w'.ownsRow base e size v' (n + 1) (xs ++ news) → Upd v.ownBlock.toList w w' → (v'.ownBlock = v.ownBlock ∨ v'.ownBlock = some w.heap.size) → K (a.put o.dst v') w') : Oper.wp P o a w K Q := by
 obtain ⟨i, hi, hz0, hz1, hz2⟩ := info_parts hinfo
 obtain ⟨v', w', hr, h2, h3, _, h5⟩ := run_append_own_at (P := P) w base t o.type e i z size bytes ht hi hz0 hz1 hz2 hzs hsz v n xs hown ⟨g, 0, none⟩ 1 1 news (by rw [hl, Nat.one_mul]) (fun j u hj => by rw [addr_add0]; exact hnews j u hj) h1 hn hbytes hbase
 unfold Oper.wp execOp
 simp only [ho, resolve, invoke, builtin, Sem.run_bind, Sem.run_pure, Result.andThen_ok, List.map_toArray, List.map_cons, List.map_nil, hs, hx, hr]
 exact h _ _ h2 ((Upd.refl _ _).grown h3 (fun k hk => Or.inl (by simp [hk]))) h5
theorem step_append_one {P : Program} {ops : Array Oper} {o : Oper} {a : Act} {w : World} {K : Act → World → Prop} {Q : Exit → Act → World → Prop} {E : Prop} (hgd : o.guard = none) (s x : Operand) (t : TypeId)
  (ho : o.op = .call { callee := .builtin .append, args := #[s, x], argTypes := #[t, t] })
  (base : Nat) (e : TypeId) (z : Value) (size bytes : Nat) (ht : P.underlying t = some (.slice e)) (hinfo : (P.info? e).map (fun i => (i.zero, i.size, i.bytes)) = some (some z, size, bytes))
  (hzs : z.cells.size = size) (hsz : 0 < size) (v : Value) (n : Nat) (xs : List Value) (hs : a.eval s = v) (hown : w.ownsRow base e size v n xs)
  (g : Nat) (news : List Value) (hx : a.eval x = .slice (some ⟨g, 0, none⟩) 1 1) (hl : news.length = size) (hnews : ∀ j u, news[j]? = some u → w.cell? ⟨g, j, none⟩ = some u) (h1 : ∀ u ∈ news, u.oneCell' = true)
  (hn : n + 1 ≤ maxLen) (hbytes : (n + 1) * bytes ≤ 140737488355328) (hbase : base ≤ w.heap.size)
  (h : ∀ v' w', w'.ownsRow base e size v' (n + 1) (xs ++ news) → Upd v.ownBlock.toList w w' → (v'.ownBlock = v.ownBlock ∨ v'.ownBlock = some w.heap.size) → K (a.put o.dst v') w') :
  if Region.wanted o (yielded ops a.tmps) = true then Oper.wp P o a w K Q else E := by
 have hw : Region.wanted o (yielded ops a.tmps) = true := by simp [Region.wanted, hgd]
 rw [if_pos hw]
 exact wp_append_one s x t ho base e z size bytes ht hinfo hzs hsz v n xs hs hown g news hx hl hnews h1 hn hbytes hbase h
end Go.Proofs.YtklibcncmbofpaaGreat
namespace Go.Proofs.YtklibcncmbofpaaGreat
open Go Go.RowKit
theorem intInfo : (Tryz.prog.info? 3).map (fun i => (i.zero, i.size, i.bytes)) = some (some (.int .i64 0), 1, 8) := by kernel_rfl
def intsZ (l : List Int) : List Value := l.map (fun x => Value.int .i64 x)
theorem intsZ_append (a b : List Int) : intsZ (a ++ b) = intsZ a ++ intsZ b := by unfold intsZ; rw [List.map_append]
theorem intsZ_len (a : List Int) : (intsZ a).length = a.length := by unfold intsZ; simp
theorem intsZ_get {l : List Int} {j : Nat} (hj : j < l.length) : (intsZ l)[j]? = some (.int .i64 (l.getD j 0)) := by unfold intsZ; simp [List.getD_eq_getElem?_getD, hj]
theorem cell_new {X : World} {us : List Value} {e : TypeId} {g : Nat} (hg : g = X.heap.size) (j : Nat) {u : Value} (hj : us[j]? = some u) : (X.alloc (.cells us.toArray e)).cell? ⟨g, j, none⟩ = some u := by
 subst hg; exact newCell0 X us e j u hj
theorem cell_newd {X : World} {us : List Value} {e : TypeId} {g : Nat} (hg : g = X.heap.size) (j : Nat) {u : Value} (hj : us[j]? = some u) : ((X.alloc (.cells us.toArray e)).drew).cell? ⟨g, j, none⟩ = some u := cell_new hg j hj
structure IZ (w : World) (g cap : Nat) (l : List Int) : Prop where
 own : w.ownsRow 0 3 1 (.slice (some ⟨g, 0, none⟩) l.length cap) l.length (intsZ l)
theorem IZ.lt {w : World} {g cap : Nat} {l : List Int} (h : IZ w g cap l) : g < w.heap.size := (h.own.lt g rfl).2
theorem IZ.cap {w : World} {g cap : Nat} {l : List Int} (h : IZ w g cap l) : l.length ≤ cap ∧ cap ≤ 9223372036854775807 := by
 rcases h.own.2 with ⟨h1, _⟩ | ⟨g', cap', cur, h1, _, _, h2, h3, _⟩
 ·cases h1
 ·cases h1; unfold maxLen at h3; exact ⟨h2, h3⟩
theorem IZ.cell {w : World} {g cap : Nat} {l : List Int} (h : IZ w g cap l) (j : Nat) (hj : j < l.length) : w.cell? ⟨g, j, none⟩ = some (.int .i64 (l.getD j 0)) := by
 rw [h.own.cellAt j (by omega)]
 exact intsZ_get hj
theorem IZ.free {w : World} {g cap : Nat} {l : List Int} (h : IZ w g cap l) (j : Nat) : w.frozen? ⟨g, j, none⟩ = false := h.own.frozenAt j
theorem IZ.upd {w w' : World} {S : List Nat} {g cap : Nat} {l : List Int} (h : IZ w g cap l) (hu : Upd S w w') (hn : g ∉ S) : IZ w' g cap l :=
 ⟨owns_upd h.own hu (fun k hk => by cases hk; exact hn)⟩
theorem IZ.drewN {w : World} {g cap : Nat} {l : List Int} (h : IZ w g cap l) (n : Nat) : IZ (w.drewN n) g cap l := h.upd ((Upd.refl [] w).drewN n) (by simp)
theorem IZ.set {w : World} {g cap : Nat} {l : List Int} (h : IZ w g cap l) (j : Nat) (x : Int) : IZ (w.setCell ⟨g, j, none⟩ (.int .i64 x)) g cap (l.set j x) := by
 rcases h.own.2 with ⟨h1, _⟩ | ⟨g', cap', cur, h1, hb, hg, hn, hc, hs, ht⟩
 ·cases h1
 ·cases h1
  refine ⟨⟨by rw [intsZ_len]; omega, Or.inr ⟨g, cap, cur.setIfInBounds j (.int .i64 x), by rw [List.length_set], by omega, ?_, by rw [List.length_set]; exact hn, hc, by simp; omega, ?_⟩⟩⟩
  ·simp [World.setCell, Array.getElem?_modify, hg]
  ·rw [List.length_set, Array.toList_setIfInBounds]
   by_cases hj : j < l.length
   ·rw [List.take_set, ht]
    unfold intsZ
    rw [List.map_set]
   ·rw [List.take_set_of_le (by omega), ht, List.set_eq_of_length_le (by omega)]
theorem IZ.lit (w : World) (l : List Int) (hl : l.length ≤ 1000000) : IZ (w.alloc (.cells (intsZ l).toArray 3)) w.heap.size l.length l :=
 ⟨own_lit w (intsZ l) 3 0 1 l.length (by rw [intsZ_len]; omega) (by omega) (by unfold maxLen; omega)⟩
theorem IZ.of_own {w : World} {base : Nat} {v : Value} {l : List Int} (h : w.ownsRow base 3 1 v l.length (intsZ l)) (hl : 0 < l.length) : ∃ g cap, v = .slice (some ⟨g, 0, none⟩) l.length cap ∧ IZ w g cap l ∧ base ≤ g := by
 obtain ⟨g, cap, rfl, hb, _⟩ := own_shape h hl
 exact ⟨g, cap, rfl, ⟨owns_mono h (by omega)⟩, hb⟩
def SlI (w : World) (F : List Nat) (v : Value) (xs : List Int) : Prop :=
 ∃ a cap, v = .slice a xs.length cap ∧ xs.length ≤ cap ∧ cap ≤ 9223372036854775807 ∧ ∀ j u, xs[j]? = some u → ∃ g off, a = some ⟨g, off, none⟩ ∧ g < w.heap.size ∧ g ∉ F ∧ w.cell? ⟨g, off + j, none⟩ = some (.int .i64 u)
theorem SlI.fresh {w w' : World} {F F' : List Nat} {v : Value} {xs : List Int} (h : SlI w F v xs) (hu : Upd F w w') (hF : ∀ g, g ∈ F' → g ∈ F ∨ w.heap.size ≤ g) : SlI w' F' v xs := by
 obtain ⟨a, cap, rfl, h1, h2, h3⟩ := h
 refine ⟨a, cap, rfl, h1, h2, fun j u hj => ?_⟩
 obtain ⟨g, off, rfl, hg, hn, hc⟩ := h3 j u hj
 exact ⟨g, off, rfl, Nat.lt_of_lt_of_le hg hu.size, fun hm => by rcases hF g hm with h' | h'; exact hn h'; omega, by rw [hu.cell hg hn]; exact hc⟩
theorem SlI.of_own {w : World} {base : Nat} {v : Value} {xs : List Int} {F : List Nat} (h : w.ownsRow base 3 1 v xs.length (intsZ xs)) (hF : ∀ g, g ∈ F → g < base) : SlI w F v xs := by
 rcases h.2 with ⟨rfl, h0⟩ | ⟨g, cap, cur, rfl, hb, hg, hn, hc, _⟩
 ·have : xs = [] := List.eq_nil_of_length_eq_zero h0
  subst this
  exact ⟨none, 0, rfl, by simp, by omega, fun j u hj => by simp at hj⟩
 ·refine ⟨_, cap, rfl, hn, by unfold maxLen at hc; exact hc, fun j u hj => ⟨g, 0, rfl, (h.lt g rfl).2, fun hm => by have := hF g hm; omega, ?_⟩⟩
  have hjl := (List.getElem?_eq_some_iff.1 hj).1
  rw [Nat.zero_add, h.cellAt j (by omega), intsZ_get hjl]
  simp [List.getD_eq_getElem?_getD, hj]
end Go.Proofs.YtklibcncmbofpaaGreat
namespace Go.Proofs.YtklibcncmbofpaaGreat
open Go Go.RowKit
def cmpZ (a b : Int) : Int := if a < b then -1 else if b < a then 1 else 0
def cmpE (k1 s1 k2 s2 : Int) : Int := if k1 = k2 then cmpZ s1 s2 else cmpZ k1 k2
theorem cmpE_less (k1 s1 k2 s2 : Int) : decide (cmpE k1 s1 k2 s2 < 0) = lessE k1 s1 k2 s2 := by
 unfold cmpE lessE cmpZ
 split
 ·rw [decide_eq_decide]; split; omega; split <;> omega
 ·rw [decide_eq_decide]; split; omega; split <;> omega
theorem nanI_any (x : Int) (w : World) : Calls Tryz.prog 85 #[.int .i64 x] w fun e w' => e = .returned (.bool false) ∧ w' = w := by
 have h : (x != x) = false := by simp
 go_enter Tryz.func85, Tryz.ntmps85
 go_wp2
 go_ret
 exact ⟨rfl, rfl⟩
theorem nanU_any (x : Int) (w : World) : Calls Tryz.prog 173 #[.int .u64 x] w fun e w' => e = .returned (.bool false) ∧ w' = w := by
 have h : (x != x) = false := by simp
 go_enter Tryz.func173, Tryz.ntmps173
 go_wp2
 go_ret
 exact ⟨rfl, rfl⟩
theorem cmpI_any (a b : Int) (w : World) : Calls Tryz.prog 170 #[.int .i64 a, .int .i64 b] w fun e w' => e = .returned (.int .i64 (cmpZ a b)) ∧ w' = w := by
 have k := fun x => nanI_any x w
 unfold cmpZ
 by_cases h1 : a < b
 ·go_enter Tryz.func170, Tryz.ntmps170
  go_wp2_with ((go_at_call 85; (with_reducible refine ((k _)).mono ?_); rintro e w9 ⟨rfl, hw9⟩; rw [hw9]; clear hw9 w9))
  go_ret
  exact ⟨by first | rfl | (refine ret_int ?_; simp; try omega), rfl⟩
 ·by_cases h2 : b < a
  ·go_enter Tryz.func170, Tryz.ntmps170
   go_wp2_with ((go_at_call 85; (with_reducible refine ((k _)).mono ?_); rintro e w9 ⟨rfl, hw9⟩; rw [hw9]; clear hw9 w9))
   go_ret
   exact ⟨by first | rfl | (refine ret_int ?_; simp; try omega), rfl⟩
  ·have e : a = b := by omega
   subst e
   clear h1 h2
   go_enter Tryz.func170, Tryz.ntmps170
   go_wp2_with ((go_at_call 85; (with_reducible refine ((k _)).mono ?_); rintro e w9 ⟨rfl, hw9⟩; rw [hw9]; clear hw9 w9))
   go_ret
   exact ⟨by first | rfl | (refine ret_int ?_; simp; try omega), rfl⟩
theorem cmpU_any (a b : Int) (w : World) : Calls Tryz.prog 171 #[.int .u64 a, .int .u64 b] w fun e w' => e = .returned (.int .i64 (cmpZ a b)) ∧ w' = w := by
 have k := fun x => nanU_any x w
 unfold cmpZ
 by_cases h1 : a < b
 ·go_enter Tryz.func171, Tryz.ntmps171
  go_wp2_with ((go_at_call 173; (with_reducible refine ((k _)).mono ?_); rintro e w9 ⟨rfl, hw9⟩; rw [hw9]; clear hw9 w9))
  go_ret
  exact ⟨by first | rfl | (refine ret_int ?_; simp; try omega), rfl⟩
 ·by_cases h2 : b < a
  ·go_enter Tryz.func171, Tryz.ntmps171
   go_wp2_with ((go_at_call 173; (with_reducible refine ((k _)).mono ?_); rintro e w9 ⟨rfl, hw9⟩; rw [hw9]; clear hw9 w9))
   go_ret
   exact ⟨by first | rfl | (refine ret_int ?_; simp; try omega), rfl⟩
  ·have e : a = b := by omega
   subst e
   clear h1 h2
   go_enter Tryz.func171, Tryz.ntmps171
   go_wp2_with ((go_at_call 173; (with_reducible refine ((k _)).mono ?_); rintro e w9 ⟨rfl, hw9⟩; rw [hw9]; clear hw9 w9))
   go_ret
   exact ⟨by first | rfl | (refine ret_int ?_; simp; try omega), rfl⟩
def orZ (a b : Int) : Int := if a = 0 then b else a
set_option maxHeartbeats 1000000 in
theorem or_any (g : Nat) (a b : Int) (w : World) (c0 : w.cell? ⟨g, 0, none⟩ = some (.int .i64 a)) (c1 : w.cell? ⟨g, 1, none⟩ = some (.int .i64 b)) :
  Calls Tryz.prog 169 #[.slice (some ⟨g, 0, none⟩) 2 2] w fun e w' => e = .returned (.int .i64 (orZ a b)) ∧ w' = w := by
 unfold orZ
 by_cases ha : a = 0
 ·subst ha
  by_cases hb : b = 0
  ·subst hb
   go_enter Tryz.func169, Tryz.ntmps169
   go_wp2
   refine wp_loop_rounds 3 ?_
   rw [rounds_succ]
   go_wp2
   all_goals try (rw [rounds_succ]; go_wp2)
   all_goals try (rw [rounds_succ]; go_wp2)
   go_ret
   exact ⟨by simp, rfl⟩
  ·have hb' : (b != 0) = true := by simpa using hb
   go_enter Tryz.func169, Tryz.ntmps169
   go_wp2
   refine wp_loop_rounds 3 ?_
   rw [rounds_succ]
   go_wp2
   all_goals try (rw [rounds_succ]; go_wp2)
   all_goals try (rw [rounds_succ]; go_wp2)
   go_ret
   exact ⟨by simp, rfl⟩
 ·have ha' : (a != 0) = true := by simpa using ha
  have HA := Lib.hid ha
  clear ha
  go_enter Tryz.func169, Tryz.ntmps169
  go_wp2
  refine wp_loop_rounds 3 ?_
  rw [rounds_succ]
  go_wp2
  all_goals try (rw [rounds_succ]; go_wp2)
  all_goals try (rw [rounds_succ]; go_wp2)
  go_ret
  exact ⟨by first | rfl | rw [if_neg HA.out], rfl⟩
theorem orZ_cmp (k1 s1 k2 s2 : Int) : orZ (cmpZ k1 k2) (cmpZ s1 s2) = cmpE k1 s1 k2 s2 := by
 unfold orZ cmpE
 by_cases h : k1 = k2
 ·subst h; simp [cmpZ]
 ·rw [if_neg h, if_neg]
  unfold cmpZ; split; omega; split <;> omega
set_option maxHeartbeats 2000000 in
theorem compare_any (k1 s1 k2 s2 : Int) (w : World) : Calls Tryz.prog 164 #[.agg #[.int .i64 k1, .int .u64 s1], .agg #[.int .i64 k2, .int .u64 s2]] w fun e w' => e = .returned (.int .i64 (cmpE k1 s1 k2 s2)) ∧ Upd [] w w' := by
 rw [← orZ_cmp]
 have ka := fun W => cmpI_any k1 k2 W
 have kb := fun W => cmpU_any s1 s2 W
 generalize cmpZ k1 k2 = za at *
 generalize cmpZ s1 s2 = zb at *
 have r0 : ∀ W, Upd [] ((w.alloc (.cells #[.int .i64 k1, .int .u64 s1] 129)).alloc (.cells #[.int .i64 k2, .int .u64 s2] 129)) W → W.cell? ⟨w.heap.size, 0, none⟩ = some (.int .i64 k1) := fun W h => h.was (by simp)
 have r1 : ∀ W, Upd [] ((w.alloc (.cells #[.int .i64 k1, .int .u64 s1] 129)).alloc (.cells #[.int .i64 k2, .int .u64 s2] 129)) W → W.cell? ⟨w.heap.size, 1, none⟩ = some (.int .u64 s1) := fun W h => h.was (by simp)
 have r2 : ∀ W, Upd [] ((w.alloc (.cells #[.int .i64 k1, .int .u64 s1] 129)).alloc (.cells #[.int .i64 k2, .int .u64 s2] 129)) W → W.cell? ⟨w.heap.size + 1, 0, none⟩ = some (.int .i64 k2) := fun W h => h.was (by simp)
 have r3 : ∀ W, Upd [] ((w.alloc (.cells #[.int .i64 k1, .int .u64 s1] 129)).alloc (.cells #[.int .i64 k2, .int .u64 s2] 129)) W → W.cell? ⟨w.heap.size + 1, 1, none⟩ = some (.int .u64 s2) := fun W h => h.was (by simp)
 go_enter Tryz.func164, Tryz.ntmps164
 go_wp2
 go_region_held3 (Upd [] ((w.alloc (.cells #[.int .i64 k1, .int .u64 s1] 129)).alloc (.cells #[.int .i64 k2, .int .u64 s2] 129))) (repeat (first | assumption | exact Upd.refl _ _ | refine Upd.drew ?_ | refine Upd.alloc ?_ _ | (apply Upd.trans; rotate_left; assumption)))
  (first
   | (go_at_call 170; (with_reducible refine (ka _).mono ?_); rintro e w9 ⟨rfl, hw9⟩; rw [hw9]; clear hw9 w9)
   | (go_at_call 171; (with_reducible refine (kb _).mono ?_); rintro e w9 ⟨rfl, hw9⟩; rw [hw9]; clear hw9 w9)
   | (go_at_call 169; (with_reducible refine (or_any _ za zb _ (cell_newd (by simp) 0 rfl) (cell_newd (by simp) 1 rfl)).mono ?_); rintro e w9 ⟨rfl, hw9⟩; rw [hw9]; clear hw9 w9))
 go_wp2
 go_ret
 exact ⟨rfl, by (repeat (first | assumption | exact Upd.refl _ _ | refine Upd.alloc ?_ _ | refine Upd.drew ?_ | refine Upd.drewN ?_ _ | refine Upd.setCell ?_ (Or.inr (by first | (simp; done) | (simp; omega))) _ | (apply Upd.trans; rotate_left; assumption)))⟩
theorem eless_any (k1 s1 k2 s2 : Int) (w : World) : Calls Tryz.prog 158 #[.agg #[.int .i64 k1, .int .u64 s1], .agg #[.int .i64 k2, .int .u64 s2]] w fun e w' => e = .returned (.bool (lessE k1 s1 k2 s2)) ∧ Upd [] w w' := by
 rw [← cmpE_less]
 have k := fun W => compare_any k1 s1 k2 s2 W
 generalize cmpE k1 s1 k2 s2 = z at *
 go_enter Tryz.func158, Tryz.ntmps158
 go_wp2_with (go_at_call 164; (with_reducible refine (k _).mono ?_); rintro e w' ⟨rfl, hu⟩)
 all_goals
  go_ret
  exact ⟨ret_bool (by first | rfl | simp | (simp; omega)), ((Upd.refl _ _).alloc _ |>.alloc _).trans hu⟩
end Go.Proofs.YtklibcncmbofpaaGreat
