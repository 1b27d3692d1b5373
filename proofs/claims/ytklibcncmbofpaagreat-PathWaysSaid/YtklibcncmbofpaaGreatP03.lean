/-
  Lemmas for PathWays: Ns, Own. Conditions: those of each lemma.
-/
import Derived.WalkKit
import Derived.WalkSpells
import Derived.WalkLawsBesides
import Derived.BigQuiet
import Derived.Deep.RegionHeld3
import Derived.ProofKit
import Derived.OpenShut
import Derived.Lib.Hide
import Derived.Test.YtklibcncmbofpaaGreatP01
set_option linter.unusedVariables false
set_option linter.unusedSimpArgs false
namespace Go.Proofs.YtklibcncmbofpaaGreat
structure Cl where
 i : Int
 k : Int
 s : Int
instance : Inhabited Cl := ⟨⟨0, 0, 0⟩⟩
def Cl.z : Cl := ⟨0, 0, 0⟩
structure NS where
 hs : List Bool
 cs : List Cl
def NS.c (A : NS) (x : Nat) : Cl := A.cs.getD x Cl.z
def NS.new (n : Nat) : NS := ⟨[false], List.replicate n Cl.z⟩
def hasN (A : NS) (h : Int) : Bool := decide (1 ≤ h) && decide (h < A.hs.length) && A.hs.getD h.toNat false
def slotN (A : NS) (x : Int) : Bool := decide (0 ≤ x) && decide (x < A.cs.length)
def inN (A : NS) (x : Int) : Bool := slotN A x && decide (0 < (A.c x.toNat).i)
def withN (A : NS) (x : Nat) (c : Cl) : NS := ⟨A.hs, A.cs.set x c⟩
def lessE (k1 s1 k2 s2 : Int) : Bool := if k1 = k2 then decide (s1 < s2) else decide (k1 < k2)
def makeV (A : NS) : Int := if 65536 < A.hs.length then 0 else A.hs.length
def makeN (A : NS) : NS := if 65536 < A.hs.length then A else ⟨A.hs ++ [true], A.cs⟩
def putB (A : NS) (h x : Int) : Bool := hasN A h && slotN A x && !inN A x
def putN (A : NS) (h x k s : Int) : NS := if putB A h x then withN A x.toNat ⟨h, k, s⟩ else A
def dropN (A : NS) (x : Int) : NS := if inN A x then withN A x.toNat Cl.z else A
def lowB (A : NS) (x k s : Int) : Bool := inN A x && !lessE (A.c x.toNat).k (A.c x.toNat).s k s
def lowN (A : NS) (x k s : Int) : NS := if lowB A x k s then withN A x.toNat ⟨(A.c x.toNat).i, k, s⟩ else A
def lenL (cs : List Cl) (h : Int) : Nat := (cs.filter fun c => decide (c.i = h) && decide (0 < h)).length
def lenN (A : NS) (h : Int) : Nat := lenL A.cs h
def lt3 (A : NS) (a b : Nat) : Prop := (A.c a).k < (A.c b).k ∨ (A.c a).k = (A.c b).k ∧ ((A.c a).s < (A.c b).s ∨ (A.c a).s = (A.c b).s ∧ a < b)
instance (A : NS) (a b : Nat) : Decidable (lt3 A a b) := by unfold lt3; infer_instance
def aheadN (A : NS) (a b : Int) : Bool := inN A a && inN A b && decide (lt3 A a.toNat b.toNat)
def minF (A : NS) (h : Int) (b : Option Nat) (x : Nat) : Option Nat := if decide (0 < h) && decide ((A.c x).i = h) && (match b with | none => true | some y => aheadN A x y) then some x else b
def minN (A : NS) (h : Int) : Option Nat := (List.range A.cs.length).foldl (minF A h) none
def slotV (o : Option Nat) : Int := match o with | some x => (x : Int) | none => 0
structure NS.Ok (A : NS) : Prop where
 h0 : 1 ≤ A.hs.length
 h1 : A.hs.length ≤ 65537
 h2 : A.hs.getD 0 false = false
 c1 : A.cs.length ≤ 65536
 cell : ∀ x, x < A.cs.length → ((A.c x).i = 0 ∧ (A.c x).k = 0 ∧ (A.c x).s = 0) ∨ hasN A (A.c x).i = true
 key : ∀ x, -9223372036854775808 ≤ (A.c x).k ∧ (A.c x).k ≤ 9223372036854775807 ∧ 0 ≤ (A.c x).s ∧ (A.c x).s ≤ 18446744073709551615
theorem hasN_iff (A : NS) (h : Int) : hasN A h = true ↔ 1 ≤ h ∧ h < A.hs.length ∧ A.hs.getD h.toNat false = true := by
 unfold hasN; simp [and_assoc]
theorem slotN_iff (A : NS) (x : Int) : slotN A x = true ↔ 0 ≤ x ∧ x < A.cs.length := by unfold slotN; simp
theorem inN_iff (A : NS) (x : Int) : inN A x = true ↔ 0 ≤ x ∧ x < A.cs.length ∧ 0 < (A.c x.toNat).i := by unfold inN slotN; simp [and_assoc]
theorem inN_nat (A : NS) (x : Nat) : inN A (x : Int) = true ↔ x < A.cs.length ∧ 0 < (A.c x).i := by rw [inN_iff]; simp
theorem NS.Ok.nat {A : NS} (h : A.Ok) (x : Nat) (hx : x < A.cs.length) : 0 ≤ (A.c x).i ∧ (A.c x).i < A.hs.length := by
 rcases h.cell x hx with h' | h'
 ·have := h.h0; omega
 ·have := (hasN_iff _ _).1 h'; omega
theorem c_with (A : NS) (x : Nat) (c : Cl) (y : Nat) : (withN A x c).c y = if y = x ∧ x < A.cs.length then c else A.c y := by
 unfold withN NS.c
 simp only [List.getD_eq_getElem?_getD, List.getElem?_set]
 by_cases h : x = y
 ·subst h
  by_cases hx : x < A.cs.length
  ·simp [hx]
  ·simp [hx, List.getElem?_eq_none (Nat.le_of_not_lt hx)]
 ·rw [if_neg h, if_neg (fun e => h e.1.symm)]
theorem len_with (A : NS) (x : Nat) (c : Cl) : (withN A x c).cs.length = A.cs.length := by unfold withN; simp
theorem has_with (A : NS) (x : Nat) (c : Cl) (h : Int) : hasN (withN A x c) h = hasN A h := rfl
theorem NS.Ok.with {A : NS} (h : A.Ok) (x : Nat) (c : Cl) (hc : (c.i = 0 ∧ c.k = 0 ∧ c.s = 0) ∨ hasN A c.i = true) (hk : -9223372036854775808 ≤ c.k ∧ c.k ≤ 9223372036854775807 ∧ 0 ≤ c.s ∧ c.s ≤ 18446744073709551615) : (withN A x c).Ok := by
 refine ⟨h.h0, h.h1, h.h2, by rw [len_with]; exact h.c1, fun y hy => ?_, fun y => ?_⟩
 ·rw [len_with] at hy
  rw [c_with, has_with]
  split
  ·exact hc
  ·exact h.cell y hy
 ·rw [c_with]; split
  ·exact hk
  ·exact h.key y
theorem NS.new_c (n x : Nat) : (NS.new n).c x = Cl.z := by
 unfold NS.new NS.c
 rw [List.getD_eq_getElem?_getD, List.getElem?_replicate]; split <;> rfl
theorem NS.new_ok (n : Nat) (hn : n ≤ 65536) : (NS.new n).Ok := by
 refine ⟨by simp [NS.new], by simp [NS.new], rfl, by simp [NS.new]; exact hn, fun x _ => Or.inl ?_, fun x => ?_⟩
 ·rw [NS.new_c]; exact ⟨rfl, rfl, rfl⟩
 ·rw [NS.new_c]; exact ⟨by decide, by decide, by decide, by decide⟩
theorem makeN_ok {A : NS} (h : A.Ok) : (makeN A).Ok := by
 unfold makeN; split
 ·exact h
 ·rename_i hl
  have h0 := h.h0
  refine ⟨by simp, by simp; omega, ?_, h.c1, fun x hx => ?_, h.key⟩
  ·have := h.h2
   simp only [List.getD_eq_getElem?_getD] at this ⊢
   rw [List.getElem?_append_left (by omega)]; exact this
  ·rcases h.cell x hx with h' | h'
   ·exact Or.inl h'
   ·refine Or.inr ?_
    have h2 := (hasN_iff _ _).1 h'
    refine (hasN_iff _ _).2 ⟨h2.1, by show (A.c x).i < ((A.hs ++ [true]).length : Int); rw [List.length_append]; have := h2.2.1; omega, ?_⟩
    have h3 := h2.2.2
    simp only [List.getD_eq_getElem?_getD] at h3 ⊢
    rw [List.getElem?_append_left (by show (A.c x).i.toNat < A.hs.length; omega)]; exact h3
theorem putB_iff (A : NS) (h x : Int) : putB A h x = true ↔ hasN A h = true ∧ slotN A x = true ∧ inN A x = false := by unfold putB; simp [and_assoc]
theorem putN_ok {A : NS} (h : A.Ok) (g x k s : Int) (hk : -9223372036854775808 ≤ k ∧ k ≤ 9223372036854775807 ∧ 0 ≤ s ∧ s ≤ 18446744073709551615) : (putN A g x k s).Ok := by
 unfold putN; split
 ·rename_i hp
  exact h.with _ _ (Or.inr ((putB_iff _ _ _).1 hp).1) hk
 ·exact h
theorem dropN_ok {A : NS} (h : A.Ok) (x : Int) : (dropN A x).Ok := by
 unfold dropN; split
 ·exact h.with _ _ (Or.inl ⟨rfl, rfl, rfl⟩) ⟨by decide, by decide, by decide, by decide⟩
 ·exact h
theorem inN_has {A : NS} (h : A.Ok) {x : Int} (hx : inN A x = true) : hasN A (A.c x.toNat).i = true := by
 have h1 := (inN_iff _ _).1 hx
 rcases h.cell x.toNat (by omega) with h' | h'
 ·omega
 ·exact h'
theorem lowN_ok {A : NS} (h : A.Ok) (x k s : Int) (hk : -9223372036854775808 ≤ k ∧ k ≤ 9223372036854775807 ∧ 0 ≤ s ∧ s ≤ 18446744073709551615) : (lowN A x k s).Ok := by
 unfold lowN; split
 ·rename_i hp
  unfold lowB at hp
  simp only [Bool.and_eq_true] at hp
  exact h.with _ _ (Or.inr (inN_has h hp.1)) hk
 ·exact h
/-! ### how many are in a heap -/
theorem lenL_le (cs : List Cl) (h : Int) : lenL cs h ≤ cs.length := List.length_filter_le _ _
theorem lenL_set (cs : List Cl) (x : Nat) (c : Cl) (h : Int) (hx : x < cs.length) :
  lenL (cs.set x c) h + (if (cs.getD x Cl.z).i = h ∧ 0 < h then 1 else 0) = lenL cs h + (if c.i = h ∧ 0 < h then 1 else 0) := by
 unfold lenL
 induction cs generalizing x with
 | nil => simp at hx
 | cons d r ih =>
  cases x with
  | zero =>
   simp only [List.set_cons_zero, List.filter_cons, List.getD_cons_zero]
   have e1 : ∀ c : Cl, (decide (c.i = h) && decide (0 < h)) = decide (c.i = h ∧ 0 < h) := fun c => by by_cases a : c.i = h <;> by_cases b : 0 < h <;> simp [a, b]
   have e2 : ∀ (p : Prop) [Decidable p] (d : Cl) (l : List Cl), (if decide p = true then d :: l else l).length = l.length + (if p then 1 else 0) := fun p _ d l => by by_cases hp : p <;> simp [hp]
   simp only [e1, e2]
   omega
  | succ x =>
   have := ih x (by simpa using hx)
   simp only [List.set_cons_succ, List.filter_cons, List.getD_cons_succ]
   split <;> simp at this ⊢ <;> omega
theorem lenN_with (A : NS) (x : Nat) (c : Cl) (h : Int) (hx : x < A.cs.length) :
  lenN (withN A x c) h + (if (A.c x).i = h ∧ 0 < h then 1 else 0) = lenN A h + (if c.i = h ∧ 0 < h then 1 else 0) := lenL_set A.cs x c h hx
theorem lenL_pos {cs : List Cl} {h : Int} : 0 < lenL cs h ↔ ∃ x, x < cs.length ∧ (cs.getD x Cl.z).i = h ∧ 0 < h := by
 unfold lenL
 rw [List.length_pos_iff_exists_mem]
 constructor
 ·rintro ⟨c, hc⟩
  obtain ⟨hm, hp⟩ := List.mem_filter.1 hc
  obtain ⟨x, hx, rfl⟩ := List.mem_iff_getElem.1 hm
  simp only [Bool.and_eq_true, decide_eq_true_eq] at hp
  exact ⟨x, hx, by simpa [List.getD_eq_getElem?_getD, hx] using hp.1, hp.2⟩
 ·rintro ⟨x, hx, h1, h2⟩
  refine ⟨cs[x], List.mem_filter.2 ⟨List.getElem_mem hx, ?_⟩⟩
  simp only [List.getD_eq_getElem?_getD, List.getElem?_eq_getElem hx, Option.getD_some] at h1
  simp [h1, h2]
theorem lenN_pos {A : NS} {h : Int} : 0 < lenN A h ↔ ∃ x, x < A.cs.length ∧ (A.c x).i = h ∧ 0 < h := lenL_pos
theorem lenN_le {A : NS} (hA : A.Ok) (h : Int) : lenN A h ≤ 65536 := Nat.le_trans (lenL_le _ _) hA.c1
/-! ### the order of slots -/
theorem lt3_trans {A : NS} {a b c : Nat} (h : lt3 A a b) (h' : lt3 A b c) : lt3 A a c := by unfold lt3 at *; omega
theorem lt3_irr {A : NS} {a : Nat} : ¬ lt3 A a a := by unfold lt3; omega
theorem lt3_total {A : NS} {a b : Nat} (h : a ≠ b) : lt3 A a b ∨ lt3 A b a := by unfold lt3; omega
theorem lt3_asym {A : NS} {a b : Nat} (h : lt3 A a b) : ¬ lt3 A b a := fun h' => lt3_irr (lt3_trans h h')
theorem ahead_nat (A : NS) (a b : Nat) : aheadN A (a : Int) (b : Int) = (inN A a && inN A b && decide (lt3 A a b)) := by unfold aheadN; simp
def IsMin (A : NS) (h : Int) (l : List Nat) (m : Nat) : Prop := m ∈ l ∧ (A.c m).i = h ∧ ∀ y, y ∈ l → (A.c y).i = h → y = m ∨ lt3 A m y
theorem minF_fold (A : NS) (h : Int) (hh : 0 < h) : ∀ (l : List Nat), (∀ x ∈ l, x < A.cs.length) → ∀ (pre : List Nat), (∀ x ∈ pre, x < A.cs.length) → ∀ o : Option Nat,
  (match o with | some m => IsMin A h pre m | none => ∀ y ∈ pre, (A.c y).i ≠ h) →
  (match l.foldl (minF A h) o with | some m => IsMin A h (pre ++ l) m | none => ∀ y ∈ pre ++ l, (A.c y).i ≠ h)
 | [], _, pre, _, o, ho => by simpa using ho
 | x :: l, hl, pre, hp, o, ho => by
  have hx := hl x (by simp)
  have step : (match minF A h o x with | some m => IsMin A h (pre ++ [x]) m | none => ∀ y ∈ pre ++ [x], (A.c y).i ≠ h) := by
   unfold minF
   by_cases hi : (A.c x).i = h
   ·cases o with
    | none =>
     simp only at ho
     simp only [hi, hh, decide_true, Bool.and_self, if_true]
     refine ⟨by simp, hi, fun y hy he => ?_⟩
     rcases List.mem_append.1 hy with hy | hy
     ·exact absurd he (ho y hy)
     ·exact Or.inl (by simpa using hy)
    | some m =>
     simp only at ho
     obtain ⟨h1, h2, h3⟩ := ho
     have hm := hp m h1
     have hin : inN A (x : Int) = true := (inN_nat A x).2 ⟨hx, by omega⟩
     have him : inN A (m : Int) = true := (inN_nat A m).2 ⟨hm, by omega⟩
     simp only [hi, hh, decide_true, Bool.and_self, Bool.true_and, ahead_nat, hin, him, decide_eq_true_eq]
     by_cases hlt : lt3 A x m
     ·rw [if_pos hlt]
      refine ⟨by simp, hi, fun y hy he => ?_⟩
      rcases List.mem_append.1 hy with hy | hy
      ·rcases h3 y hy he with rfl | h4
       ·exact Or.inr hlt
       ·exact Or.inr (lt3_trans hlt h4)
      ·exact Or.inl (by simpa using hy)
     ·rw [if_neg hlt]
      refine ⟨by simp [h1], h2, fun y hy he => ?_⟩
      rcases List.mem_append.1 hy with hy | hy
      ·exact h3 y hy he
      ·simp at hy; subst hy
       by_cases e : y = m
       ·exact Or.inl e
       ·rcases lt3_total (A := A) e with h4 | h4
        ·exact absurd h4 hlt
        ·exact Or.inr h4
   ·simp only [hi, decide_false, Bool.and_false, Bool.false_and, Bool.false_eq_true, if_false]
    cases o with
    | none =>
     simp only at ho ⊢
     intro y hy
     rcases List.mem_append.1 hy with hy | hy
     ·exact ho y hy
     ·simp at hy; subst hy; exact hi
    | some m =>
     simp only at ho ⊢
     obtain ⟨h1, h2, h3⟩ := ho
     refine ⟨by simp [h1], h2, fun y hy he => ?_⟩
     rcases List.mem_append.1 hy with hy | hy
     ·exact h3 y hy he
     ·simp at hy; subst hy; exact absurd he hi
  have := minF_fold A h hh l (fun y hy => hl y (by simp [hy])) (pre ++ [x]) (fun y hy => by rcases List.mem_append.1 hy with hy | hy; exact hp y hy; simp at hy; subst hy; exact hx) _ step
  simpa using this
def IsFirst (A : NS) (h : Int) (m : Nat) : Prop := m < A.cs.length ∧ (A.c m).i = h ∧ ∀ y, y < A.cs.length → (A.c y).i = h → y = m ∨ lt3 A m y
theorem minN_some {A : NS} {h : Int} (hh : 0 < h) {m : Nat} : minN A h = some m ↔ IsFirst A h m := by
 have := minF_fold A h hh (List.range A.cs.length) (fun x hx => by simpa using hx) [] (by simp) none (by simp)
 simp only [List.nil_append] at this
 change (match minN A h with | some m => _ | none => _) at this
 constructor
 ·intro e
  rw [e] at this
  obtain ⟨h1, h2, h3⟩ := this
  exact ⟨by simpa using h1, h2, fun y hy he => h3 y (by simpa using hy) he⟩
 ·rintro ⟨h1, h2, h3⟩
  cases e : minN A h with
  | none => rw [e] at this; exact absurd h2 (this m (by simpa using h1))
  | some m' =>
   rw [e] at this
   obtain ⟨k1, k2, k3⟩ := this
   rcases h3 m' (by simpa using k1) k2 with rfl | h4
   ·rfl
   ·rcases k3 m (by simpa using h1) h2 with rfl | h5
    ·rfl
    ·exact absurd h4 (lt3_asym h5)
theorem minN_none {A : NS} {h : Int} (hh : 0 < h) : minN A h = none ↔ lenN A h = 0 := by
 have := minF_fold A h hh (List.range A.cs.length) (fun x hx => by simpa using hx) [] (by simp) none (by simp)
 simp only [List.nil_append] at this
 change (match minN A h with | some m => _ | none => _) at this
 cases e : minN A h with
 | none =>
  rw [e] at this
  refine ⟨fun _ => ?_, fun _ => rfl⟩
  rcases Nat.eq_zero_or_pos (lenN A h) with h' | h'
  ·exact h'
  ·obtain ⟨x, hx, h1, _⟩ := lenN_pos.1 h'
   exact absurd h1 (this x (by simpa using hx))
 | some m =>
  rw [e] at this
  obtain ⟨k1, k2, _⟩ := this
  refine ⟨fun h => by (cases h), fun h0 => ?_⟩
  have : 0 < lenN A h := lenN_pos.2 ⟨m, by simpa using k1, k2, hh⟩
  omega
theorem minN_neg {A : NS} {h : Int} (hh : ¬ 0 < h) : minN A h = none := by
 unfold minN
 generalize List.range A.cs.length = l
 have : ∀ l : List Nat, l.foldl (minF A h) none = none := fun l => by
  induction l with
  | nil => rfl
  | cons x l ih => rw [List.foldl_cons, show minF A h none x = none by unfold minF; simp [hh]]; exact ih
 exact this l
theorem lenN_neg {A : NS} {h : Int} (hh : ¬ 0 < h) : lenN A h = 0 := by
 rcases Nat.eq_zero_or_pos (lenN A h) with h' | h'
 ·exact h'
 ·obtain ⟨x, _, _, h2⟩ := lenN_pos.1 h'; exact absurd h2 hh
theorem lt3_lower {A A' : NS} {x y : Nat} (h : lt3 A x y) (hy : A'.c y = A.c y) (hx : (A'.c x).k < (A.c x).k ∨ (A'.c x).k = (A.c x).k ∧ (A'.c x).s ≤ (A.c x).s) : lt3 A' x y := by
 unfold lt3 at *; rw [hy]; omega
theorem lowB_le {A : NS} {x k s : Int} (h : lowB A x k s = true) : k < (A.c x.toNat).k ∨ k = (A.c x.toNat).k ∧ s ≤ (A.c x.toNat).s := by
 unfold lowB lessE at h
 simp only [Bool.and_eq_true, Bool.not_eq_true'] at h
 have h2 := h.2
 split at h2
 ·simp at h2; omega
 ·simp at h2; omega
theorem low_c {A : NS} {x : Nat} {k s : Int} (hB : lowB A x k s = true) (hx : x < A.cs.length) (y : Nat) : (lowN A x k s).c y = if y = x then ⟨(A.c x).i, k, s⟩ else A.c y := by
 unfold lowN; rw [if_pos hB, Int.toNat_natCast, c_with]
 by_cases e : y = x
 ·rw [if_pos ⟨e, hx⟩, if_pos e]
 ·rw [if_neg (fun h => e h.1), if_neg e]
theorem low_i {A : NS} {x : Nat} {k s : Int} (hB : lowB A x k s = true) (hx : x < A.cs.length) (y : Nat) : ((lowN A x k s).c y).i = (A.c y).i := by
 rw [low_c hB hx]; split
 ·rename_i e; rw [e]
 ·rfl
theorem low_len (A : NS) (x k s : Int) : (lowN A x k s).cs.length = A.cs.length := by unfold lowN; split; exact len_with _ _ _; rfl
theorem low_hs (A : NS) (x k s : Int) : (lowN A x k s).hs = A.hs := by unfold lowN; split <;> rfl
theorem drop_c {A : NS} {x : Nat} (hB : inN A x = true) (y : Nat) : (dropN A x).c y = if y = x then Cl.z else A.c y := by
 have hx := ((inN_nat A x).1 hB).1
 unfold dropN; rw [if_pos hB, Int.toNat_natCast, c_with]
 by_cases e : y = x
 ·rw [if_pos ⟨e, hx⟩, if_pos e]
 ·rw [if_neg (fun h => e h.1), if_neg e]
theorem drop_len (A : NS) (x : Int) : (dropN A x).cs.length = A.cs.length := by unfold dropN; split; exact len_with _ _ _; rfl
theorem drop_hs (A : NS) (x : Int) : (dropN A x).hs = A.hs := by unfold dropN; split <;> rfl
theorem lt3_same {A A' : NS} {a b : Nat} (ha : A'.c a = A.c a) (hb : A'.c b = A.c b) : lt3 A' a b ↔ lt3 A a b := by unfold lt3; rw [ha, hb]
end Go.Proofs.YtklibcncmbofpaaGreat
namespace Go.Proofs.YtklibcncmbofpaaGreat
open Go Go.RowKit
theorem owns_mono {w : World} {base base' size n : Nat} {e : TypeId} {v : Value} {xs : List Value} (h : w.ownsRow base e size v n xs) (hb : base' ≤ base) : w.ownsRow base' e size v n xs := by
 refine ⟨h.1, ?_⟩
 rcases h.2 with hn | ⟨g, cap, cur, rfl, hb', hg, rest⟩
 ·exact Or.inl hn
 ·exact Or.inr ⟨g, cap, cur, rfl, Nat.le_trans hb hb', hg, rest⟩
theorem newCell (W : World) (us : List Value) (e : TypeId) (j : Nat) (u : Value) (hj : us[j]? = some u) : (W.alloc (.cells us.toArray e)).cell? ((⟨W.heap.size, 0, none⟩ : Addr).add j) = some u := by
 have e1 : ((⟨W.heap.size, 0, none⟩ : Addr).add j) = ⟨W.heap.size, j, none⟩ := by
  unfold Addr.add; split
  ·subst_vars; rfl
  ·simp
 rw [e1]
 have e2 : (W.alloc (.cells us.toArray e)).heap[W.heap.size]? = some (.cells us.toArray e) := by
  show (W.heap.push _)[W.heap.size]? = _
  simp
 unfold World.cell?; simp only [e2]; simpa using hj
theorem wpList_append_sep {P : Program} {ops : Array Oper} {rest : List Oper} {o : Oper} {a : Act} {Q : Exit → Act → World → Prop} {W : World} (hgd : o.guard = none) (s x : Operand) (t : TypeId)
  (ho : o.op = .call { callee := .builtin .append, args := #[s, x], argTypes := #[t, t] })
  (base : Nat) (e : TypeId) (z : Value) (size bytes : Nat) (ht : P.underlying t = some (.slice e)) (hinfo : (P.info? e).map (fun i => (i.zero, i.size, i.bytes)) = some (some z, size, bytes))
  (hzs : z.cells.size = size) (hsz : 0 < size) (v : Value) (n : Nat) (xs : List Value) (hs : a.eval s = v) (hown : W.ownsRow base e size v n xs)
  (us : List Value) (hus : us.length = size) (h1 : ∀ u ∈ us, u.oneCell' = true) (hx : a.eval x = .slice (some ⟨W.heap.size, 0, none⟩) 1 1)
  (hn : n + 1 ≤ maxLen) (hbytes : (n + 1) * bytes ≤ 140737488355328) (hbase : base ≤ W.heap.size)
  (h : ∀ v' w', w'.ownsRow base e size v' (n + 1) (xs ++ us) → Upd v.ownBlock.toList W w' → (v'.ownBlock = v.ownBlock ∨ ∀ k, v'.ownBlock = some k → W.heap.size < k) → wpList P ops Q rest (a.put o.dst v') w') :
  wpList P ops Q (o :: rest) a (W.alloc (.cells us.toArray e)) := by
 obtain ⟨i, hi, hz0, hz1, hz2⟩ := info_parts hinfo
 have hcell := fun j u hj => newCell W us e j u hj
 rcases hown.2 with ⟨rfl, rfl⟩ | ⟨g, cap, cur, rfl, hbg, hg, hnc, hcm, hcs, htk⟩
 ·have hxs : xs = [] := List.eq_nil_of_length_eq_zero (by rw [hown.1, Nat.zero_mul])
  subst hxs
  refine wpList_append_grows _ hgd s x t ho e i z size bytes ht hi hz0 hz1 hz2 hzs hsz none 0 0 [] hs (fun _ => ⟨rfl, rfl⟩) (by simp) (fun b hb => by cases hb) ⟨W.heap.size, 0, none⟩ 1 1 us hx (by omega) hcell h1 (by omega) hn hbytes ?_
  intro v' w' ho' hgr
  refine h v' w' (owns_mono ho' (by simp; omega)) (((Upd.refl _ _).alloc _).grown hgr (fun k hk => by cases hk)) (Or.inr fun k hk => ?_)
  have := (ho'.lt k hk).1
  simp at this; omega
 ·have hown' := hown.alloc (.cells us.toArray e)
  by_cases hfit : n + 1 ≤ cap
  ·refine wpList_append_fits _ hgd s x t ho base e i size ht hi hz1 g n cap xs hs hown' ⟨W.heap.size, 0, none⟩ 1 1 us hx (by omega) hcell h1 hfit ?_
   intro w' ho' hgr
   exact h _ w' ho' (((Upd.refl _ _).alloc _).grown hgr (fun k hk => Or.inl (by cases hk; simp [Value.ownBlock]))) (Or.inl rfl)
  ·refine wpList_append_grows _ hgd s x t ho e i z size bytes ht hi hz0 hz1 hz2 hzs hsz (some ⟨g, 0, none⟩) n cap xs hs (fun hb => by cases hb) hown.1 (fun b hb j u hj => ?_) ⟨W.heap.size, 0, none⟩ 1 1 us hx (by omega) hcell h1 (by omega) hn hbytes ?_
   ·cases hb
    exact hown'.cells rfl j u hj
   ·intro v' w' ho' hgr
    refine h v' w' (owns_mono ho' (by simp; omega)) (((Upd.refl _ _).alloc _).grown hgr (fun k hk => by cases hk)) (Or.inr fun k hk => ?_)
    have := (ho'.lt k hk).1
    simp at this; omega
theorem owns_upd {w w' : World} {S : List Nat} {base size n : Nat} {e : TypeId} {v : Value} {xs : List Value} (h : w.ownsRow base e size v n xs) (hu : Upd S w w') (hne : ∀ k, v.ownBlock = some k → k ∉ S) : w'.ownsRow base e size v n xs := by
 refine ⟨h.1, ?_⟩
 rcases h.2 with hn | ⟨g, cap, cur, rfl, hb, hg, rest⟩
 ·exact Or.inl hn
 ·have hlt := h.lt g rfl
  exact Or.inr ⟨g, cap, cur, rfl, hb, by rw [hu.block g hlt.2 (hne g rfl)]; exact hg, rest⟩
theorem Upd.own {w0 w w' : World} {S : List Nat} {base size n : Nat} {e : TypeId} {v : Value} {xs : List Value} (h : Upd S w0 w) (ho : w.ownsRow base e size v n xs) (hb : w0.heap.size ≤ base) (hu : Upd v.ownBlock.toList w w') : Upd S w0 w' :=
 h.joined hu (fun x hx => Or.inr (Nat.le_trans hb (ho.lt x (by simpa using hx)).1))
theorem own_shape {w : World} {base size n : Nat} {e : TypeId} {v : Value} {xs : List Value} (h : w.ownsRow base e size v n xs) (hn : 0 < n) :
  ∃ g cap, v = .slice (some ⟨g, 0, none⟩) n cap ∧ base ≤ g ∧ g < w.heap.size ∧ n ≤ cap ∧ cap ≤ 9223372036854775807 ∧ (∀ j u, xs[j]? = some u → w.cell? ⟨g, j, none⟩ = some u) ∧ ∀ j, w.frozen? ⟨g, j, none⟩ = false := by
 rcases h.2 with ⟨_, h0⟩ | ⟨g, cap, cur, rfl, hb, hg, hnc, hcm, _⟩
 ·omega
 ·refine ⟨g, cap, rfl, hb, (h.lt g rfl).2, hnc, by unfold maxLen at hcm; exact hcm, fun j u hj => ?_, fun j => h.frozenAt j⟩
  have hlt : j < xs.length := by
   rcases Nat.lt_or_ge j xs.length with h' | h'
   ·exact h'
   ·rw [List.getElem?_eq_none h'] at hj; cases hj
  rw [h.cellAt j (by rw [← h.1]; exact hlt)]; exact hj
theorem own_lit (W : World) (xs : List Value) (e : TypeId) (base size n : Nat) (hl : xs.length = n * size) (hb : base ≤ W.heap.size) (hn : n ≤ maxLen) :
  (W.alloc (.cells xs.toArray e)).ownsRow base e size (.slice (some ⟨W.heap.size, 0, none⟩) n n) n xs := by
 refine ⟨hl, Or.inr ⟨W.heap.size, n, xs.toArray, rfl, hb, ?_, Nat.le_refl _, hn, by simpa using hl, ?_⟩⟩
 ·show (W.heap.push _)[W.heap.size]? = _; simp
 ·rw [← hl]; simp
theorem own_slice {w : World} {base size n : Nat} {e : TypeId} {v : Value} {xs : List Value} (h : w.ownsRow base e size v n xs) : ∃ a cap, v = .slice a n cap ∧ cap ≤ 9223372036854775807 := by
 rcases h.2 with ⟨rfl, rfl⟩ | ⟨g, cap, cur, rfl, _, _, _, hc, _⟩
 ·exact ⟨none, 0, rfl, by omega⟩
 ·exact ⟨_, cap, rfl, by unfold maxLen at hc; exact hc⟩
end Go.Proofs.YtklibcncmbofpaaGreat
