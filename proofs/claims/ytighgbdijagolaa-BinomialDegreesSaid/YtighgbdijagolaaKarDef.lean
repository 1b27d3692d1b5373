/-
  What Carry computes, in plain lists. No program in sight. Conditions: none.
-/
import Derived.Test.YtighgbdijagolaaGy
import Derived.Test.YtighgbdijagolaaGw
set_option linter.unusedVariables false
set_option linter.unusedSimpArgs false
namespace Go.Proofs.Ytighgbdijagolaa

/-- Of two roots the one that is ahead, and the other one. -/
def joinHi (lt : Int → Int → Bool) (a b : Nat) : Nat := if lt b a then b else a
def joinLo (lt : Int → Int → Bool) (a b : Nat) : Nat := if lt b a then a else b
structure CF where
  k : Nat → List Int
  u : Nat → Int
def CS.f (S : CS) : CF := ⟨S.k, S.u⟩
def rootF (n : Nat) (F : CF) (x : Int) : Bool := decide (0 ≤ x ∧ x < n) && F.u x.toNat == -1
def degF (n : Nat) (F : CF) (x : Int) : Int := if 0 ≤ x ∧ x < n then (F.k x.toNat).length else 0
theorem root_f (n : Nat) (S : CS) (x : Int) : rootB n S x = rootF n S.f x := rfl
theorem deg_f (n : Nat) (S : CS) (x : Int) : degOf n S x = degF n S.f x := rfl
def linkF (F : CF) (a b : Nat) : CF := ⟨fun y => if y = a then F.k a ++ [(b : Int)] else F.k y, fun y => if y = b then (a : Int) else F.u y⟩
theorem link_f (S : CS) (v : Go.Value) (a b : Nat) : (linkS S v a b).f = linkF S.f a b := rfl

/-- Where Carry stands: the forest, what is left of both rows, what is carried, what is out, how often it was asked. -/
structure CC where
  F : CF
  A : List Int
  B : List Int
  N : List Int
  O : List Int
  q : Nat
def takeA (n k : Nat) (C : CC) : CC := match C.A with | x :: t => (if degF n C.F x = k then { C with A := t, N := C.N ++ [x] } else C) | [] => C
def takeB (n k : Nat) (C : CC) : CC := match C.B with | x :: t => (if degF n C.F x = k then { C with B := t, N := C.N ++ [x] } else C) | [] => C
def giveO (C : CC) : CC := match C.N with | [x] => { C with N := [], O := C.O ++ [x] } | [x, y, z] => { C with N := [y, z], O := C.O ++ [x] } | _ => C
def joinC (lt : Int → Int → Bool) (C : CC) : CC := match C.N with
  | [x, y] => { C with F := linkF C.F (joinHi lt x.toNat y.toNat) (joinLo lt x.toNat y.toNat), N := [(joinHi lt x.toNat y.toNat : Int)], q := C.q + 1 }
  | _ => C
def stepC (lt : Int → Int → Bool) (n k : Nat) (C : CC) : CC := joinC lt (giveO (takeB n k (takeA n k C)))
def runC (lt : Int → Int → Bool) (n : Nat) : Nat → CC → CC
  | 0, C => C
  | k + 1, C => stepC lt n k (runC lt n k C)
/-- What a round wants: few are carried, what is joined are two roots of one degree; rounds end. -/
structure RoundOk (dom : Int → Prop) (lt : Int → Int → Bool) (n k : Nat) (C : CC) : Prop where
  few : C.N.length ≤ 1
  join : ∀ x y, (giveO (takeB n k (takeA n k C))).N = [x, y] → ∃ a b : Nat, x = a ∧ y = b ∧ dom a ∧ dom b ∧ a < n ∧ b < n ∧ a ≠ b ∧ rootF n (giveO (takeB n k (takeA n k C))).F a = true ∧ rootF n (giveO (takeB n k (takeA n k C))).F b = true ∧
    degF n (giveO (takeB n k (takeA n k C))).F a = degF n (giveO (takeB n k (takeA n k C))).F b ∧ ((giveO (takeB n k (takeA n k C))).F.k a).length + 1 ≤ n ∧ ((giveO (takeB n k (takeA n k C))).F.k b).length + 1 ≤ n
  small : C.A.length + C.B.length + C.O.length ≤ 100000
  asked : C.q ≤ 1000000
  ends : C.A ≠ [] ∨ C.B ≠ [] ∨ C.N ≠ [] → k ≤ n
/-- Does the head of a row have this degree? -/
def tA (n k : Nat) (A : List Int) (F : CF) : Bool := match A with | x :: _ => degF n F x == (k : Int) | [] => false
def tot (C : CC) : Nat := C.A.length + C.B.length + C.N.length + C.O.length
theorem tot_takeA (n k : Nat) (C : CC) : tot (takeA n k C) = tot C ∧ (takeA n k C).N.length ≤ C.N.length + 1 := by
  unfold takeA tot
  split
  · rename_i x t h
    split
    · simp only [h, List.length_append, List.length_cons, List.length_nil]; omega
    · simp
  · simp
theorem tot_takeB (n k : Nat) (C : CC) : tot (takeB n k C) = tot C ∧ (takeB n k C).N.length ≤ C.N.length + 1 := by
  unfold takeB tot
  split
  · rename_i x t h
    split
    · simp only [h, List.length_append, List.length_cons, List.length_nil]; omega
    · simp
  · simp
theorem tot_giveO (C : CC) (h3 : C.N.length ≤ 3) : tot (giveO C) = tot C ∧ (giveO C).N.length ≤ 2 := by
  obtain ⟨F, A, B, N, O, q⟩ := C
  simp only at h3
  match N, h3 with
  | [], _ => simp [giveO, tot]
  | [x], _ => simp [giveO, tot]; try omega
  | [x, y], _ => simp [giveO, tot]
  | [x, y, z], _ => simp [giveO, tot]; try omega
  | _ :: _ :: _ :: _ :: _, h3 => simp at h3; try omega
theorem q_same (n k : Nat) (C : CC) : (giveO (takeB n k (takeA n k C))).q = C.q := by
  have h1 : ∀ C, (giveO C).q = C.q := fun C => by unfold giveO; split <;> rfl
  have h2 : ∀ C, (takeB n k C).q = C.q := fun C => by
    unfold takeB; split
    · split <;> rfl
    · rfl
  have h3 : ∀ C, (takeA n k C).q = C.q := fun C => by
    unfold takeA; split
    · split <;> rfl
    · rfl
  rw [h1, h2, h3]
end Go.Proofs.Ytighgbdijagolaa
