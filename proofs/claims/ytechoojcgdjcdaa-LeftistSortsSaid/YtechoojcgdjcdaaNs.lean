/-
  The document's nest, in plain lists: which heaps there are, what is in each slot; what each call makes of it. No program in sight. Conditions: none.
-/
import Derived.Test.YtechoojcgdjcdaaBase
set_option linter.unusedVariables false
set_option linter.unusedSimpArgs false
namespace Go.Proofs.Ytechoojcgdjcdaa

/-- A slot: its heap (0: none), its key, its number. -/
structure Cl where
  i : Int
  k : Int
  s : Int
instance : Inhabited Cl := ⟨⟨0, 0, 0⟩⟩
def Cl.z : Cl := ⟨0, 0, 0⟩
structure NS where
  hs : List Bool
  cs : List Cl
def NS.c (A : NS) (x : Nat) : Cl := A.cs.getD x Cl.z
def NS.new (n : Nat) : NS := ⟨[false], List.replicate n Cl.z⟩
def hasN (A : NS) (h : Int) : Bool := decide (1 ≤ h) && decide (h < A.hs.length) && A.hs.getD h.toNat false
def slotN (A : NS) (x : Int) : Bool := decide (0 ≤ x) && decide (x < A.cs.length)
def inN (A : NS) (x : Int) : Bool := slotN A x && decide (0 < (A.c x.toNat).i)
def withN (A : NS) (x : Nat) (c : Cl) : NS := ⟨A.hs, A.cs.set x c⟩
def lessE (k1 s1 k2 s2 : Int) : Bool := if k1 = k2 then decide (s1 < s2) else decide (k1 < k2)
def makeV (A : NS) : Int := if 65536 < A.hs.length then 0 else A.hs.length
def makeN (A : NS) : NS := if 65536 < A.hs.length then A else ⟨A.hs ++ [true], A.cs⟩
def putB (A : NS) (h x : Int) : Bool := hasN A h && slotN A x && !inN A x
def putN (A : NS) (h x k s : Int) : NS := if putB A h x then withN A x.toNat ⟨h, k, s⟩ else A
def dropN (A : NS) (x : Int) : NS := if inN A x then withN A x.toNat Cl.z else A
def lowB (A : NS) (x k s : Int) : Bool := inN A x && !lessE (A.c x.toNat).k (A.c x.toNat).s k s
def lowN (A : NS) (x k s : Int) : NS := if lowB A x k s then withN A x.toNat ⟨(A.c x.toNat).i, k, s⟩ else A
def joinB (A : NS) (a b : Int) : Bool := hasN A a && hasN A b && !(a == b)
def joinN (A : NS) (a b : Int) : NS := if joinB A a b then ⟨A.hs.set b.toNat false, A.cs.map fun c => if c.i = b then ⟨a, c.k, c.s⟩ else c⟩ else A
def lenL (cs : List Cl) (h : Int) : Nat := (cs.filter fun c => decide (c.i = h) && decide (0 < h)).length
def lenN (A : NS) (h : Int) : Nat := lenL A.cs h
/-- Which of two slots is ahead: by keys, by numbers, by places. -/
def lt3 (A : NS) (a b : Nat) : Prop := (A.c a).k < (A.c b).k ∨ (A.c a).k = (A.c b).k ∧ ((A.c a).s < (A.c b).s ∨ (A.c a).s = (A.c b).s ∧ a < b)
instance (A : NS) (a b : Nat) : Decidable (lt3 A a b) := by unfold lt3; infer_instance
def aheadN (A : NS) (a b : Int) : Bool := inN A a && inN A b && decide (lt3 A a.toNat b.toNat)
def minF (A : NS) (h : Int) (b : Option Nat) (x : Nat) : Option Nat := if decide (0 < h) && decide ((A.c x).i = h) && (match b with | none => true | some y => aheadN A x y) then some x else b
def minN (A : NS) (h : Int) : Option Nat := (List.range A.cs.length).foldl (minF A h) none
def slotV (o : Option Nat) : Int := match o with | some x => (x : Int) | none => 0

/-- What holds of each nest of the document. -/
structure NS.Ok (A : NS) : Prop where
  h0 : 1 ≤ A.hs.length
  h1 : A.hs.length ≤ 65537
  h2 : A.hs.getD 0 false = false
  c1 : A.cs.length ≤ 65536
  cell : ∀ x, x < A.cs.length → ((A.c x).i = 0 ∧ (A.c x).k = 0 ∧ (A.c x).s = 0) ∨ hasN A (A.c x).i = true
  key : ∀ x, -9223372036854775808 ≤ (A.c x).k ∧ (A.c x).k ≤ 9223372036854775807 ∧ 0 ≤ (A.c x).s ∧ (A.c x).s ≤ 18446744073709551615

theorem hasN_iff (A : NS) (h : Int) : hasN A h = true ↔ 1 ≤ h ∧ h < A.hs.length ∧ A.hs.getD h.toNat false = true := by
  unfold hasN; simp [and_assoc]
theorem slotN_iff (A : NS) (x : Int) : slotN A x = true ↔ 0 ≤ x ∧ x < A.cs.length := by unfold slotN; simp
theorem inN_iff (A : NS) (x : Int) : inN A x = true ↔ 0 ≤ x ∧ x < A.cs.length ∧ 0 < (A.c x.toNat).i := by unfold inN slotN; simp [and_assoc]
theorem inN_nat (A : NS) (x : Nat) : inN A (x : Int) = true ↔ x < A.cs.length ∧ 0 < (A.c x).i := by rw [inN_iff]; simp
theorem NS.Ok.nat {A : NS} (h : A.Ok) (x : Nat) (hx : x < A.cs.length) : 0 ≤ (A.c x).i ∧ (A.c x).i < A.hs.length := by
  rcases h.cell x hx with h' | h'
  · have := h.h0; omega
  · have := (hasN_iff _ _).1 h'; omega
theorem c_far {A : NS} {x : Nat} (hx : A.cs.length ≤ x) : A.c x = Cl.z := by unfold NS.c; rw [List.getD_eq_getElem?_getD, List.getElem?_eq_none hx]; rfl
theorem c_with (A : NS) (x : Nat) (c : Cl) (y : Nat) : (withN A x c).c y = if y = x ∧ x < A.cs.length then c else A.c y := by
  unfold withN NS.c
  simp only [List.getD_eq_getElem?_getD, List.getElem?_set]
  by_cases h : x = y
  · subst h
    by_cases hx : x < A.cs.length
    · simp [hx]
    · simp [hx, List.getElem?_eq_none (Nat.le_of_not_lt hx)]
  · rw [if_neg h, if_neg (fun e => h e.1.symm)]
theorem len_with (A : NS) (x : Nat) (c : Cl) : (withN A x c).cs.length = A.cs.length := by unfold withN; simp
theorem hs_with (A : NS) (x : Nat) (c : Cl) : (withN A x c).hs = A.hs := rfl
theorem has_with (A : NS) (x : Nat) (c : Cl) (h : Int) : hasN (withN A x c) h = hasN A h := rfl
theorem NS.Ok.with {A : NS} (h : A.Ok) (x : Nat) (c : Cl) (hc : (c.i = 0 ∧ c.k = 0 ∧ c.s = 0) ∨ hasN A c.i = true) (hk : -9223372036854775808 ≤ c.k ∧ c.k ≤ 9223372036854775807 ∧ 0 ≤ c.s ∧ c.s ≤ 18446744073709551615) : (withN A x c).Ok := by
  refine ⟨h.h0, h.h1, h.h2, by rw [len_with]; exact h.c1, fun y hy => ?_, fun y => ?_⟩
  · rw [len_with] at hy
    rw [c_with, has_with]
    split
    · exact hc
    · exact h.cell y hy
  · rw [c_with]; split
    · exact hk
    · exact h.key y
theorem NS.new_c (n x : Nat) : (NS.new n).c x = Cl.z := by
  unfold NS.new NS.c
  rw [List.getD_eq_getElem?_getD, List.getElem?_replicate]; split <;> rfl
theorem NS.new_ok (n : Nat) (hn : n ≤ 65536) : (NS.new n).Ok := by
  refine ⟨by simp [NS.new], by simp [NS.new], rfl, by simp [NS.new]; exact hn, fun x _ => Or.inl ?_, fun x => ?_⟩
  · rw [NS.new_c]; exact ⟨rfl, rfl, rfl⟩
  · rw [NS.new_c]; exact ⟨by decide, by decide, by decide, by decide⟩
theorem makeN_ok {A : NS} (h : A.Ok) : (makeN A).Ok := by
  unfold makeN; split
  · exact h
  · rename_i hl
    have h0 := h.h0
    refine ⟨by simp, by simp; omega, ?_, h.c1, fun x hx => ?_, h.key⟩
    · have := h.h2
      simp only [List.getD_eq_getElem?_getD] at this ⊢
      rw [List.getElem?_append_left (by omega)]; exact this
    · rcases h.cell x hx with h' | h'
      · exact Or.inl h'
      · refine Or.inr ?_
        have h2 := (hasN_iff _ _).1 h'
        refine (hasN_iff _ _).2 ⟨h2.1, by show (A.c x).i < ((A.hs ++ [true]).length : Int); rw [List.length_append]; have := h2.2.1; omega, ?_⟩
        have h3 := h2.2.2
        simp only [List.getD_eq_getElem?_getD] at h3 ⊢
        rw [List.getElem?_append_left (by show (A.c x).i.toNat < A.hs.length; omega)]; exact h3
theorem putB_iff (A : NS) (h x : Int) : putB A h x = true ↔ hasN A h = true ∧ slotN A x = true ∧ inN A x = false := by unfold putB; simp [and_assoc]
theorem putN_ok {A : NS} (h : A.Ok) (g x k s : Int) (hk : -9223372036854775808 ≤ k ∧ k ≤ 9223372036854775807 ∧ 0 ≤ s ∧ s ≤ 18446744073709551615) : (putN A g x k s).Ok := by
  unfold putN; split
  · rename_i hp
    exact h.with _ _ (Or.inr ((putB_iff _ _ _).1 hp).1) hk
  · exact h
theorem dropN_ok {A : NS} (h : A.Ok) (x : Int) : (dropN A x).Ok := by
  unfold dropN; split
  · exact h.with _ _ (Or.inl ⟨rfl, rfl, rfl⟩) ⟨by decide, by decide, by decide, by decide⟩
  · exact h
theorem inN_has {A : NS} (h : A.Ok) {x : Int} (hx : inN A x = true) : hasN A (A.c x.toNat).i = true := by
  have h1 := (inN_iff _ _).1 hx
  rcases h.cell x.toNat (by omega) with h' | h'
  · omega
  · exact h'
theorem lowN_ok {A : NS} (h : A.Ok) (x k s : Int) (hk : -9223372036854775808 ≤ k ∧ k ≤ 9223372036854775807 ∧ 0 ≤ s ∧ s ≤ 18446744073709551615) : (lowN A x k s).Ok := by
  unfold lowN; split
  · rename_i hp
    unfold lowB at hp
    simp only [Bool.and_eq_true] at hp
    exact h.with _ _ (Or.inr (inN_has h hp.1)) hk
  · exact h
theorem joinB_iff (A : NS) (a b : Int) : joinB A a b = true ↔ hasN A a = true ∧ hasN A b = true ∧ a ≠ b := by unfold joinB; simp [and_assoc]
theorem joinN_c {A : NS} {a b : Int} (hj : joinB A a b = true) (x : Nat) : (joinN A a b).c x = if (A.c x).i = b ∧ x < A.cs.length then ⟨a, (A.c x).k, (A.c x).s⟩ else A.c x := by
  unfold joinN; rw [if_pos hj]
  unfold NS.c
  simp only [List.getD_eq_getElem?_getD, List.getElem?_map]
  by_cases hx : x < A.cs.length
  · simp only [List.getElem?_eq_getElem hx, Option.map_some, Option.getD_some, hx, and_true]
  · simp [List.getElem?_eq_none (Nat.le_of_not_lt hx), hx]
theorem joinN_len (A : NS) (a b : Int) : (joinN A a b).cs.length = A.cs.length := by unfold joinN; split <;> simp
theorem joinN_has {A : NS} {a b : Int} (hj : joinB A a b = true) (h : Int) : hasN (joinN A a b) h = (hasN A h && !(h == b)) := by
  have h2 := (joinB_iff _ _ _).1 hj
  have hb := (hasN_iff _ _).1 h2.2.1
  unfold joinN; rw [if_pos hj]
  unfold hasN
  simp only [List.length_set, List.getD_eq_getElem?_getD, List.getElem?_set]
  by_cases hh : h = b
  · subst hh
    rw [if_pos rfl, if_pos (by omega)]; simp
  · by_cases h1 : 1 ≤ h
    · rw [if_neg (by omega)]; simp [hh]
    · simp [h1]
theorem joinN_ok {A : NS} (h : A.Ok) (a b : Int) : (joinN A a b).Ok := by
  by_cases hj : joinB A a b = true
  · have h2 := (joinB_iff _ _ _).1 hj
    have hb := (hasN_iff _ _).1 h2.2.1
    have e : (joinN A a b).hs = A.hs.set b.toNat false := by unfold joinN; rw [if_pos hj]
    refine ⟨by rw [e]; simp; exact h.h0, by rw [e]; simp; exact h.h1, ?_, by rw [joinN_len]; exact h.c1, fun x hx => ?_, fun x => ?_⟩
    · rw [e]
      have := h.h2
      simp only [List.getD_eq_getElem?_getD, List.getElem?_set] at this ⊢
      rw [if_neg (by omega)]; exact this
    · rw [joinN_len] at hx
      rw [joinN_c hj, joinN_has hj]
      split
      · refine Or.inr ?_
        simp only
        rw [h2.1]; simp [h2.2.2]
      · rename_i hn
        rcases h.cell x hx with h' | h'
        · exact Or.inl h'
        · refine Or.inr ?_
          rw [h']
          simp only [not_and, Bool.true_and, Bool.not_eq_true', beq_eq_false_iff_ne] at hn ⊢
          exact fun e => hn e hx
    · rw [joinN_c hj]; split
      · exact h.key x
      · exact h.key x
  · unfold joinN; rw [if_neg hj]; exact h

/-! ### how many are in a heap -/
theorem lenL_le (cs : List Cl) (h : Int) : lenL cs h ≤ cs.length := List.length_filter_le _ _
theorem lenL_set (cs : List Cl) (x : Nat) (c : Cl) (h : Int) (hx : x < cs.length) :
    lenL (cs.set x c) h + (if (cs.getD x Cl.z).i = h ∧ 0 < h then 1 else 0) = lenL cs h + (if c.i = h ∧ 0 < h then 1 else 0) := by
  unfold lenL
  induction cs generalizing x with
  | nil => simp at hx
  | cons d r ih =>
    cases x with
    | zero =>
      simp only [List.set_cons_zero, List.filter_cons, List.getD_cons_zero]
      have e1 : ∀ c : Cl, (decide (c.i = h) && decide (0 < h)) = decide (c.i = h ∧ 0 < h) := fun c => by by_cases a : c.i = h <;> by_cases b : 0 < h <;> simp [a, b]
      have e2 : ∀ (p : Prop) [Decidable p] (d : Cl) (l : List Cl), (if decide p = true then d :: l else l).length = l.length + (if p then 1 else 0) := fun p _ d l => by by_cases hp : p <;> simp [hp]
      simp only [e1, e2]
      omega
    | succ x =>
      have := ih x (by simpa using hx)
      simp only [List.set_cons_succ, List.filter_cons, List.getD_cons_succ]
      split <;> simp at this ⊢ <;> omega
theorem lenN_with (A : NS) (x : Nat) (c : Cl) (h : Int) (hx : x < A.cs.length) :
    lenN (withN A x c) h + (if (A.c x).i = h ∧ 0 < h then 1 else 0) = lenN A h + (if c.i = h ∧ 0 < h then 1 else 0) := lenL_set A.cs x c h hx
theorem lenL_pos {cs : List Cl} {h : Int} : 0 < lenL cs h ↔ ∃ x, x < cs.length ∧ (cs.getD x Cl.z).i = h ∧ 0 < h := by
  unfold lenL
  rw [List.length_pos_iff_exists_mem]
  constructor
  · rintro ⟨c, hc⟩
    obtain ⟨hm, hp⟩ := List.mem_filter.1 hc
    obtain ⟨x, hx, rfl⟩ := List.mem_iff_getElem.1 hm
    simp only [Bool.and_eq_true, decide_eq_true_eq] at hp
    exact ⟨x, hx, by simpa [List.getD_eq_getElem?_getD, hx] using hp.1, hp.2⟩
  · rintro ⟨x, hx, h1, h2⟩
    refine ⟨cs[x], List.mem_filter.2 ⟨List.getElem_mem hx, ?_⟩⟩
    simp only [List.getD_eq_getElem?_getD, List.getElem?_eq_getElem hx, Option.getD_some] at h1
    simp [h1, h2]
theorem lenN_pos {A : NS} {h : Int} : 0 < lenN A h ↔ ∃ x, x < A.cs.length ∧ (A.c x).i = h ∧ 0 < h := lenL_pos
theorem lenN_le {A : NS} (hA : A.Ok) (h : Int) : lenN A h ≤ 65536 := Nat.le_trans (lenL_le _ _) hA.c1
theorem lenN_zero {A : NS} (hA : A.Ok) {h : Int} (hh : hasN A h = false) : lenN A h = 0 := by
  rcases Nat.eq_zero_or_pos (lenN A h) with h' | h'
  · exact h'
  · obtain ⟨x, hx, h1, h2⟩ := lenN_pos.1 h'
    rcases hA.cell x hx with h3 | h3
    · omega
    · rw [h1, hh] at h3; cases h3
theorem lenN_join {A : NS} (hA : A.Ok) {a b : Int} (hj : joinB A a b = true) (h : Int) : lenN (joinN A a b) h = if h = a then lenN A a + lenN A b else if h = b then 0 else lenN A h := by
  have h2 := (joinB_iff _ _ _).1 hj
  have ha := (hasN_iff _ _).1 h2.1
  have hb := (hasN_iff _ _).1 h2.2.1
  have hne := h2.2.2
  unfold lenN joinN
  rw [if_pos hj]
  unfold lenL
  simp only
  generalize A.cs = cs
  induction cs with
  | nil => split <;> simp
  | cons d r ih =>
    simp only [List.map_cons, List.filter_cons]
    by_cases hd : d.i = b
    · have e1 : d.i ≠ a := fun e => hne (e.symm.trans hd)
      by_cases h1 : h = a
      · subst h1
        have : ¬ b = h := fun e => hne e.symm
        simp only [if_true, hd] at ih ⊢
        simp [this, show (0 : Int) < h by omega, show (0 : Int) < b by omega] at ih ⊢
        omega
      · by_cases h3 : h = b
        · subst h3
          simp only [if_true, hd, if_neg h1] at ih ⊢
          simp [Ne.symm h1, fun e : a = h => h1 e.symm, show ¬ a = h from fun e => h1 e.symm] at ih ⊢
          exact ih
        · simp only [if_neg h1, if_neg h3, hd] at ih ⊢
          simp [show ¬ a = h from fun e => h1 e.symm, show ¬ b = h from fun e => h3 e.symm] at ih ⊢
          exact ih
    · by_cases h1 : h = a
      · subst h1
        simp only [if_true, if_neg hd] at ih ⊢
        by_cases h4 : d.i = h
        · simp [h4, hd, show (0 : Int) < h by omega, show ¬ h = b from hne] at ih ⊢; omega
        · simp [h4, hd] at ih ⊢; exact ih
      · by_cases h3 : h = b
        · subst h3
          simp only [if_true, if_neg h1, if_neg hd] at ih ⊢
          simp [hd] at ih ⊢
          exact ih
        · simp only [if_neg h1, if_neg h3, if_neg hd] at ih ⊢
          by_cases h4 : d.i = h ∧ 0 < h
          · simp [h4] at ih ⊢; exact ih
          · have h5 : (decide (d.i = h) && decide (0 < h)) = false := by simpa using h4
            simp only [h5] at ih ⊢
            exact ih
theorem lenN_make {A : NS} (h : Int) : lenN (makeN A) h = lenN A h := by unfold makeN; split <;> rfl

/-! ### the order of slots -/
theorem lt3_trans {A : NS} {a b c : Nat} (h : lt3 A a b) (h' : lt3 A b c) : lt3 A a c := by unfold lt3 at *; omega
theorem lt3_irr {A : NS} {a : Nat} : ¬ lt3 A a a := by unfold lt3; omega
theorem lt3_total {A : NS} {a b : Nat} (h : a ≠ b) : lt3 A a b ∨ lt3 A b a := by unfold lt3; omega
theorem lt3_asym {A : NS} {a b : Nat} (h : lt3 A a b) : ¬ lt3 A b a := fun h' => lt3_irr (lt3_trans h h')
theorem lt3_less (A : NS) (a b : Nat) : (lessE (A.c a).k (A.c a).s (A.c b).k (A.c b).s || (decide ((A.c a).k = (A.c b).k ∧ (A.c a).s = (A.c b).s) && decide (a < b))) = decide (lt3 A a b) := by
  rw [Bool.eq_iff_iff, decide_eq_true_iff]
  unfold lessE lt3
  by_cases h : (A.c a).k = (A.c b).k
  · rw [if_pos h]
    simp only [Bool.or_eq_true, Bool.and_eq_true, decide_eq_true_eq]
    omega
  · rw [if_neg h]
    simp only [Bool.or_eq_true, Bool.and_eq_true, decide_eq_true_eq]
    omega
theorem ahead_nat (A : NS) (a b : Nat) : aheadN A (a : Int) (b : Int) = (inN A a && inN A b && decide (lt3 A a b)) := by unfold aheadN; simp

/-- Of a heap's slots the first one. -/
def IsMin (A : NS) (h : Int) (l : List Nat) (m : Nat) : Prop := m ∈ l ∧ (A.c m).i = h ∧ ∀ y, y ∈ l → (A.c y).i = h → y = m ∨ lt3 A m y
theorem minF_fold (A : NS) (h : Int) (hh : 0 < h) : ∀ (l : List Nat), (∀ x ∈ l, x < A.cs.length) → ∀ (pre : List Nat), (∀ x ∈ pre, x < A.cs.length) → ∀ o : Option Nat,
    (match o with | some m => IsMin A h pre m | none => ∀ y ∈ pre, (A.c y).i ≠ h) →
    (match l.foldl (minF A h) o with | some m => IsMin A h (pre ++ l) m | none => ∀ y ∈ pre ++ l, (A.c y).i ≠ h)
  | [], _, pre, _, o, ho => by simpa using ho
  | x :: l, hl, pre, hp, o, ho => by
    have hx := hl x (by simp)
    have step : (match minF A h o x with | some m => IsMin A h (pre ++ [x]) m | none => ∀ y ∈ pre ++ [x], (A.c y).i ≠ h) := by
      unfold minF
      by_cases hi : (A.c x).i = h
      · cases o with
        | none =>
          simp only at ho
          simp only [hi, hh, decide_true, Bool.and_self, if_true]
          refine ⟨by simp, hi, fun y hy he => ?_⟩
          rcases List.mem_append.1 hy with hy | hy
          · exact absurd he (ho y hy)
          · exact Or.inl (by simpa using hy)
        | some m =>
          simp only at ho
          obtain ⟨h1, h2, h3⟩ := ho
          have hm := hp m h1
          have hin : inN A (x : Int) = true := (inN_nat A x).2 ⟨hx, by omega⟩
          have him : inN A (m : Int) = true := (inN_nat A m).2 ⟨hm, by omega⟩
          simp only [hi, hh, decide_true, Bool.and_self, Bool.true_and, ahead_nat, hin, him, decide_eq_true_eq]
          by_cases hlt : lt3 A x m
          · rw [if_pos hlt]
            refine ⟨by simp, hi, fun y hy he => ?_⟩
            rcases List.mem_append.1 hy with hy | hy
            · rcases h3 y hy he with rfl | h4
              · exact Or.inr hlt
              · exact Or.inr (lt3_trans hlt h4)
            · exact Or.inl (by simpa using hy)
          · rw [if_neg hlt]
            refine ⟨by simp [h1], h2, fun y hy he => ?_⟩
            rcases List.mem_append.1 hy with hy | hy
            · exact h3 y hy he
            · simp at hy; subst hy
              by_cases e : y = m
              · exact Or.inl e
              · rcases lt3_total (A := A) e with h4 | h4
                · exact absurd h4 hlt
                · exact Or.inr h4
      · simp only [hi, decide_false, Bool.and_false, Bool.false_and, Bool.false_eq_true, if_false]
        cases o with
        | none =>
          simp only at ho ⊢
          intro y hy
          rcases List.mem_append.1 hy with hy | hy
          · exact ho y hy
          · simp at hy; subst hy; exact hi
        | some m =>
          simp only at ho ⊢
          obtain ⟨h1, h2, h3⟩ := ho
          refine ⟨by simp [h1], h2, fun y hy he => ?_⟩
          rcases List.mem_append.1 hy with hy | hy
          · exact h3 y hy he
          · simp at hy; subst hy; exact absurd he hi
    have := minF_fold A h hh l (fun y hy => hl y (by simp [hy])) (pre ++ [x]) (fun y hy => by rcases List.mem_append.1 hy with hy | hy; exact hp y hy; simp at hy; subst hy; exact hx) _ step
    simpa using this
/-- The first slot of a heap, as it is. -/
def IsFirst (A : NS) (h : Int) (m : Nat) : Prop := m < A.cs.length ∧ (A.c m).i = h ∧ ∀ y, y < A.cs.length → (A.c y).i = h → y = m ∨ lt3 A m y
theorem minN_some {A : NS} {h : Int} (hh : 0 < h) {m : Nat} : minN A h = some m ↔ IsFirst A h m := by
  have := minF_fold A h hh (List.range A.cs.length) (fun x hx => by simpa using hx) [] (by simp) none (by simp)
  simp only [List.nil_append] at this
  change (match minN A h with | some m => _ | none => _) at this
  constructor
  · intro e
    rw [e] at this
    obtain ⟨h1, h2, h3⟩ := this
    exact ⟨by simpa using h1, h2, fun y hy he => h3 y (by simpa using hy) he⟩
  · rintro ⟨h1, h2, h3⟩
    cases e : minN A h with
    | none => rw [e] at this; exact absurd h2 (this m (by simpa using h1))
    | some m' =>
      rw [e] at this
      obtain ⟨k1, k2, k3⟩ := this
      rcases h3 m' (by simpa using k1) k2 with rfl | h4
      · rfl
      · rcases k3 m (by simpa using h1) h2 with rfl | h5
        · rfl
        · exact absurd h4 (lt3_asym h5)
theorem minN_none {A : NS} {h : Int} (hh : 0 < h) : minN A h = none ↔ lenN A h = 0 := by
  have := minF_fold A h hh (List.range A.cs.length) (fun x hx => by simpa using hx) [] (by simp) none (by simp)
  simp only [List.nil_append] at this
  change (match minN A h with | some m => _ | none => _) at this
  cases e : minN A h with
  | none =>
    rw [e] at this
    refine ⟨fun _ => ?_, fun _ => rfl⟩
    rcases Nat.eq_zero_or_pos (lenN A h) with h' | h'
    · exact h'
    · obtain ⟨x, hx, h1, _⟩ := lenN_pos.1 h'
      exact absurd h1 (this x (by simpa using hx))
  | some m =>
    rw [e] at this
    obtain ⟨k1, k2, _⟩ := this
    refine ⟨fun h => by (cases h), fun h0 => ?_⟩
    have : 0 < lenN A h := lenN_pos.2 ⟨m, by simpa using k1, k2, hh⟩
    omega
theorem minN_neg {A : NS} {h : Int} (hh : ¬ 0 < h) : minN A h = none := by
  unfold minN
  generalize List.range A.cs.length = l
  have : ∀ l : List Nat, l.foldl (minF A h) none = none := fun l => by
    induction l with
    | nil => rfl
    | cons x l ih => rw [List.foldl_cons, show minF A h none x = none by unfold minF; simp [hh]]; exact ih
  exact this l
theorem lenN_neg {A : NS} {h : Int} (hh : ¬ 0 < h) : lenN A h = 0 := by
  rcases Nat.eq_zero_or_pos (lenN A h) with h' | h'
  · exact h'
  · obtain ⟨x, _, _, h2⟩ := lenN_pos.1 h'; exact absurd h2 hh
/-- A heap comes out: its slots, each ahead of the next one. -/
def orderN : Nat → NS → Int → List Nat
  | 0, _, _ => []
  | f + 1, A, h => match minN A h with | none => [] | some m => m :: orderN f (dropN A m) h
end Go.Proofs.Ytechoojcgdjcdaa
