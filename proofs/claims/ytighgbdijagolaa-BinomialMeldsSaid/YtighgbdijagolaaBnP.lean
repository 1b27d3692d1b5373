/-
  Binomial heaps, plainly: forests in heaps, and what Carry, Split and Lift do to them. No program in sight. Conditions: those of each lemma.
-/
import Derived.Test.YtighgbdijagolaaKarLaw
import Derived.Test.YtighgbdijagolaaFrOk
import Derived.Test.YtighgbdijagolaaGa
set_option linter.unusedVariables false
set_option linter.unusedSimpArgs false
namespace Go.Proofs.Ytighgbdijagolaa

/-- A forest whose things are in heaps: what hangs together is in one; each is ahead of what is below it, as L has it. -/
structure FH (n : Nat) (F : CF) (hom : Nat → Int) (L : Nat → Nat → Prop) : Prop where
  f : FOk n F
  home : ∀ y p : Nat, y < n → F.u y = p → hom y = hom p ∧ 0 < hom y
  ord : ∀ y p : Nat, y < n → F.u y = p → L p y
  alone : ∀ y : Nat, y < n → ¬ 0 < hom y → F.u y = -1 ∧ F.k y = []
theorem FOk.above {n : Nat} {F : CF} (h : FOk n F) {y p : Nat} (hy : y < n) (hu : F.u y = p) : p < n ∧ (y : Int) ∈ F.k p := by
  rcases h.up y hy with h1 | ⟨q, hq, h1, h2⟩
  · omega
  · obtain rfl : q = p := by omega
    exact ⟨hq, h2⟩
theorem FOk.below {n : Nat} {F : CF} (h : FOk n F) {p : Nat} (hp : p < n) {z : Int} (hz : z ∈ F.k p) : ∃ y : Nat, z = y ∧ y < n ∧ F.u y = p ∧ (F.k y).length < (F.k p).length := by
  obtain ⟨r1, r2, r3⟩ := h.rng p hp z hz
  obtain ⟨i, hi, he⟩ := List.getElem_of_mem hz
  have hc := h.cube p hp i z (by rw [List.getElem?_eq_getElem hi, he])
  obtain ⟨y, rfl⟩ := Int.eq_ofNat_of_zero_le r1
  rw [Int.toNat_natCast] at r3 hc
  exact ⟨y, rfl, by omega, r3, by omega⟩
theorem FOk.udeg {n : Nat} {F : CF} (h : FOk n F) {y p : Nat} (hy : y < n) (hu : F.u y = p) : (F.k y).length < (F.k p).length := by
  obtain ⟨h1, h2⟩ := h.above hy hu
  obtain ⟨z, e, _, _, hd⟩ := h.below h1 h2
  obtain rfl : y = z := by omega
  exact hd
theorem RowF.ext {n : Nat} {F F' : CF} {l : List Int} (h : RowF n F l) (e : ∀ x, x ∈ l → F'.u x.toNat = F.u x.toNat ∧ F'.k x.toNat = F.k x.toNat) : RowF n F' l := by
  refine ⟨fun x hx => ?_, h.2.imp_of_mem (fun {a b} ha hb hab => ?_)⟩
  · have := h.1 x hx
    exact ⟨this.1, this.2.1, by rw [(e x hx).1]; exact this.2.2⟩
  · unfold degF at hab ⊢
    rw [(e a ha).2, (e b hb).2]; exact hab
theorem deg_ext {n : Nat} {F F' : CF} {x : Int} (e : F'.k x.toNat = F.k x.toNat) : degF n F' x = degF n F x := by unfold degF; rw [e]
/-- What Carry leaves of a forest in heaps. -/
theorem fh_carry {n : Nat} {F : CF} {hom : Nat → Int} {L : Nat → Nat → Prop} {lt : Int → Int → Bool} {h : Int} {A0 B0 : List Int} {q : Nat} {F' : CF} {O : List Int} {q' : Nat} (H : FH n F hom L)
    (hL : ∀ y p : Nat, y < n → p < n → hom y = h → hom p = h → y ≠ p → lt y p = false → L p y) (h1 : 1 ≤ h)
    (m : ∀ y : Nat, y < n ∧ F.u y = -1 ∧ hom y = h ↔ (y : Int) ∈ A0 ∨ (y : Int) ∈ B0) (C : Carried lt n F A0 B0 q F' O q') :
    FH n F' hom L ∧ (∀ y : Nat, (y : Int) ∈ O ↔ y < n ∧ F'.u y = -1 ∧ hom y = h) ∧ (∀ y : Nat, y < n → hom y ≠ h → F'.u y = F.u y ∧ F'.k y = F.k y) := by
  have far : ∀ y : Nat, y < n → hom y ≠ h → F'.u y = F.u y ∧ F'.k y = F.k y := fun y hy hh => C.out y (fun hm => hh ((m y).2 (Or.inl hm)).2.2) (fun hm => hh ((m y).2 (Or.inr hm)).2.2)
  have key : ∀ y p : Nat, y < n → F'.u y = p → F.u y = p ∨ (y < n ∧ p < n ∧ hom y = h ∧ hom p = h ∧ y ≠ p ∧ lt y p = false) := fun y p hy hu => by
    rcases C.nl y p hy hu with e | ⟨k1, k2, k3, k4⟩
    · exact Or.inl e
    · have a1 := (m y).2 k1
      have a2 := (m p).2 k2
      exact Or.inr ⟨hy, a2.1, a1.2.2, a2.2.2, k3, k4⟩
  refine ⟨⟨C.ok, fun y p hy hu => ?_, fun y p hy hu => ?_, fun y hy hh => ?_⟩, fun y => ⟨fun hm => ?_, fun hm => ?_⟩, far⟩
  · rcases key y p hy hu with e | ⟨_, _, k1, k2, _, _⟩
    · exact H.home y p hy e
    · rw [k1, k2]; exact ⟨rfl, by omega⟩
  · rcases key y p hy hu with e | ⟨k0, kp, k1, k2, k3, k4⟩
    · exact H.ord y p hy e
    · exact hL y p k0 kp k1 k2 k3 k4
  · have := far y hy (by omega)
    rw [this.1, this.2]
    exact H.alone y hy hh
  · have r := C.row.1 _ hm
    have a := (m y).2 (C.sub _ hm)
    exact ⟨a.1, by simpa using r.2.2, a.2.2⟩
  · obtain ⟨hy, hu, hh⟩ := hm
    by_cases hAB : (y : Int) ∈ A0 ∨ (y : Int) ∈ B0
    · rcases C.ro y hAB with h2 | ⟨p, hp, h2⟩
      · exact h2
      · omega
    · have h2 := C.out y (fun h => hAB (Or.inl h)) (fun h => hAB (Or.inr h))
      exact absurd ((m y).1 ⟨hy, by rw [← h2.1]; exact hu, hh⟩) hAB

/-- The forest of binomial heaps, and of each heap the row of its roots. -/
structure BG where
  F : CF
  R : Nat → List Int
/-- Rows of roots. -/
structure RH (n : Nat) (G : BG) (hom : Nat → Int) : Prop where
  row : ∀ h, RowF n G.F (G.R h)
  mem : ∀ h y : Nat, (y : Int) ∈ G.R h ↔ 1 ≤ h ∧ y < n ∧ G.F.u y = -1 ∧ hom y = h
def BG.none : BG := ⟨CS.none.f, fun _ => []⟩
def setR (R : Nat → List Int) (h : Nat) (l : List Int) : Nat → List Int := fun k => if k = h then l else R k
/-- Carry, as a function. -/
def carC (lt : Int → Int → Bool) (n : Nat) (F : CF) (A B : List Int) : CC := runC lt n (n + 1) ⟨F, A, B, [], [], 0⟩
theorem car_done {lt : Int → Int → Bool} {n : Nat} {F : CF} {A B : List Int} (g : G n 0 0 0 0 ⟨F, A, B, [], [], 0⟩) (has : ∀ a b, lt a b = true → lt b a = false) (hn : n ≤ 65536) : (carC lt n F A B).done := by
  have r := g_ok (dom := fun _ => True) has (fun x hx => trivial) g rfl hn (Nat.zero_le _) (n + 1)
  unfold carC CC.done
  refine ⟨?_, ?_, ?_⟩
  all_goals
    apply Classical.byContradiction
    intro hne
    have := r.ends (by first | exact Or.inl hne | exact Or.inr (Or.inl hne) | exact Or.inr (Or.inr hne))
    omega
theorem car_to {lt : Int → Int → Bool} {n : Nat} {F : CF} {A B : List Int} {F' : CF} {O : List Int} {q : Nat} (g : G n 0 0 0 0 ⟨F, A, B, [], [], 0⟩) (has : ∀ a b, lt a b = true → lt b a = false) (hn : n ≤ 65536) (h : CarryTo lt n ⟨F, A, B, [], [], 0⟩ F' O q) :
    (carC lt n F A B).F = F' ∧ (carC lt n F A B).O = O ∧ (carC lt n F A B).q = q := by
  have := h.eq (m := n + 1) (car_done g has hn)
  unfold carC
  rw [this]
  exact ⟨rfl, rfl, rfl⟩
theorem car_ed {lt : Int → Int → Bool} {n : Nat} {F : CF} {A B : List Int} (g : G n 0 0 0 0 ⟨F, A, B, [], [], 0⟩) (has : ∀ a b, lt a b = true → lt b a = false) (hn : n ≤ 65536) : Carried lt n F A B 0 (carC lt n F A B).F (carC lt n F A B).O (carC lt n F A B).q := by
  refine carried has g ⟨n + 1, ?_⟩
  obtain ⟨h1, h2, h3⟩ := car_done g has hn
  unfold carC at *
  generalize runC lt n (n + 1) ⟨F, A, B, [], [], 0⟩ = C at *
  obtain ⟨F1, A1, B1, N1, O1, q1⟩ := C
  simp only at h1 h2 h3
  subst h1 h2 h3
  rfl
/-- Roots come to those of a heap. -/
def addG (lt : Int → Int → Bool) (n h : Nat) (l : List Int) (G : BG) : BG := ⟨(carC lt n G.F (G.R h) l).F, setR G.R h (carC lt n G.F (G.R h) l).O⟩
theorem wt_nil (n : Nat) (F : CF) : wt n F [] = 0 := rfl
theorem add_sound {n : Nat} {G : BG} {hom : Nat → Int} {L : Nat → Nat → Prop} {lt : Int → Int → Bool} {h : Nat} {l : List Int} (H : FH n G.F hom L) (hn : n ≤ 65536) (has : ∀ a b, lt a b = true → lt b a = false)
    (hL : ∀ y p : Nat, y < n → p < n → hom y = h → hom p = h → y ≠ p → lt y p = false → L p y) (h1 : 1 ≤ h)
    (hrow : ∀ k, RowF n G.F (G.R k)) (hmem : ∀ k y : Nat, k ≠ h → ((y : Int) ∈ G.R k ↔ 1 ≤ k ∧ y < n ∧ G.F.u y = -1 ∧ hom y = k))
    (m : ∀ y : Nat, y < n ∧ G.F.u y = -1 ∧ hom y = h ↔ (y : Int) ∈ G.R h ∨ (y : Int) ∈ l) (hl : RowF n G.F l) (hd : ∀ x, x ∈ G.R h → x ∉ l) :
    FH n (addG lt n h l G).F hom L ∧ RH n (addG lt n h l G) hom ∧ (∀ k, wt n (addG lt n h l G).F ((addG lt n h l G).R k) = if k = h then wt n G.F (G.R h) + wt n G.F l else wt n G.F (G.R k)) ∧
      (carC lt n G.F (G.R h) l).q + ((addG lt n h l G).R h).length = (G.R h).length + l.length := by
  have g := g_start (q := 0) H.f (hrow h) hl hd
  have C := car_ed g has hn
  obtain ⟨h2, h3, h4⟩ := fh_carry H hL (by omega) m C
  have far : ∀ k : Nat, k ≠ h → ∀ x, x ∈ G.R k → (carC lt n G.F (G.R h) l).F.u x.toNat = G.F.u x.toNat ∧ (carC lt n G.F (G.R h) l).F.k x.toNat = G.F.k x.toNat := fun k hk x hx => by
    have hr := (hrow k).1 x hx
    have := (hmem k x.toNat hk).1 (by rw [show ((x.toNat : Nat) : Int) = x by omega]; exact hx)
    exact h4 x.toNat this.2.1 (by omega)
  unfold addG
  refine ⟨h2, ⟨fun k => ?_, fun k y => ?_⟩, fun k => ?_, ?_⟩
  · simp only [setR]
    split
    · exact C.row
    · rename_i hk
      exact (hrow k).ext (far k hk)
  · simp only [setR]
    split
    · rename_i hk
      subst hk
      rw [h3 y]
      exact ⟨fun a => ⟨h1, a⟩, fun a => a.2⟩
    · rename_i hk
      rw [hmem k y hk]
      constructor
      · rintro ⟨a1, a2, a3, a4⟩
        exact ⟨a1, a2, by rw [(h4 y a2 (by omega)).1]; exact a3, a4⟩
      · rintro ⟨a1, a2, a3, a4⟩
        exact ⟨a1, a2, by rw [← (h4 y a2 (by omega)).1]; exact a3, a4⟩
  · simp only [setR]
    split
    · exact C.wt
    · rename_i hk
      exact wt_ext (fun x hx => deg_ext (far k hk x hx).2)
  · simp only [setR, if_true]
    have := C.cnt
    omega
/-- A sum of powers of two. -/
theorem pow_sum : ∀ d : Nat, ((List.range d).map (fun i => 2 ^ i)).sum + 1 = 2 ^ d
  | 0 => rfl
  | d + 1 => by
    have ih := pow_sum d
    rw [List.range_succ, List.map_append, List.sum_append, Nat.pow_succ]
    simp only [List.map_cons, List.map_nil, List.sum_cons, List.sum_nil]
    omega
def splitF (F : CF) (x : Nat) : CF := ⟨fun y => if y = x then [] else F.k y, fun y => if (y : Int) ∈ F.k x then -1 else F.u y⟩
theorem split_f (S : CS) (x : Nat) : (splitS S x).f = splitF S.f x := rfl
/-- The degrees of a thing's children are 0, 1 .. -/
theorem kids_wt {n : Nat} {F : CF} (ok : FOk n F) {x : Nat} (hx : x < n) {F' : CF} (e : ∀ z, z ∈ F.k x → degF n F' z = degF n F z) : wt n F' (F.k x) + 1 = 2 ^ (F.k x).length := by
  rw [← pow_sum]
  congr 1
  rw [wt_ext e]
  unfold wt
  congr 1
  apply List.ext_getElem (by simp)
  intro i h1 h2
  rw [List.getElem_map, List.getElem_map, List.getElem_range]
  have hi : i < (F.k x).length := by simpa using h1
  have hm : (F.k x)[i] ∈ F.k x := List.getElem_mem hi
  have hc := ok.cube x hx i _ (List.getElem?_eq_getElem hi)
  have hr := ok.rng x hx _ hm
  unfold degF
  rw [if_pos ⟨hr.1, hr.2.1⟩, hc]; simp
theorem kids_row {n : Nat} {F : CF} (ok : FOk n F) {x : Nat} (hx : x < n) {F' : CF} (e : ∀ z, z ∈ F.k x → degF n F' z = degF n F z) (u : ∀ z, z ∈ F.k x → F'.u z.toNat = -1) : RowF n F' (F.k x) := by
  refine ⟨fun z hz => ⟨(ok.rng x hx z hz).1, (ok.rng x hx z hz).2.1, u z hz⟩, ?_⟩
  rw [List.pairwise_iff_getElem]
  intro i j hi hj hij
  have d : ∀ i (hi : i < (F.k x).length), degF n F' (F.k x)[i] = i := fun i hi => by
    have hm : (F.k x)[i] ∈ F.k x := List.getElem_mem hi
    have hc := ok.cube x hx i _ (List.getElem?_eq_getElem hi)
    have hr := ok.rng x hx _ hm
    rw [e _ hm]
    unfold degF
    rw [if_pos ⟨hr.1, hr.2.1⟩, hc]
  rw [d i hi, d j hj]
  omega
theorem FOk.split2 {n : Nat} {F : CF} (h : FOk n F) {x : Nat} (hx : x < n) (hr : F.u x = -1) : FOk n (splitF F x) := by
  have := FOk.split (n := n) (S := ⟨fun _ => .slice none 0 0, F.k, F.u⟩) h hx hr
  exact this
end Go.Proofs.Ytighgbdijagolaa
