/-
  Binomial heaps, plainly: forests in heaps, and what Carry, Split and Lift do to them. No program in sight. Conditions: those of each lemma.
-/
import Derived.Test.YtighgbdijagolaaKarLaw
import Derived.Test.YtighgbdijagolaaFrOk
import Derived.Test.YtighgbdijagolaaGa
set_option linter.unusedVariables false
set_option linter.unusedSimpArgs false
namespace Go.Proofs.Ytighgbdijagolaa

/-- A forest whose things are in heaps: what hangs together is in one; each is ahead of what is below it, as L has it. -/
structure FH (n : Nat) (F : CF) (hom : Nat → Int) (L : Nat → Nat → Prop) : Prop where
  f : FOk n F
  home : ∀ y p : Nat, y < n → F.u y = p → hom y = hom p ∧ 0 < hom y
  ord : ∀ y p : Nat, y < n → F.u y = p → L p y
  alone : ∀ y : Nat, y < n → ¬ 0 < hom y → F.u y = -1 ∧ F.k y = []
theorem FOk.above {n : Nat} {F : CF} (h : FOk n F) {y p : Nat} (hy : y < n) (hu : F.u y = p) : p < n ∧ (y : Int) ∈ F.k p := by
  rcases h.up y hy with h1 | ⟨q, hq, h1, h2⟩
  · omega
  · obtain rfl : q = p := by omega
    exact ⟨hq, h2⟩
theorem FOk.below {n : Nat} {F : CF} (h : FOk n F) {p : Nat} (hp : p < n) {z : Int} (hz : z ∈ F.k p) : ∃ y : Nat, z = y ∧ y < n ∧ F.u y = p ∧ (F.k y).length < (F.k p).length := by
  obtain ⟨r1, r2, r3⟩ := h.rng p hp z hz
  obtain ⟨i, hi, he⟩ := List.getElem_of_mem hz
  have hc := h.cube p hp i z (by rw [List.getElem?_eq_getElem hi, he])
  obtain ⟨y, rfl⟩ := Int.eq_ofNat_of_zero_le r1
  rw [Int.toNat_natCast] at r3 hc
  exact ⟨y, rfl, by omega, r3, by omega⟩
theorem FOk.udeg {n : Nat} {F : CF} (h : FOk n F) {y p : Nat} (hy : y < n) (hu : F.u y = p) : (F.k y).length < (F.k p).length := by
  obtain ⟨h1, h2⟩ := h.above hy hu
  obtain ⟨z, e, _, _, hd⟩ := h.below h1 h2
  obtain rfl : y = z := by omega
  exact hd
theorem RowF.ext {n : Nat} {F F' : CF} {l : List Int} (h : RowF n F l) (e : ∀ x, x ∈ l → F'.u x.toNat = F.u x.toNat ∧ F'.k x.toNat = F.k x.toNat) : RowF n F' l := by
  refine ⟨fun x hx => ?_, h.2.imp_of_mem (fun {a b} ha hb hab => ?_)⟩
  · have := h.1 x hx
    exact ⟨this.1, this.2.1, by rw [(e x hx).1]; exact this.2.2⟩
  · unfold degF at hab ⊢
    rw [(e a ha).2, (e b hb).2]; exact hab
theorem deg_ext {n : Nat} {F F' : CF} {x : Int} (e : F'.k x.toNat = F.k x.toNat) : degF n F' x = degF n F x := by unfold degF; rw [e]
/-- What Carry leaves of a forest in heaps. -/
theorem fh_carry {n : Nat} {F : CF} {hom : Nat → Int} {L : Nat → Nat → Prop} {lt : Int → Int → Bool} {h : Int} {A0 B0 : List Int} {q : Nat} {F' : CF} {O : List Int} {q' : Nat} (H : FH n F hom L)
    (hL : ∀ y p : Nat, y < n → p < n → hom y = h → hom p = h → y ≠ p → lt y p = false → L p y) (h1 : 1 ≤ h)
    (m : ∀ y : Nat, y < n ∧ F.u y = -1 ∧ hom y = h ↔ (y : Int) ∈ A0 ∨ (y : Int) ∈ B0) (C : Carried lt n F A0 B0 q F' O q') :
    FH n F' hom L ∧ (∀ y : Nat, (y : Int) ∈ O ↔ y < n ∧ F'.u y = -1 ∧ hom y = h) ∧ (∀ y : Nat, y < n → hom y ≠ h → F'.u y = F.u y ∧ F'.k y = F.k y) := by
  have far : ∀ y : Nat, y < n → hom y ≠ h → F'.u y = F.u y ∧ F'.k y = F.k y := fun y hy hh => C.out y (fun hm => hh ((m y).2 (Or.inl hm)).2.2) (fun hm => hh ((m y).2 (Or.inr hm)).2.2)
  have key : ∀ y p : Nat, y < n → F'.u y = p → F.u y = p ∨ (y < n ∧ p < n ∧ hom y = h ∧ hom p = h ∧ y ≠ p ∧ lt y p = false) := fun y p hy hu => by
    rcases C.nl y p hy hu with e | ⟨k1, k2, k3, k4⟩
    · exact Or.inl e
    · have a1 := (m y).2 k1
      have a2 := (m p).2 k2
      exact Or.inr ⟨hy, a2.1, a1.2.2, a2.2.2, k3, k4⟩
  refine ⟨⟨C.ok, fun y p hy hu => ?_, fun y p hy hu => ?_, fun y hy hh => ?_⟩, fun y => ⟨fun hm => ?_, fun hm => ?_⟩, far⟩
  · rcases key y p hy hu with e | ⟨_, _, k1, k2, _, _⟩
    · exact H.home y p hy e
    · rw [k1, k2]; exact ⟨rfl, by omega⟩
  · rcases key y p hy hu with e | ⟨k0, kp, k1, k2, k3, k4⟩
    · exact H.ord y p hy e
    · exact hL y p k0 kp k1 k2 k3 k4
  · have := far y hy (by omega)
    rw [this.1, this.2]
    exact H.alone y hy hh
  · have r := C.row.1 _ hm
    have a := (m y).2 (C.sub _ hm)
    exact ⟨a.1, by simpa using r.2.2, a.2.2⟩
  · obtain ⟨hy, hu, hh⟩ := hm
    by_cases hAB : (y : Int) ∈ A0 ∨ (y : Int) ∈ B0
    · rcases C.ro y hAB with h2 | ⟨p, hp, h2⟩
      · exact h2
      · omega
    · have h2 := C.out y (fun h => hAB (Or.inl h)) (fun h => hAB (Or.inr h))
      exact absurd ((m y).1 ⟨hy, by rw [← h2.1]; exact hu, hh⟩) hAB

/-- The forest of binomial heaps, and of each heap the row of its roots. -/
structure BG where
  F : CF
  R : Nat → List Int
/-- Rows of roots. -/
structure RH (n : Nat) (G : BG) (hom : Nat → Int) : Prop where
  row : ∀ h, RowF n G.F (G.R h)
  mem : ∀ h y : Nat, (y : Int) ∈ G.R h ↔ 1 ≤ h ∧ y < n ∧ G.F.u y = -1 ∧ hom y = h
def BG.none : BG := ⟨CS.none.f, fun _ => []⟩
def setR (R : Nat → List Int) (h : Nat) (l : List Int) : Nat → List Int := fun k => if k = h then l else R k
/-- Carry, as a function. -/
def carC (lt : Int → Int → Bool) (n : Nat) (F : CF) (A B : List Int) : CC := runC lt n (n + 1) ⟨F, A, B, [], [], 0⟩
theorem car_done {lt : Int → Int → Bool} {n : Nat} {F : CF} {A B : List Int} (g : G n 0 0 0 0 ⟨F, A, B, [], [], 0⟩) (has : ∀ a b, lt a b = true → lt b a = false) (hn : n ≤ 65536) : (carC lt n F A B).done := by
  have r := g_ok (dom := fun _ => True) has (fun x hx => trivial) g rfl hn (Nat.zero_le _) (n + 1)
  unfold carC CC.done
  refine ⟨?_, ?_, ?_⟩
  all_goals
    apply Classical.byContradiction
    intro hne
    have := r.ends (by first | exact Or.inl hne | exact Or.inr (Or.inl hne) | exact Or.inr (Or.inr hne))
    omega
theorem car_to {lt : Int → Int → Bool} {n : Nat} {F : CF} {A B : List Int} {F' : CF} {O : List Int} {q : Nat} (g : G n 0 0 0 0 ⟨F, A, B, [], [], 0⟩) (has : ∀ a b, lt a b = true → lt b a = false) (hn : n ≤ 65536) (h : CarryTo lt n ⟨F, A, B, [], [], 0⟩ F' O q) :
    (carC lt n F A B).F = F' ∧ (carC lt n F A B).O = O ∧ (carC lt n F A B).q = q := by
  have := h.eq (m := n + 1) (car_done g has hn)
  unfold carC
  rw [this]
  exact ⟨rfl, rfl, rfl⟩
theorem car_ed {lt : Int → Int → Bool} {n : Nat} {F : CF} {A B : List Int} (g : G n 0 0 0 0 ⟨F, A, B, [], [], 0⟩) (has : ∀ a b, lt a b = true → lt b a = false) (hn : n ≤ 65536) : Carried lt n F A B 0 (carC lt n F A B).F (carC lt n F A B).O (carC lt n F A B).q := by
  refine carried has g ⟨n + 1, ?_⟩
  obtain ⟨h1, h2, h3⟩ := car_done g has hn
  unfold carC at *
  generalize runC lt n (n + 1) ⟨F, A, B, [], [], 0⟩ = C at *
  obtain ⟨F1, A1, B1, N1, O1, q1⟩ := C
  simp only at h1 h2 h3
  subst h1 h2 h3
  rfl
/-- Roots come to those of a heap. -/
def addG (lt : Int → Int → Bool) (n h : Nat) (l : List Int) (G : BG) : BG := ⟨(carC lt n G.F (G.R h) l).F, setR G.R h (carC lt n G.F (G.R h) l).O⟩
theorem wt_nil (n : Nat) (F : CF) : wt n F [] = 0 := rfl
theorem add_sound {n : Nat} {G : BG} {hom : Nat → Int} {L : Nat → Nat → Prop} {lt : Int → Int → Bool} {h : Nat} {l : List Int} (H : FH n G.F hom L) (hn : n ≤ 65536) (has : ∀ a b, lt a b = true → lt b a = false)
    (hL : ∀ y p : Nat, y < n → p < n → hom y = h → hom p = h → y ≠ p → lt y p = false → L p y) (h1 : 1 ≤ h)
    (hrow : ∀ k, RowF n G.F (G.R k)) (hmem : ∀ k y : Nat, k ≠ h → ((y : Int) ∈ G.R k ↔ 1 ≤ k ∧ y < n ∧ G.F.u y = -1 ∧ hom y = k))
    (m : ∀ y : Nat, y < n ∧ G.F.u y = -1 ∧ hom y = h ↔ (y : Int) ∈ G.R h ∨ (y : Int) ∈ l) (hl : RowF n G.F l) (hd : ∀ x, x ∈ G.R h → x ∉ l) :
    FH n (addG lt n h l G).F hom L ∧ RH n (addG lt n h l G) hom ∧ (∀ k, wt n (addG lt n h l G).F ((addG lt n h l G).R k) = if k = h then wt n G.F (G.R h) + wt n G.F l else wt n G.F (G.R k)) ∧
      (carC lt n G.F (G.R h) l).q + ((addG lt n h l G).R h).length = (G.R h).length + l.length := by
  have g := g_start (q := 0) H.f (hrow h) hl hd
  have C := car_ed g has hn
  obtain ⟨h2, h3, h4⟩ := fh_carry H hL (by omega) m C
  have far : ∀ k : Nat, k ≠ h → ∀ x, x ∈ G.R k → (carC lt n G.F (G.R h) l).F.u x.toNat = G.F.u x.toNat ∧ (carC lt n G.F (G.R h) l).F.k x.toNat = G.F.k x.toNat := fun k hk x hx => by
    have hr := (hrow k).1 x hx
    have := (hmem k x.toNat hk).1 (by rw [show ((x.toNat : Nat) : Int) = x by omega]; exact hx)
    exact h4 x.toNat this.2.1 (by omega)
  unfold addG
  refine ⟨h2, ⟨fun k => ?_, fun k y => ?_⟩, fun k => ?_, ?_⟩
  · simp only [setR]
    split
    · exact C.row
    · rename_i hk
      exact (hrow k).ext (far k hk)
  · simp only [setR]
    split
    · rename_i hk
      subst hk
      rw [h3 y]
      exact ⟨fun a => ⟨h1, a⟩, fun a => a.2⟩
    · rename_i hk
      rw [hmem k y hk]
      constructor
      · rintro ⟨a1, a2, a3, a4⟩
        exact ⟨a1, a2, by rw [(h4 y a2 (by omega)).1]; exact a3, a4⟩
      · rintro ⟨a1, a2, a3, a4⟩
        exact ⟨a1, a2, by rw [← (h4 y a2 (by omega)).1]; exact a3, a4⟩
  · simp only [setR]
    split
    · exact C.wt
    · rename_i hk
      exact wt_ext (fun x hx => deg_ext (far k hk x hx).2)
  · simp only [setR, if_true]
    have := C.cnt
    omega
/-- A sum of powers of two. -/
theorem pow_sum : ∀ d : Nat, ((List.range d).map (fun i => 2 ^ i)).sum + 1 = 2 ^ d
  | 0 => rfl
  | d + 1 => by
    have ih := pow_sum d
    rw [List.range_succ, List.map_append, List.sum_append, Nat.pow_succ]
    simp only [List.map_cons, List.map_nil, List.sum_cons, List.sum_nil]
    omega
def splitF (F : CF) (x : Nat) : CF := ⟨fun y => if y = x then [] else F.k y, fun y => if (y : Int) ∈ F.k x then -1 else F.u y⟩
theorem split_f (S : CS) (x : Nat) : (splitS S x).f = splitF S.f x := rfl
/-- The degrees of a thing's children are 0, 1 .. -/
theorem kids_wt {n : Nat} {F : CF} (ok : FOk n F) {x : Nat} (hx : x < n) {F' : CF} (e : ∀ z, z ∈ F.k x → degF n F' z = degF n F z) : wt n F' (F.k x) + 1 = 2 ^ (F.k x).length := by
  rw [← pow_sum]
  congr 1
  rw [wt_ext e]
  unfold wt
  congr 1
  apply List.ext_getElem (by simp)
  intro i h1 h2
  rw [List.getElem_map, List.getElem_map, List.getElem_range]
  have hi : i < (F.k x).length := by simpa using h1
  have hm : (F.k x)[i] ∈ F.k x := List.getElem_mem hi
  have hc := ok.cube x hx i _ (List.getElem?_eq_getElem hi)
  have hr := ok.rng x hx _ hm
  unfold degF
  rw [if_pos ⟨hr.1, hr.2.1⟩, hc]; simp
theorem kids_row {n : Nat} {F : CF} (ok : FOk n F) {x : Nat} (hx : x < n) {F' : CF} (e : ∀ z, z ∈ F.k x → degF n F' z = degF n F z) (u : ∀ z, z ∈ F.k x → F'.u z.toNat = -1) : RowF n F' (F.k x) := by
  refine ⟨fun z hz => ⟨(ok.rng x hx z hz).1, (ok.rng x hx z hz).2.1, u z hz⟩, ?_⟩
  rw [List.pairwise_iff_getElem]
  intro i j hi hj hij
  have d : ∀ i (hi : i < (F.k x).length), degF n F' (F.k x)[i] = i := fun i hi => by
    have hm : (F.k x)[i] ∈ F.k x := List.getElem_mem hi
    have hc := ok.cube x hx i _ (List.getElem?_eq_getElem hi)
    have hr := ok.rng x hx _ hm
    rw [e _ hm]
    unfold degF
    rw [if_pos ⟨hr.1, hr.2.1⟩, hc]
  rw [d i hi, d j hj]
  omega
theorem FOk.split2 {n : Nat} {F : CF} (h : FOk n F) {x : Nat} (hx : x < n) (hr : F.u x = -1) : FOk n (splitF F x) := by
  have := FOk.split (n := n) (S := ⟨fun _ => .slice none 0 0, F.k, F.u⟩) h hx hr
  exact this
end Go.Proofs.Ytighgbdijagolaa

set_option linter.unusedVariables false
set_option linter.unusedSimpArgs false
namespace Go.Proofs.Ytighgbdijagolaa

/-- Binomial heaps beside the document's nest. -/
structure BnI (A : NS) (G : BG) : Prop where
  fh : FH A.cs.length G.F (fun y => (A.c y).i) (lt3 A)
  rh : RH A.cs.length G (fun y => (A.c y).i)
  w : ∀ h : Nat, 1 ≤ h → wt A.cs.length G.F (G.R h) = lenN A h
/-- The same, but for what has to do with x. -/
structure BnX (A : NS) (G : BG) (x : Nat) : Prop where
  fh : FH A.cs.length G.F (fun y => (A.c y).i) (fun p y => y ≠ x → p ≠ x → lt3 A p y)
  two : ∀ p c : Nat, c < A.cs.length → G.F.u x = p → G.F.u c = x → lt3 A p c
  rh : RH A.cs.length G (fun y => (A.c y).i)
  w : ∀ h : Nat, 1 ≤ h → wt A.cs.length G.F (G.R h) = lenN A h
theorem BnI.x {A : NS} {G : BG} (h : BnI A G) {x : Nat} (hx : x < A.cs.length) : BnX A G x :=
  ⟨⟨h.fh.f, h.fh.home, fun y p hy hu _ _ => h.fh.ord y p hy hu, h.fh.alone⟩, fun p c hc h1 h2 => lt3_trans (h.fh.ord x p hx h1) (h.fh.ord c x hc h2), h.rh, h.w⟩
def liftC (F : CF) (x p : Nat) (above : Int) : CF :=
  ⟨fun y => if y = x then setAt (F.k p) x p else if y = p then F.k x else if (y : Int) = above then setAt (F.k y) p x else F.k y,
   fun y => if y = x then above else if (y : Int) ∈ F.k x then p else if (y : Int) ∈ setAt (F.k p) x p then x else F.u y⟩
theorem lift_f (S : CS) (x p : Nat) (above : Int) : (liftS S x p above).f = liftC S.f x p above := rfl
def upR (x p : Nat) (above : Int) (z : Int) : Int := if z = p ∧ above = -1 then (x : Int) else z
def liftG (G : BG) (x p : Nat) : BG := ⟨liftC G.F x p (G.F.u p), fun k => (G.R k).map (upR x p (G.F.u p))⟩
section
variable {n : Nat} {F : CF}
theorem liftOk_c (h : FOk n F) {x p : Nat} (hx : x < n) (hu : F.u x = p) : LiftOk n ⟨fun _ => .slice none 0 0, F.k, F.u⟩ x p (F.u p) := by
  obtain ⟨hp, hm⟩ := h.above hx hu
  exact lift_ok (S := ⟨fun _ => .slice none 0 0, F.k, F.u⟩) h hx hp hu hm
theorem liftC_ok (h : FOk n F) {x p : Nat} (hx : x < n) (hu : F.u x = p) : FOk n (liftC F x p (F.u p)) :=
  FOk.lift (S := ⟨fun _ => .slice none 0 0, F.k, F.u⟩) h (liftOk_c h hx hu)
theorem liftC_deg (x p : Nat) (above : Int) (y : Nat) : ((liftC F x p above).k y).length = if y = x then (F.k p).length else if y = p then (F.k x).length else (F.k y).length :=
  lift_deg ⟨fun _ => .slice none 0 0, F.k, F.u⟩ x p above y
theorem kid_iff (h : FOk n F) {x y : Nat} (hx : x < n) (hy : y < n) : (y : Int) ∈ F.k x ↔ F.u y = x := by
  constructor
  · intro hm
    obtain ⟨z, e, _, h2, _⟩ := h.below hx hm
    obtain rfl : y = z := by omega
    exact h2
  · intro hu
    exact (h.above hy hu).2
/-- What is above each thing behind a lift. -/
theorem liftC_u (h : FOk n F) {x p : Nat} (hx : x < n) (hu : F.u x = p) {y : Nat} (hy : y < n) :
    (liftC F x p (F.u p)).u y = if y = x then F.u p else if F.u y = x then (p : Int) else if y = p ∨ F.u y = p then (x : Int) else F.u y := by
  obtain ⟨hp, hm⟩ := h.above hx hu
  show (if y = x then F.u p else if (y : Int) ∈ F.k x then (p : Int) else if (y : Int) ∈ setAt (F.k p) x p then (x : Int) else F.u y) = _
  by_cases e : y = x
  · rw [if_pos e, if_pos e]
  · rw [if_neg e, if_neg e]
    by_cases e2 : F.u y = x
    · rw [if_pos ((kid_iff h hx hy).2 e2), if_pos e2]
    · rw [if_neg (fun hm2 => e2 ((kid_iff h hx hy).1 hm2)), if_neg e2]
      have e3 : (y : Int) ∈ setAt (F.k p) x p ↔ (y = p ∨ F.u y = p) := by
        rw [mem_setAt (h.nd p hp) hm, kid_iff h hp hy]
        constructor
        · rintro (h1 | ⟨h1, _⟩)
          · exact Or.inl (by omega)
          · exact Or.inr h1
        · rintro (h1 | h1)
          · exact Or.inl (by omega)
          · exact Or.inr ⟨h1, by omega⟩
      by_cases e4 : y = p ∨ F.u y = p
      · rw [if_pos (e3.2 e4), if_pos e4]
      · rw [if_neg (fun hm2 => e4 (e3.1 hm2)), if_neg e4]
theorem liftC_way (h : FOk n F) {x p : Nat} (hx : x < n) (hu : F.u x = p) {y r : Nat} (hy : y < n) (hr : (liftC F x p (F.u p)).u y = r) :
    (y = x ∧ F.u p = r) ∨ (y ≠ x ∧ F.u y = x ∧ r = p) ∨ (y = p ∧ r = x) ∨ (y ≠ x ∧ y ≠ p ∧ F.u y = p ∧ r = x) ∨ (y ≠ x ∧ y ≠ p ∧ F.u y = r ∧ r ≠ x ∧ r ≠ p) := by
  rw [liftC_u h hx hu hy] at hr
  by_cases e : y = x
  · rw [if_pos e] at hr; exact Or.inl ⟨e, hr⟩
  · rw [if_neg e] at hr
    by_cases e2 : F.u y = x
    · rw [if_pos e2] at hr; exact Or.inr (Or.inl ⟨e, e2, by omega⟩)
    · rw [if_neg e2] at hr
      by_cases e3 : y = p ∨ F.u y = p
      · rw [if_pos e3] at hr
        by_cases e4 : y = p
        · exact Or.inr (Or.inr (Or.inl ⟨e4, by omega⟩))
        · exact Or.inr (Or.inr (Or.inr (Or.inl ⟨e, e4, e3.resolve_left e4, by omega⟩)))
      · rw [if_neg e3] at hr
        exact Or.inr (Or.inr (Or.inr (Or.inr ⟨e, fun e4 => e3 (Or.inl e4), hr, fun e5 => e2 (by omega), fun e5 => e3 (Or.inr (by omega))⟩)))
theorem liftC_root (h : FOk n F) {x p : Nat} (hx : x < n) (hu : F.u x = p) {y : Nat} (hy : y < n) : (liftC F x p (F.u p)).u y = -1 ↔ (y = x ∧ F.u p = -1) ∨ (y ≠ x ∧ y ≠ p ∧ F.u y = -1) := by
  rw [liftC_u h hx hu hy]
  by_cases e : y = x
  · rw [if_pos e]
    exact ⟨fun h => Or.inl ⟨e, h⟩, fun h => by rcases h with h | h; exact h.2; exact absurd e h.1⟩
  · rw [if_neg e]
    by_cases e2 : F.u y = x
    · rw [if_pos e2]
      exact ⟨fun h => by omega, fun h => by rcases h with h | h; exact absurd h.1 e; omega⟩
    · rw [if_neg e2]
      by_cases e3 : y = p ∨ F.u y = p
      · rw [if_pos e3]
        exact ⟨fun h => by omega, fun h => by rcases h with h | h; exact absurd h.1 e; rcases e3 with e3 | e3; exact absurd e3 h.2.1; omega⟩
      · rw [if_neg e3]
        exact ⟨fun h => Or.inr ⟨e, fun e4 => e3 (Or.inl e4), h⟩, fun h => by rcases h with h | h; exact absurd h.1 e; exact h.2.2⟩
end
section
variable {A : NS} {G : BG} {x p : Nat}
theorem up_row (h : BnX A G x) (hx : x < A.cs.length) (hu : G.F.u x = p) {k : Nat} {z : Int} (hz : z ∈ G.R k) :
    0 ≤ upR x p (G.F.u p) z ∧ upR x p (G.F.u p) z < A.cs.length ∧ (liftG G x p).F.u (upR x p (G.F.u p) z).toNat = -1 ∧ degF A.cs.length (liftG G x p).F (upR x p (G.F.u p) z) = degF A.cs.length G.F z ∧ (A.c (upR x p (G.F.u p) z).toNat).i = (A.c z.toNat).i := by
  obtain ⟨hp, hm⟩ := h.fh.f.above hx hu
  have hne : p ≠ x := fun e => by subst e; exact h.fh.f.self hx hm
  have hr := (h.rh.row k).1 z hz
  obtain ⟨y, rfl⟩ := Int.eq_ofNat_of_zero_le hr.1
  rw [Int.toNat_natCast] at hr
  have hy : y < A.cs.length := by omega
  unfold upR
  by_cases e : (y : Int) = p ∧ G.F.u p = -1
  · rw [if_pos e, Int.toNat_natCast, Int.toNat_natCast]
    obtain rfl : y = p := by omega
    refine ⟨by omega, by omega, (liftC_root h.fh.f hx hu hx).2 (Or.inl ⟨rfl, e.2⟩), ?_, (h.fh.home x y hx hu).1⟩
    rw [degF_nat _ _ hx, degF_nat _ _ hy]
    show (((liftC G.F x y (G.F.u y)).k x).length : Int) = _
    rw [liftC_deg, if_pos rfl]
  · rw [if_neg e, Int.toNat_natCast]
    have hyp : y ≠ p := fun e2 => by subst e2; exact e ⟨rfl, hr.2.2⟩
    have hyx : y ≠ x := fun e2 => by subst e2; omega
    refine ⟨by omega, by omega, (liftC_root h.fh.f hx hu hy).2 (Or.inr ⟨hyx, hyp, hr.2.2⟩), ?_, rfl⟩
    rw [degF_nat _ _ hy, degF_nat _ _ hy]
    show (((liftC G.F x p (G.F.u p)).k y).length : Int) = _
    rw [liftC_deg, if_neg hyx, if_neg hyp]
theorem lift_bnx (h : BnX A G x) (hx : x < A.cs.length) (hu : G.F.u x = p) : BnX A (liftG G x p) x := by
  obtain ⟨hp, hm⟩ := h.fh.f.above hx hu
  have hne : p ≠ x := fun e => by subst e; exact h.fh.f.self hx hm
  have hxp := h.fh.home x p hx hu
  have hqx : ∀ q : Nat, G.F.u p = q → q ≠ x := fun q hq e => by
    have d1 := h.fh.f.udeg hx hu
    have d2 := h.fh.f.udeg hp hq
    subst e; omega
  refine ⟨⟨liftC_ok h.fh.f hx hu, fun y r hy hr => ?_, fun y r hy hr hyx hrx => ?_, fun y hy hh => ?_⟩, fun q c hc h1 h2 => ?_, ⟨fun k => ⟨fun z hz => ?_, ?_⟩, fun k y => ⟨fun hm2 => ?_, fun hm2 => ?_⟩⟩, fun k hk => ?_⟩
  · rcases liftC_way h.fh.f hx hu hy hr with ⟨e, h2⟩ | ⟨_, h2, e⟩ | ⟨e, e2⟩ | ⟨_, _, h2, e⟩ | ⟨_, _, h2, _, _⟩
    · subst e
      have := h.fh.home p r hp h2
      exact ⟨hxp.1.trans this.1, hxp.2⟩
    · subst e
      have := h.fh.home y x hy h2
      exact ⟨this.1.trans hxp.1, this.2⟩
    · subst e e2
      exact ⟨hxp.1.symm, by rw [← hxp.1]; exact hxp.2⟩
    · subst e
      have := h.fh.home y p hy h2
      exact ⟨this.1.trans hxp.1.symm, this.2⟩
    · exact h.fh.home y r hy h2
  · rcases liftC_way h.fh.f hx hu hy hr with ⟨e, h2⟩ | ⟨_, h2, e⟩ | ⟨e, e2⟩ | ⟨_, _, h2, e⟩ | ⟨_, _, h2, _, _⟩
    · exact absurd e hyx
    · subst e; exact h.two r y hy hu h2
    · exact absurd e2 hrx
    · exact absurd e hrx
    · exact h.fh.ord y r hy h2 hyx hrx
  · have h0 := h.fh.alone y hy hh
    have hyx : y ≠ x := fun e => by subst e; exact hh hxp.2
    have hyp : y ≠ p := fun e => by subst e; exact hh (by rw [← hxp.1]; exact hxp.2)
    refine ⟨(liftC_root h.fh.f hx hu hy).2 (Or.inr ⟨hyx, hyp, h0.1⟩), ?_⟩
    have : ((liftC G.F x p (G.F.u p)).k y).length = 0 := by rw [liftC_deg, if_neg hyx, if_neg hyp, h0.2]; rfl
    exact List.eq_nil_of_length_eq_zero this
  · have h3 : G.F.u p = q := by
      have := liftC_u h.fh.f hx hu hx
      rw [if_pos rfl] at this
      rw [← this]; exact h1
    have hpq := h.fh.ord p q hp h3 hne (hqx q h3)
    rcases liftC_way h.fh.f hx hu hc h2 with ⟨e, h4⟩ | ⟨_, h4, e⟩ | ⟨e, e2⟩ | ⟨e3, _, h4, e⟩ | ⟨_, _, h4, e3, _⟩
    · exact absurd rfl (hqx x h4)
    · exact absurd e.symm hne
    · subst e; exact hpq
    · exact lt3_trans hpq (h.fh.ord c p hc h4 e3 hne)
    · exact absurd rfl e3
  · obtain ⟨z0, hz0, rfl⟩ := List.mem_map.1 hz
    have := up_row h hx hu hz0
    exact ⟨this.1, this.2.1, this.2.2.1⟩
  · show ((G.R k).map _).Pairwise _
    rw [List.pairwise_map]
    exact (h.rh.row k).2.imp_of_mem (fun {a b} ha hb hab => by rw [(up_row h hx hu ha).2.2.2.1, (up_row h hx hu hb).2.2.2.1]; exact hab)
  · obtain ⟨z0, hz0, e⟩ := List.mem_map.1 hm2
    have h1 := up_row h hx hu hz0
    rw [e] at h1
    rw [Int.toNat_natCast] at h1
    have hr := (h.rh.row k).1 z0 hz0
    have h2 := (h.rh.mem k z0.toNat).1 (by rw [show ((z0.toNat : Nat) : Int) = z0 by omega]; exact hz0)
    exact ⟨h2.1, by omega, h1.2.2.1, by show (A.c y).i = (k : Int); rw [h1.2.2.2.2]; exact h2.2.2.2⟩
  · obtain ⟨k1, hy, hr, hh⟩ := hm2
    show (y : Int) ∈ (G.R k).map _
    rw [List.mem_map]
    rcases (liftC_root h.fh.f hx hu hy).1 hr with ⟨e, h2⟩ | ⟨hyx, hyp, h2⟩
    · subst e
      refine ⟨(p : Int), (h.rh.mem k p).2 ⟨k1, hp, h2, ?_⟩, by unfold upR; rw [if_pos ⟨rfl, h2⟩]⟩
      have e9 : (A.c y).i = (A.c p).i := hxp.1
      show (A.c p).i = (k : Int)
      rw [← e9]; exact hh
    · exact ⟨(y : Int), (h.rh.mem k y).2 ⟨k1, hy, h2, hh⟩, by unfold upR; rw [if_neg (fun e => hyp (by omega))]⟩
  · rw [← h.w k hk]
    unfold wt
    show (((G.R k).map _).map _).sum = _
    rw [List.map_map]
    congr 1
    exact List.map_congr_left (fun z hz => by simp only [Function.comp]; rw [(up_row h hx hu hz).2.2.2.1])
theorem lift_kids (h : BnX A G x) (hx : x < A.cs.length) (hu : G.F.u x = p) (hk : ∀ c : Nat, c < A.cs.length → G.F.u c = x → lt3 A x c) (hl : lt3 A x p) :
    ∀ c : Nat, c < A.cs.length → (liftG G x p).F.u c = x → lt3 A x c := fun c hc h2 => by
  obtain ⟨hp, hm⟩ := h.fh.f.above hx hu
  have hne : p ≠ x := fun e => by subst e; exact h.fh.f.self hx hm
  rcases liftC_way h.fh.f hx hu hc h2 with ⟨e, h4⟩ | ⟨_, h4, e⟩ | ⟨e, e2⟩ | ⟨e3, _, h4, e⟩ | ⟨_, _, h4, e3, _⟩
  · have d1 := h.fh.f.udeg hx hu
    have d2 := h.fh.f.udeg hp h4
    omega
  · exact absurd e.symm hne
  · subst e; exact hl
  · exact lt3_trans hl (h.fh.ord c p hc h4 e3 hne)
  · exact absurd rfl e3
theorem BnX.done (h : BnX A G x) (hx : x < A.cs.length) (hk : ∀ c : Nat, c < A.cs.length → G.F.u c = x → lt3 A x c) (ht : ∀ p : Nat, G.F.u x = p → lt3 A p x) : BnI A G := by
  refine ⟨⟨h.fh.f, h.fh.home, fun y r hy hr => ?_, h.fh.alone⟩, h.rh, h.w⟩
  by_cases e1 : y = x
  · subst e1; exact ht r hr
  · by_cases e2 : r = x
    · subst e2; exact hk y hy hr
    · exact h.fh.ord y r hy hr e1 e2
theorem low_start {k s : Int} (h : BnI A G) (hB : lowB A x k s = true) (hx : x < A.cs.length) : BnX (lowN A x k s) G x ∧ ∀ c : Nat, c < A.cs.length → G.F.u c = x → lt3 (lowN A x k s) x c := by
  have hc := fun y => low_c hB hx y
  have hi := fun y => low_i hB hx y
  have hle := lowB_le hB
  rw [Int.toNat_natCast] at hle
  have hne : ∀ y r : Nat, y < A.cs.length → G.F.u y = r → y ≠ r := fun y r hy hu e => by
    subst e
    exact h.fh.f.self hy (h.fh.f.above hy hu).2
  have low : ∀ y : Nat, y ≠ x → lt3 A x y → lt3 (lowN A x k s) x y := fun y hy hl => lt3_lower hl (by rw [hc, if_neg hy]) (by rw [hc, if_pos rfl]; exact hle)
  have same : ∀ y r : Nat, y ≠ x → r ≠ x → lt3 A y r → lt3 (lowN A x k s) y r := fun y r h1 h2 hl => (lt3_same (by rw [hc, if_neg h1]) (by rw [hc, if_neg h2])).2 hl
  have hn := low_len A x k s
  have hw : ∀ q : Nat, lenN (lowN A x k s) q = lenN A q := fun q => by
    unfold lowN
    rw [if_pos hB, Int.toNat_natCast]
    have e := lenN_with A x ⟨(A.c x).i, k, s⟩ q hx
    simp only at e
    omega
  refine ⟨⟨⟨by rw [hn]; exact h.fh.f, fun y r hy hr => ?_, fun y r hy hr e1 e2 => ?_, fun y hy hh => ?_⟩, fun q c hc' h1 h2 => ?_, ⟨fun q => by rw [hn]; exact h.rh.row q, fun q y => ?_⟩, fun q hq => by rw [hn, hw]; exact h.w q hq⟩, fun c hc' hu => ?_⟩
  · rw [hn] at hy
    simp only [hi]
    exact h.fh.home y r hy hr
  · rw [hn] at hy
    exact same r y e2 e1 (h.fh.ord y r hy hr)
  · rw [hn] at hy
    simp only [hi] at hh
    exact h.fh.alone y hy hh
  · rw [hn] at hc'
    have h3 := h.fh.ord x q hx h1
    have h4 := h.fh.ord c x hc' h2
    exact same q c (fun e => hne x q hx h1 e.symm) (hne c x hc' h2) (lt3_trans h3 h4)
  · rw [hn]
    simp only [hi]
    exact h.rh.mem q y
  · exact low c (hne c x hc' hu) (h.fh.ord c x hc' hu)
end
end Go.Proofs.Ytighgbdijagolaa

set_option linter.unusedVariables false
set_option linter.unusedSimpArgs false
namespace Go.Proofs.Ytighgbdijagolaa

theorem aheadN_asym (A : NS) (a b : Int) (h : aheadN A a b = true) : aheadN A b a = false := by
  unfold aheadN at *
  simp only [Bool.and_eq_true, decide_eq_true_eq] at h
  have := lt3_asym h.2
  simp [this]
theorem ahead_no {A : NS} {y p : Nat} (hy : inN A (y : Int) = true) (hp : inN A (p : Int) = true) (hne : y ≠ p) (h : aheadN A y p = false) : lt3 A p y := by
  rw [ahead_nat, hy, hp] at h
  simp only [Bool.and_self, Bool.true_and, decide_eq_false_iff_not] at h
  exact (lt3_total hne).resolve_left h
def takeB' (G : BG) (h x : Nat) : BG := ⟨splitF G.F x, setR G.R h ((G.R h).filter (fun z => z != (x : Int)))⟩
/-- A root comes out of its heap. -/
def takeG (A : NS) (h x : Nat) (G : BG) : BG := addG (aheadN A) A.cs.length h (G.F.k x) (takeB' G h x)
def takeQ (A : NS) (h x : Nat) (G : BG) : Nat := (carC (aheadN A) A.cs.length (takeB' G h x).F ((takeB' G h x).R h) (G.F.k x)).q
theorem filter_len {l : List Int} (hn : l.Nodup) {x : Int} (hx : x ∈ l) : (l.filter (fun z => z != x)).length + 1 = l.length := by
  induction l with
  | nil => cases hx
  | cons y r ih =>
    rw [List.nodup_cons] at hn
    rcases List.mem_cons.1 hx with e | h
    · subst e
      have : r.filter (fun z => z != x) = r := by
        rw [List.filter_eq_self]; intro a ha; simp; intro e; subst e; exact hn.1 ha
      rw [List.filter_cons_of_neg (by simp), this]; simp
    · have hne : y ≠ x := fun e => by subst e; exact hn.1 h
      rw [List.filter_cons_of_pos (by simpa using hne)]
      have := ih hn.2 h
      simp only [List.length_cons]; omega
theorem filter_wt {n : Nat} {F : CF} {l : List Int} (hn : l.Nodup) {x : Int} (hx : x ∈ l) : wt n F (l.filter (fun z => z != x)) + 2 ^ (degF n F x).toNat = wt n F l := by
  have hc : ∀ (y : Int) (l : List Int), wt n F (y :: l) = 2 ^ (degF n F y).toNat + wt n F l := fun y l => by unfold wt; simp
  induction l with
  | nil => cases hx
  | cons y r ih =>
    rw [List.nodup_cons] at hn
    rcases List.mem_cons.1 hx with e | h
    · subst e
      have : r.filter (fun z => z != x) = r := by
        rw [List.filter_eq_self]; intro a ha; simp; intro e; subst e; exact hn.1 ha
      rw [List.filter_cons_of_neg (by simp), this, hc]; omega
    · have hne : y ≠ x := fun e => by subst e; exact hn.1 h
      rw [List.filter_cons_of_pos (by simpa using hne), hc, hc]
      have := ih hn.2 h
      omega
section
variable {A : NS} {G : BG} {h x : Nat}
theorem take_bn (B : BnX A G x) (ok : A.Ok) (hx : x < A.cs.length) (hr : G.F.u x = -1) (hin : 0 < (A.c x).i) (hh : (A.c x).i = h) :
    BnI (dropN A x) (takeG A h x G) ∧ takeQ A h x G + ((takeG A h x G).R h).length + 1 = (G.R h).length + (G.F.k x).length ∧ (x : Int) ∈ G.R h ∧
      RowF A.cs.length (splitF G.F x) ((G.R h).filter (fun z => z != (x : Int))) ∧ RowF A.cs.length (splitF G.F x) (G.F.k x) ∧ (∀ z, z ∈ (G.R h).filter (fun z => z != (x : Int)) → z ∉ G.F.k x) ∧ FOk A.cs.length (splitF G.F x) ∧
      (∀ z, z ∈ G.R h ∨ z ∈ G.F.k x → inN A z = true) := by
  have hh1 : 1 ≤ h := by omega
  have hn := ok.c1
  have inx : inN A (x : Int) = true := (inN_nat _ _).2 ⟨hx, hin⟩
  have hc := fun y => drop_c inx y
  have hcs := drop_len A (x : Int)
  have dn := B.fh.f.nd x hx
  have ku : ∀ z, z ∈ G.F.k x → ∃ y : Nat, z = y ∧ y < A.cs.length ∧ G.F.u y = x := fun z hz => by
    obtain ⟨y, h1, h2, h3, _⟩ := B.fh.f.below hx hz
    exact ⟨y, h1, h2, h3⟩
  have sx : (x : Int) ∉ G.F.k x := B.fh.f.self hx
  have dS : ∀ z : Int, z ≠ x → degF A.cs.length (splitF G.F x) z = degF A.cs.length G.F z := fun z hz => by
    unfold degF splitF
    simp only
    by_cases h0 : 0 ≤ z ∧ z < A.cs.length
    · rw [if_pos h0, if_pos h0, if_neg (by omega)]
    · rw [if_neg h0, if_neg h0]
  have uS : ∀ z : Int, 0 ≤ z → G.F.u z.toNat = -1 → (splitF G.F x).u z.toNat = -1 := fun z h0 hu => by
    unfold splitF
    simp only
    split
    · rfl
    · exact hu
  have kU : ∀ z, z ∈ G.F.k x → (splitF G.F x).u z.toNat = -1 := fun z hz => by
    obtain ⟨y, rfl, _, _⟩ := ku z hz
    unfold splitF
    simp only [Int.toNat_natCast]
    rw [if_pos hz]
  have mx : (x : Int) ∈ G.R h := (B.rh.mem h x).2 ⟨hh1, hx, hr, hh⟩
  have hrow : ∀ k, RowF A.cs.length (splitF G.F x) ((takeB' G h x).R k) := fun k => by
    have base : ∀ l : List Int, RowF A.cs.length G.F l → (x : Int) ∉ l → RowF A.cs.length (splitF G.F x) l := fun l hl hxl => by
      refine ⟨fun z hz => ?_, hl.2.imp_of_mem (fun {a b} ha hb hab => ?_)⟩
      · have := hl.1 z hz
        exact ⟨this.1, this.2.1, uS z this.1 this.2.2⟩
      · rw [dS a (fun e => hxl (e ▸ ha)), dS b (fun e => hxl (e ▸ hb))]; exact hab
    unfold takeB' setR
    simp only
    split
    · refine base _ ⟨fun z hz => (B.rh.row h).1 z (List.mem_filter.1 hz).1, (B.rh.row h).2.filter _⟩ (fun hm => by simp at hm)
    · rename_i hk
      exact base _ (B.rh.row k) (fun hm => hk (by have := ((B.rh.mem k x).1 hm).2.2.2; omega))
  have hl : RowF A.cs.length (splitF G.F x) (G.F.k x) := kids_row B.fh.f hx (fun z hz => dS z (fun e => sx (e ▸ hz))) kU
  have hd : ∀ z, z ∈ (takeB' G h x).R h → z ∉ G.F.k x := fun z hz hk => by
    unfold takeB' setR at hz
    simp only [if_true] at hz
    obtain ⟨y, rfl, hy, hu⟩ := ku z hk
    have := ((B.rh.mem h y).1 (List.mem_filter.1 hz).1).2.2.1
    omega
  have hF : FH A.cs.length (splitF G.F x) (fun y => ((dropN A x).c y).i) (lt3 (dropN A x)) := by
    refine ⟨B.fh.f.split2 hx hr, fun y p hy hu => ?_, fun y p hy hu => ?_, fun y hy h0 => ?_⟩
    all_goals unfold splitF at *; simp only at *
    · split at hu
      · omega
      · rename_i hk
        have hyx : y ≠ x := fun e => by subst e; omega
        have hpx : p ≠ x := fun e => by subst e; exact hk (B.fh.f.above hy hu).2
        rw [hc, hc, if_neg hyx, if_neg hpx]
        exact B.fh.home y p hy hu
    · split at hu
      · omega
      · rename_i hk
        have hyx : y ≠ x := fun e => by subst e; omega
        have hpx : p ≠ x := fun e => by subst e; exact hk (B.fh.f.above hy hu).2
        exact (lt3_same (by rw [hc, if_neg hpx]) (by rw [hc, if_neg hyx])).2 (B.fh.ord y p hy hu hyx hpx)
    · by_cases hyx : y = x
      · subst hyx
        exact ⟨by rw [if_neg sx]; exact hr, by rw [if_pos rfl]⟩
      · rw [hc, if_neg hyx] at h0
        have := B.fh.alone y hy h0
        rw [if_neg hyx, this.2]
        exact ⟨by split; rfl; exact this.1, rfl⟩
  have hL : ∀ y p : Nat, y < A.cs.length → p < A.cs.length → ((dropN A x).c y).i = (h : Int) → ((dropN A x).c p).i = (h : Int) → y ≠ p → aheadN A y p = false → lt3 (dropN A x) p y := fun y p hy hp h1 h2 hne ha => by
    have hyx : y ≠ x := fun e => by rw [hc, if_pos e] at h1; simp [Cl.z] at h1; omega
    have hpx : p ≠ x := fun e => by rw [hc, if_pos e] at h2; simp [Cl.z] at h2; omega
    rw [hc, if_neg hyx] at h1
    rw [hc, if_neg hpx] at h2
    exact (lt3_same (by rw [hc, if_neg hpx]) (by rw [hc, if_neg hyx])).2 (ahead_no ((inN_nat _ _).2 ⟨hy, by omega⟩) ((inN_nat _ _).2 ⟨hp, by omega⟩) hne ha)
  have hroot : ∀ y : Nat, y < A.cs.length → ((splitF G.F x).u y = -1 ↔ G.F.u y = -1 ∨ G.F.u y = x) := fun y hy => by
    unfold splitF
    simp only
    have hk := kid_iff B.fh.f hx hy
    by_cases e : G.F.u y = x
    · rw [if_pos (hk.2 e)]; exact ⟨fun _ => Or.inr e, fun _ => rfl⟩
    · rw [if_neg (fun hm => e (hk.1 hm))]; exact ⟨fun h => Or.inl h, fun h => h.resolve_right e⟩
  have hmem : ∀ k y : Nat, k ≠ h → ((y : Int) ∈ (takeB' G h x).R k ↔ 1 ≤ k ∧ y < A.cs.length ∧ (splitF G.F x).u y = -1 ∧ ((dropN A x).c y).i = (k : Int)) := fun k y hk => by
    unfold takeB' setR
    simp only [if_neg hk]
    rw [B.rh.mem k y]
    constructor
    · rintro ⟨a1, a2, a3, a4⟩
      have hyx : y ≠ x := fun e => by subst e; omega
      exact ⟨a1, a2, (hroot y a2).2 (Or.inl a3), by rw [hc, if_neg hyx]; exact a4⟩
    · rintro ⟨a1, a2, a3, a4⟩
      have hyx : y ≠ x := fun e => by rw [hc, if_pos e] at a4; simp [Cl.z] at a4; omega
      rw [hc, if_neg hyx] at a4
      refine ⟨a1, a2, ((hroot y a2).1 a3).resolve_right (fun e => ?_), a4⟩
      have := (B.fh.home y x a2 e).1
      omega
  have hm : ∀ y : Nat, y < A.cs.length ∧ (splitF G.F x).u y = -1 ∧ ((dropN A x).c y).i = (h : Int) ↔ (y : Int) ∈ (takeB' G h x).R h ∨ (y : Int) ∈ G.F.k x := fun y => by
    unfold takeB' setR
    simp only [if_true, List.mem_filter, bne_iff_ne, ne_eq]
    rw [B.rh.mem h y]
    constructor
    · rintro ⟨a2, a3, a4⟩
      have hyx : y ≠ x := fun e => by rw [hc, if_pos e] at a4; simp [Cl.z] at a4; omega
      rw [hc, if_neg hyx] at a4
      rcases (hroot y a2).1 a3 with e | e
      · exact Or.inl ⟨⟨hh1, a2, e, a4⟩, by omega⟩
      · exact Or.inr ((kid_iff B.fh.f hx a2).2 e)
    · rintro (⟨⟨_, a2, a3, a4⟩, a5⟩ | a1)
      · exact ⟨a2, (hroot y a2).2 (Or.inl a3), by rw [hc, if_neg (by omega)]; exact a4⟩
      · obtain ⟨z, e, a2, a3⟩ := ku _ a1
        obtain rfl : y = z := by omega
        have hyx : y ≠ x := fun e => by subst e; exact sx a1
        refine ⟨a2, (hroot y a2).2 (Or.inr a3), ?_⟩
        rw [hc, if_neg hyx]
        have := (B.fh.home y x a2 a3).1
        omega
  obtain ⟨r1, r2, r3, r4⟩ := add_sound (G := takeB' G h x) hF hn (aheadN_asym A) hL hh1 hrow hmem hm hl hd
  have nd : (G.R h).Nodup := (B.rh.row h).nodup
  have eR : (takeB' G h x).R h = (G.R h).filter (fun z => z != (x : Int)) := by unfold takeB' setR; simp
  have fl := filter_len nd mx
  refine ⟨⟨by rw [hcs]; exact r1, by rw [hcs]; exact r2, fun k hk => ?_⟩, ?_, mx, by rw [← eR]; exact hrow h, hl, by rw [← eR]; exact hd, hF.f, fun z hz => ?_⟩
  · rw [hcs]
    have e1 : wt A.cs.length (takeG A h x G).F ((takeG A h x G).R k) = _ := r3 k
    rw [e1]
    have hlen := lenN_with A x Cl.z (k : Int) hx
    have e2 : dropN A x = withN A x Cl.z := by unfold dropN; rw [if_pos inx, Int.toNat_natCast]
    rw [e2]
    by_cases ek : k = h
    · subst ek
      rw [if_pos rfl, eR]
      rw [if_pos (by omega), if_neg (by simp [Cl.z]; omega)] at hlen
      have w1 := filter_wt (F := G.F) (n := A.cs.length) nd mx
      rw [degF_nat _ _ hx, Int.toNat_natCast] at w1
      have w2 := kids_wt (F' := splitF G.F x) B.fh.f hx (fun z hz => dS z (fun e => sx (e ▸ hz)))
      have w3 : wt A.cs.length (splitF G.F x) ((G.R k).filter (fun z => z != (x : Int))) = wt A.cs.length G.F ((G.R k).filter (fun z => z != (x : Int))) := wt_ext (fun z hz => dS z (by simpa using (List.mem_filter.1 hz).2))
      have w4 := B.w k hk
      show wt A.cs.length (splitF G.F x) _ + wt A.cs.length (splitF G.F x) _ = _
      omega
    · rw [if_neg ek]
      rw [if_neg (by omega), if_neg (by simp [Cl.z]; omega)] at hlen
      have eK : (takeB' G h x).R k = G.R k := by unfold takeB' setR; simp only [if_neg ek]
      rw [eK]
      have w4 := B.w k hk
      have w3 : wt A.cs.length (splitF G.F x) (G.R k) = wt A.cs.length G.F (G.R k) := wt_ext (fun z hz => dS z (fun e => by
        subst e
        have := ((B.rh.mem k x).1 hz).2.2.2
        omega))
      show wt A.cs.length (splitF G.F x) _ = _
      omega
  · rw [eR] at r4
    have e3 : takeQ A h x G = (carC (aheadN A) A.cs.length (takeB' G h x).F ((G.R h).filter (fun z => z != (x : Int))) (G.F.k x)).q := by unfold takeQ; rw [eR]
    rw [e3]
    have e4 : (takeG A h x G).R h = (addG (aheadN A) A.cs.length h (G.F.k x) (takeB' G h x)).R h := rfl
    rw [e4]
    omega
  · rcases hz with hz | hz
    · have hr := (B.rh.row h).1 z hz
      have := (B.rh.mem h z.toNat).1 (by rw [show ((z.toNat : Nat) : Int) = z by omega]; exact hz)
      exact (inN_iff _ _).2 ⟨hr.1, hr.2.1, by have := this.2.2.2; omega⟩
    · obtain ⟨y, rfl, hy, hu⟩ := ku z hz
      exact (inN_nat _ _).2 ⟨hy, (B.fh.home y x hy hu).2⟩
end
end Go.Proofs.Ytighgbdijagolaa

set_option linter.unusedVariables false
set_option linter.unusedSimpArgs false
namespace Go.Proofs.Ytighgbdijagolaa

/-- A slot comes into a heap. -/
def putG (A' : NS) (h x : Nat) (G : BG) : BG := addG (aheadN A') A'.cs.length h [(x : Int)] G
def putQ (A' : NS) (h x : Nat) (G : BG) : Nat := (carC (aheadN A') A'.cs.length G.F (G.R h) [(x : Int)]).q
/-- All of one heap come into another one. -/
def meldB (G : BG) (b : Nat) : BG := ⟨G.F, setR G.R b []⟩
def meldG (A' : NS) (a b : Nat) (G : BG) : BG := addG (aheadN A') A'.cs.length a (G.R b) (meldB G b)
def meldQ (A' : NS) (a b : Nat) (G : BG) : Nat := (carC (aheadN A') A'.cs.length G.F (G.R a) (G.R b)).q
theorem rowF_nil (n : Nat) (F : CF) : RowF n F [] := ⟨fun x hx => (by cases hx), List.Pairwise.nil⟩
theorem bn_new (n : Nat) : BnI (NS.new n) BG.none := by
  have hc := fun y => NS.new_c n y
  have hn : (NS.new n).cs.length = n := by simp [NS.new]
  refine ⟨⟨by rw [hn]; exact fok_none n, fun y p hy hu => ?_, fun y p hy hu => ?_, fun y hy hh => ⟨rfl, rfl⟩⟩, ⟨fun h => rowF_nil _ _, fun h y => ⟨fun hm => (by cases hm), fun hm => ?_⟩⟩, fun h hh => ?_⟩
  · have : (-1 : Int) = p := hu
    omega
  · have : (-1 : Int) = p := hu
    omega
  · have h2 := hm.2.2.2
    rw [hc] at h2
    simp [Cl.z] at h2
    omega
  · have : ¬ 0 < lenN (NS.new n) (h : Int) := fun hp => by
      obtain ⟨y, _, h2, h3⟩ := lenN_pos.1 hp
      rw [hc] at h2
      simp [Cl.z] at h2
      omega
    show (0 : Nat) = _
    omega
theorem make_c (A : NS) (y : Nat) : (makeN A).c y = A.c y := by unfold makeN; split <;> rfl
theorem make_cs (A : NS) : (makeN A).cs = A.cs := by unfold makeN; split <;> rfl
section
variable {A : NS} {G : BG}
theorem bn_make (B : BnI A G) : BnI (makeN A) G := by
  have hc := make_c A
  have hs : (makeN A).cs.length = A.cs.length := by rw [make_cs]
  refine ⟨⟨by rw [hs]; exact B.fh.f, fun y p hy hu => by rw [hc, hc]; exact B.fh.home y p (by rw [← hs]; exact hy) hu, fun y p hy hu => (lt3_same (hc p) (hc y)).2 (B.fh.ord y p (by rw [← hs]; exact hy) hu), fun y hy hh => B.fh.alone y (by rw [← hs]; exact hy) (by rw [← hc]; exact hh)⟩,
    ⟨fun h => by rw [hs]; exact B.rh.row h, fun h y => by rw [hs, hc]; exact B.rh.mem h y⟩, fun h hh => by rw [hs, lenN_make]; exact B.w h hh⟩
theorem put_bn {h x : Nat} (k s : Int) (B : BnI A G) (ok : A.Ok) (hB : putB A h x = true) :
    BnI (putN A h x k s) (putG (putN A h x k s) h x G) ∧ putQ (putN A h x k s) h x G + ((putG (putN A h x k s) h x G).R h).length = (G.R h).length + 1 ∧
      RowF A.cs.length G.F [(x : Int)] ∧ (∀ z, z ∈ G.R h → z ∉ [(x : Int)]) ∧ (∀ z, z ∈ G.R h ∨ z ∈ [(x : Int)] → inN (putN A h x k s) z = true) ∧ (putN A h x k s).cs.length = A.cs.length := by
  obtain ⟨b1, b2, b3⟩ := (putB_iff _ _ _).1 hB
  have b4 := (hasN_iff _ _).1 b1
  have hx : x < A.cs.length := by have := (slotN_iff _ _).1 b2; omega
  have hh1 : 1 ≤ h := by omega
  have h0 : ¬ 0 < (A.c x).i := fun hp => by rw [(inN_nat _ _).2 ⟨hx, hp⟩] at b3; cases b3
  have eA : putN A h x k s = withN A x ⟨h, k, s⟩ := by unfold putN; rw [if_pos hB, Int.toNat_natCast]
  have hcs : (putN A h x k s).cs.length = A.cs.length := by rw [eA]; exact len_with _ _ _
  have hc : ∀ y, (putN A h x k s).c y = if y = x then ⟨h, k, s⟩ else A.c y := fun y => by
    rw [eA, c_with]
    by_cases e : y = x
    · rw [if_pos ⟨e, hx⟩, if_pos e]
    · rw [if_neg (fun h => e h.1), if_neg e]
  have al := B.fh.alone x hx h0
  have hne : ∀ y p : Nat, y < A.cs.length → G.F.u y = p → y ≠ x ∧ p ≠ x := fun y p hy hu => ⟨fun e => by subst e; rw [al.1] at hu; omega, fun e => by
    subst e
    have := (B.fh.f.above hy hu).2
    rw [al.2] at this; cases this⟩
  have hF : FH A.cs.length G.F (fun y => ((putN A h x k s).c y).i) (lt3 (putN A h x k s)) := by
    refine ⟨B.fh.f, fun y p hy hu => ?_, fun y p hy hu => ?_, fun y hy hh => ?_⟩
    · obtain ⟨e1, e2⟩ := hne y p hy hu
      rw [hc, hc, if_neg e1, if_neg e2]; exact B.fh.home y p hy hu
    · obtain ⟨e1, e2⟩ := hne y p hy hu
      exact (lt3_same (by rw [hc, if_neg e2]) (by rw [hc, if_neg e1])).2 (B.fh.ord y p hy hu)
    · by_cases e : y = x
      · rw [hc, if_pos e] at hh
        simp only at hh
        omega
      · rw [hc, if_neg e] at hh
        exact B.fh.alone y hy hh
  have hin : ∀ y : Nat, y < A.cs.length → ((putN A h x k s).c y).i = (h : Int) → inN (putN A h x k s) (y : Int) = true := fun y hy e => (inN_nat _ _).2 ⟨by omega, by omega⟩
  have hl : RowF A.cs.length G.F [(x : Int)] := ⟨fun z hz => by simp at hz; subst hz; exact ⟨by omega, by omega, by simpa using al.1⟩, List.pairwise_singleton _ _⟩
  have hd : ∀ z, z ∈ G.R h → z ∉ [(x : Int)] := fun z hz hm => by
    simp at hm
    subst hm
    have := ((B.rh.mem h x).1 hz).2.2.2
    omega
  have hm : ∀ y : Nat, y < A.cs.length ∧ G.F.u y = -1 ∧ ((putN A h x k s).c y).i = (h : Int) ↔ (y : Int) ∈ G.R h ∨ (y : Int) ∈ [(x : Int)] := fun y => by
    rw [B.rh.mem h y]
    simp only [List.mem_singleton]
    by_cases e : y = x
    · subst e
      rw [hc, if_pos rfl]
      exact ⟨fun _ => Or.inr rfl, fun _ => ⟨hx, al.1, rfl⟩⟩
    · rw [hc, if_neg e]
      constructor
      · rintro ⟨a1, a2, a3⟩; exact Or.inl ⟨hh1, a1, a2, a3⟩
      · rintro (⟨_, a1, a2, a3⟩ | a4)
        · exact ⟨a1, a2, a3⟩
        · omega
  obtain ⟨r1, r2, r3, r4⟩ := add_sound (G := G) (lt := aheadN (putN A h x k s)) (h := h) hF ok.c1 (aheadN_asym _) (fun y p hy hp h1 h2 hne ha => ahead_no (hin y hy h1) (hin p hp h2) hne ha) hh1 B.rh.row (fun q y hq => by
    rw [B.rh.mem q y]
    by_cases e : y = x
    · subst e
      rw [hc, if_pos rfl]
      constructor
      · rintro ⟨a1, _, _, a3⟩; omega
      · rintro ⟨a1, _, _, a3⟩; simp only at a3; omega
    · rw [hc, if_neg e]) hm hl hd
  unfold putG putQ
  rw [hcs]
  refine ⟨⟨by rw [hcs]; exact r1, by rw [hcs]; exact r2, fun q hq => ?_⟩, by simpa using r4, hl, hd, fun z hz => ?_, rfl⟩
  · rw [hcs, r3 q]
    have hlen := lenN_with A x ⟨h, k, s⟩ (q : Int) hx
    rw [← eA] at hlen
    rw [if_neg (by omega)] at hlen
    have wx : wt A.cs.length G.F [(x : Int)] = 1 := by
      unfold wt
      simp only [List.map_cons, List.map_nil, List.sum_cons, List.sum_nil]
      rw [degF_nat _ _ hx, al.2]; rfl
    have wq := B.w q hq
    by_cases e : q = h
    · subst e
      rw [if_pos ⟨rfl, by omega⟩] at hlen
      rw [if_pos rfl, wx]
      omega
    · rw [if_neg (fun h => e (by have := h.1; simp only at this; omega))] at hlen
      rw [if_neg e]
      omega
  · have key : ∃ y : Nat, z = y ∧ y < A.cs.length ∧ ((putN A h x k s).c y).i = (h : Int) := by
      rcases hz with hz | hz
      · have hr := (B.rh.row h).1 z hz
        obtain ⟨y, rfl⟩ := Int.eq_ofNat_of_zero_le hr.1
        have := (hm y).2 (Or.inl hz)
        exact ⟨y, rfl, this.1, this.2.2⟩
      · simp at hz
        subst hz
        have := (hm x).2 (Or.inr (by simp))
        exact ⟨x, rfl, this.1, this.2.2⟩
    obtain ⟨y, rfl, h1, h2⟩ := key
    exact hin y h1 h2
theorem meld_bn {a b : Nat} (B : BnI A G) (ok : A.Ok) (hj : joinB A a b = true) :
    BnI (joinN A a b) (meldG (joinN A a b) a b G) ∧ meldQ (joinN A a b) a b G + ((meldG (joinN A a b) a b G).R a).length = (G.R a).length + (G.R b).length ∧
      (∀ z, z ∈ G.R a → z ∉ G.R b) ∧ (∀ z, z ∈ G.R a ∨ z ∈ G.R b → inN (joinN A a b) z = true) := by
  obtain ⟨j1, j2, j3⟩ := (joinB_iff _ _ _).1 hj
  have a1 := (hasN_iff _ _).1 j1
  have a2 := (hasN_iff _ _).1 j2
  have hab : a ≠ b := fun e => j3 (by rw [e])
  have ha1 : 1 ≤ a := by omega
  have hcs := joinN_len A (a : Int) (b : Int)
  have hc : ∀ y : Nat, y < A.cs.length → ((joinN A a b).c y).i = if (A.c y).i = b then (a : Int) else (A.c y).i := fun y hy => by
    rw [join_c hj]
    simp only
    by_cases e : (A.c y).i = b
    · rw [if_pos ⟨e, hy⟩, if_pos e]
    · rw [if_neg (fun h => e h.1), if_neg e]
  have hF : FH A.cs.length G.F (fun y => ((joinN A a b).c y).i) (lt3 (joinN A a b)) := by
    refine ⟨B.fh.f, fun y p hy hu => ?_, fun y p hy hu => ?_, fun y hy hh => ?_⟩
    · have hp := (B.fh.f.above hy hu).1
      have e : (A.c y).i = (A.c p).i ∧ 0 < (A.c y).i := B.fh.home y p hy hu
      rw [hc y hy, hc p hp, ← e.1]
      refine ⟨rfl, ?_⟩
      split
      · omega
      · exact e.2
    · exact (join_lt3 hj p y).2 (B.fh.ord y p hy hu)
    · rw [hc y hy] at hh
      split at hh
      · omega
      · exact B.fh.alone y hy hh
  have hin : ∀ y : Nat, y < A.cs.length → ((joinN A a b).c y).i = (a : Int) → inN (joinN A a b) (y : Int) = true := fun y hy e => (inN_nat _ _).2 ⟨by omega, by omega⟩
  have eRa : (meldB G b).R a = G.R a := by unfold meldB setR; simp only [if_neg hab]
  have hd : ∀ z, z ∈ G.R a → z ∉ G.R b := fun z hz hm => by
    have hr := (B.rh.row a).1 z hz
    obtain ⟨y, rfl⟩ := Int.eq_ofNat_of_zero_le hr.1
    have e1 := ((B.rh.mem a y).1 hz).2.2.2
    have e2 := ((B.rh.mem b y).1 hm).2.2.2
    omega
  have hm : ∀ y : Nat, y < A.cs.length ∧ G.F.u y = -1 ∧ ((joinN A a b).c y).i = (a : Int) ↔ (y : Int) ∈ G.R a ∨ (y : Int) ∈ G.R b := fun y => by
    rw [B.rh.mem a y, B.rh.mem b y]
    constructor
    · rintro ⟨c1, c2, c3⟩
      rw [hc y c1] at c3
      split at c3
      · rename_i e; exact Or.inr ⟨by omega, c1, c2, e⟩
      · exact Or.inl ⟨ha1, c1, c2, c3⟩
    · rintro (⟨_, c1, c2, c3⟩ | ⟨_, c1, c2, c3⟩)
      · exact ⟨c1, c2, by rw [hc y c1, if_neg (by omega)]; exact c3⟩
      · exact ⟨c1, c2, by rw [hc y c1, if_pos c3]⟩
  obtain ⟨r1, r2, r3, r4⟩ := add_sound (G := meldB G b) (lt := aheadN (joinN A a b)) (h := a) (l := G.R b) hF ok.c1 (aheadN_asym _) (fun y p hy hp h1 h2 hne ha => ahead_no (hin y hy h1) (hin p hp h2) hne ha) ha1
    (fun q => by
      unfold meldB setR
      simp only
      split
      · exact rowF_nil _ _
      · exact B.rh.row q) (fun q y hq => by
      unfold meldB setR
      simp only
      by_cases e : q = b
      · rw [if_pos e]
        constructor
        · intro h; cases h
        · rintro ⟨_, c1, _, c3⟩
          rw [hc y c1] at c3
          split at c3 <;> omega
      · rw [if_neg e, B.rh.mem q y]
        constructor
        · rintro ⟨c0, c1, c2, c3⟩
          exact ⟨c0, c1, c2, by rw [hc y c1, if_neg (by omega)]; exact c3⟩
        · rintro ⟨c0, c1, c2, c3⟩
          rw [hc y c1] at c3
          split at c3
          · omega
          · exact ⟨c0, c1, c2, c3⟩) (fun y => by rw [eRa]; exact hm y) (B.rh.row b) (fun z hz => by rw [eRa] at hz; exact hd z hz)
  rw [eRa] at r4
  unfold meldG meldQ
  rw [hcs]
  refine ⟨⟨by rw [hcs]; exact r1, by rw [hcs]; exact r2, fun q hq => ?_⟩, r4, hd, fun z hz => ?_⟩
  · rw [hcs, r3 q, lenN_join ok hj (q : Int)]
    have wq := B.w q hq
    have wa := B.w a ha1
    have wb := B.w b (by omega)
    have eF : (meldB G b).F = G.F := rfl
    rw [eRa, eF]
    by_cases e : q = a
    · rw [if_pos e, if_pos (by omega)]; omega
    · rw [if_neg e, if_neg (by omega)]
      by_cases e2 : q = b
      · subst e2
        rw [if_pos rfl]
        unfold meldB setR
        simp only [if_true]
        rfl
      · rw [if_neg (by omega)]
        unfold meldB setR
        simp only [if_neg e2]
        exact wq
  · have key : ∃ y : Nat, z = y := by
      rcases hz with hz | hz
      · exact ⟨z.toNat, by have := (B.rh.row a).1 z hz; omega⟩
      · exact ⟨z.toNat, by have := (B.rh.row b).1 z hz; omega⟩
    obtain ⟨y, rfl⟩ := key
    have := (hm y).2 hz
    exact hin y this.1 this.2.2
/-- Each slot of a heap has a root above it, or is one. -/
theorem bn_top (B : BnI A G) : ∀ (m y : Nat), A.cs.length ≤ m + (G.F.k y).length → y < A.cs.length → 0 < (A.c y).i → ∃ T, T < A.cs.length ∧ G.F.u T = -1 ∧ (A.c T).i = (A.c y).i ∧ (T = y ∨ lt3 A T y)
  | m, y, hm, hy, hh => by
    rcases B.fh.f.up y hy with h1 | ⟨p, hp, h1, h2⟩
    · exact ⟨y, hy, h1, rfl, Or.inl rfl⟩
    · have hd := B.fh.f.udeg hy h1
      have hl := B.fh.f.len hp
      have ho : (A.c y).i = (A.c p).i ∧ 0 < (A.c y).i := B.fh.home y p hy h1
      match m, hm with
      | 0, hm => omega
      | m + 1, hm =>
        obtain ⟨T, t1, t2, t3, t4⟩ := bn_top B m p (by omega) hp (by omega)
        refine ⟨T, t1, t2, by rw [t3, ho.1], Or.inr ?_⟩
        have hl := B.fh.ord y p hy h1
        rcases t4 with e | e
        · rw [e]; exact hl
        · exact lt3_trans e hl
/-- The best of a row. -/
def best2 (lt : Int → Int → Bool) : Int → List Int → Int
  | b, [] => b
  | b, x :: t => best2 lt (if lt x b then x else b) t
theorem best2_in (lt : Int → Int → Bool) : ∀ (l : List Int) (b : Int), best2 lt b l ∈ b :: l
  | [], b => by simp [best2]
  | x :: t, b => by
    have key : ∀ c, best2 lt c t ∈ c :: t := fun c => best2_in lt t c
    unfold best2
    cases e : lt x b with
    | true =>
      rw [if_pos rfl]
      exact List.mem_cons_of_mem _ (key x)
    | false =>
      rw [if_neg (by simp)]
      rcases List.mem_cons.1 (key b) with h | h
      · rw [h]; simp
      · exact List.mem_cons_of_mem _ (List.mem_cons_of_mem _ h)
theorem best2_first {lt : Int → Int → Bool} {P : Int → Prop} (tr : ∀ a b c, P a → P b → P c → lt a b = true → lt b c = true → lt a c = true) (tot : ∀ a b, P a → P b → a ≠ b → lt a b = false → lt b a = true) :
    ∀ (l : List Int) (b : Int), P b → (∀ x, x ∈ l → P x) → ∀ x, x ∈ b :: l → x = best2 lt b l ∨ lt (best2 lt b l) x = true
  | [], b, _, _, x, hx => by simp at hx; subst hx; exact Or.inl rfl
  | y :: t, b, hb, hl, x, hx => by
    have hy := hl y (by simp)
    have ht := fun z hz => hl z (List.mem_cons_of_mem _ hz)
    unfold best2
    have hP : P (if lt y b then y else b) := by split; exact hy; exact hb
    have ih := best2_first tr tot t (if lt y b then y else b) hP ht
    have hbest : P (best2 lt (if lt y b then y else b) t) := by
      rcases List.mem_cons.1 (best2_in lt t (if lt y b then y else b)) with e | e
      · rw [e]; exact hP
      · exact ht _ e
    have via : ∀ z, P z → lt (if lt y b then y else b) z = true → z = best2 lt (if lt y b then y else b) t ∨ lt (best2 lt (if lt y b then y else b) t) z = true := fun z hz h => by
      rcases ih _ (List.mem_cons_self) with e | e
      · rw [← e]; exact Or.inr h
      · exact Or.inr (tr _ _ _ hbest hP hz e h)
    by_cases e : lt y b = true
    · rw [if_pos e] at ih via ⊢
      rcases List.mem_cons.1 hx with e1 | hx
      · subst e1; exact via x hb e
      · exact ih x hx
    · rw [if_neg e] at ih via ⊢
      have e : lt y b = false := by simpa using e
      rcases List.mem_cons.1 hx with e1 | hx
      · subst e1; exact ih x (by simp)
      · rcases List.mem_cons.1 hx with e1 | hx
        · subst e1
          by_cases exb : x = b
          · subst exb; exact ih x (by simp)
          · exact via x hy (tot x b hy hb exb e)
        · exact ih x (List.mem_cons_of_mem _ hx)
theorem bn_in (B : BnI A G) {h : Nat} {z : Int} (hz : z ∈ G.R h) : ∃ y : Nat, z = y ∧ y < A.cs.length ∧ inN A z = true ∧ (A.c y).i = h ∧ G.F.u y = -1 := by
  have hr := (B.rh.row h).1 z hz
  obtain ⟨y, rfl⟩ := Int.eq_ofNat_of_zero_le hr.1
  have := (B.rh.mem h y).1 hz
  have h4 : (A.c y).i = h := this.2.2.2
  exact ⟨y, rfl, this.2.1, (inN_nat _ _).2 ⟨this.2.1, by omega⟩, h4, this.2.2.1⟩
theorem bn_min (B : BnI A G) {h : Nat} (h1 : 1 ≤ h) {x : Int} {t : List Int} (hR : G.R h = x :: t) : ∃ m : Nat, best2 (aheadN A) x t = m ∧ minN A (h : Int) = some m ∧ m < A.cs.length ∧ G.F.u m = -1 ∧ (A.c m).i = h := by
  have hin : ∀ z, z ∈ x :: t → ∃ y : Nat, z = y ∧ y < A.cs.length ∧ inN A z = true ∧ (A.c y).i = h ∧ G.F.u y = -1 := fun z hz => bn_in B (by rw [hR]; exact hz)
  obtain ⟨m, e, m1, m2, m3, m4⟩ := hin _ (best2_in (aheadN A) t x)
  refine ⟨m, e, (minN_some (by omega)).2 ⟨m1, m3, fun y hy hh => ?_⟩, m1, m4, m3⟩
  have F := best2_first (lt := aheadN A) (P := fun z => ∃ y : Nat, z = y ∧ inN A z = true) (fun a b c ha hb hc h1 h2 => by
    obtain ⟨a, rfl, _⟩ := ha
    obtain ⟨b, rfl, _⟩ := hb
    obtain ⟨c, rfl, _⟩ := hc
    rw [ahead_nat] at h1 h2 ⊢
    simp only [Bool.and_eq_true, decide_eq_true_eq] at h1 h2 ⊢
    exact ⟨⟨h1.1.1, h2.1.2⟩, lt3_trans h1.2 h2.2⟩) (fun a b ha hb hne h1 => by
    obtain ⟨a, rfl, ia⟩ := ha
    obtain ⟨b, rfl, ib⟩ := hb
    have := ahead_no ia ib (fun e => hne (by rw [e])) h1
    rw [ahead_nat, ia, ib]
    simpa using this) t x (by obtain ⟨y, e, _, i, _⟩ := hin x (by simp); exact ⟨y, e, i⟩) (fun z hz => by obtain ⟨y, e, _, i, _⟩ := hin z (List.mem_cons_of_mem _ hz); exact ⟨y, e, i⟩)
  obtain ⟨T, t1, t2, t3, t4⟩ := bn_top B A.cs.length y (by omega) hy (by omega)
  have hT : (T : Int) ∈ x :: t := by rw [← hR]; exact (B.rh.mem h T).2 ⟨h1, t1, t2, by rw [t3]; exact hh⟩
  have hmT : T = m ∨ lt3 A m T := by
    rcases F _ hT with e2 | e2
    · rw [e] at e2; exact Or.inl (by omega)
    · rw [e, ahead_nat] at e2
      simp only [Bool.and_eq_true, decide_eq_true_eq] at e2
      exact Or.inr e2.2
  rcases t4 with e1 | e1
  · subst e1; exact hmT
  · rcases hmT with e2 | e2
    · subst e2; exact Or.inr e1
    · exact Or.inr (lt3_trans e2 e1)
theorem bn_none (B : BnI A G) {h : Nat} (h1 : 1 ≤ h) (hR : G.R h = []) : minN A (h : Int) = none := by
  have := B.w h h1
  rw [hR] at this
  exact (minN_none (by omega)).2 this.symm
end
end Go.Proofs.Ytighgbdijagolaa

set_option linter.unusedVariables false
set_option linter.unusedSimpArgs false
namespace Go.Proofs.Ytighgbdijagolaa

/-- A thing is lifted as long as hp holds of what is above it; how often it was asked (ct each time). -/
def liftL (hp : Nat → Bool) (ct x : Nat) : Nat → BG → BG × Nat
  | 0, G => (G, 0)
  | f + 1, G => if G.F.u x = -1 then (G, 0) else if hp (G.F.u x).toNat then ((liftL hp ct x f (liftG G x (G.F.u x).toNat)).1, (liftL hp ct x f (liftG G x (G.F.u x).toNat)).2 + ct) else (G, ct)
theorem liftL_root {hp : Nat → Bool} {ct x f : Nat} {G : BG} (h : G.F.u x = -1) : liftL hp ct x f G = (G, 0) := by
  cases f with
  | zero => rfl
  | succ f => rw [liftL, if_pos h]
theorem liftL_no {hp : Nat → Bool} {ct x f p : Nat} {G : BG} (h : G.F.u x = p) (hh : hp p = false) : liftL hp ct x (f + 1) G = (G, ct) := by
  rw [liftL, if_neg (by omega), h, Int.toNat_natCast, hh]; rfl
theorem liftL_yes {hp : Nat → Bool} {ct x f p : Nat} {G : BG} (h : G.F.u x = p) (hh : hp p = true) : liftL hp ct x (f + 1) G = ((liftL hp ct x f (liftG G x p)).1, (liftL hp ct x f (liftG G x p)).2 + ct) := by
  rw [liftL, if_neg (by omega), h, Int.toNat_natCast, hh]; rfl
section
variable {A : NS} {G : BG} {x : Nat} {hp : Nat → Bool} {ct : Nat}
theorem lift_more {p : Nat} (B : BnX A G x) (hx : x < A.cs.length) (hu : G.F.u x = p) : (G.F.k x).length < ((liftG G x p).F.k x).length := by
  have := B.fh.f.udeg hx hu
  show _ < ((liftC G.F x p (G.F.u p)).k x).length
  rw [liftC_deg, if_pos rfl]
  exact this
theorem lift_end (hx : x < A.cs.length) : ∀ (f : Nat) {G : BG}, BnX A G x → A.cs.length ≤ f + (G.F.k x).length → BnX A (liftL hp ct x f G).1 x ∧ ((liftL hp ct x f G).1.F.u x = -1 ∨ ∃ p : Nat, (liftL hp ct x f G).1.F.u x = p ∧ hp p = false)
  | 0, G, B, hf => by have := B.fh.f.len hx; omega
  | f + 1, G, B, hf => by
    rcases B.fh.f.up x hx with h1 | ⟨p, hp1, h1, h2⟩
    · rw [liftL_root h1]; exact ⟨B, Or.inl h1⟩
    · cases hh : hp p with
      | false => rw [liftL_no h1 hh]; exact ⟨B, Or.inr ⟨p, h1, hh⟩⟩
      | true =>
        rw [liftL_yes h1 hh]
        have := lift_more B hx h1
        exact lift_end hx f (lift_bnx B hx h1) (by omega)
theorem liftL_kids (hx : x < A.cs.length) (hl : ∀ p : Nat, p < A.cs.length → hp p = true → lt3 A x p) : ∀ (f : Nat) {G : BG}, BnX A G x → (∀ c : Nat, c < A.cs.length → G.F.u c = x → lt3 A x c) → ∀ c : Nat, c < A.cs.length → (liftL hp ct x f G).1.F.u c = x → lt3 A x c
  | 0, G, B, hk => hk
  | f + 1, G, B, hk => by
    rcases B.fh.f.up x hx with h1 | ⟨p, hp1, h1, h2⟩
    · rw [liftL_root h1]; exact hk
    · cases hh : hp p with
      | false => rw [liftL_no h1 hh]; exact hk
      | true =>
        rw [liftL_yes h1 hh]
        exact liftL_kids hx hl f (lift_bnx B hx h1) (lift_kids B hx h1 hk (hl p hp1 hh))
/-- How often it was asked: no more often than there are degrees. -/
theorem liftL_cost (hx : x < A.cs.length) {D : Nat} : ∀ (f : Nat) {G : BG}, BnX A G x → (∀ y : Nat, y < A.cs.length → (A.c y).i = (A.c x).i → (G.F.k y).length ≤ D) → (liftL hp ct x f G).2 + ct * (G.F.k x).length ≤ ct * D
  | 0, G, B, hd => by
    show 0 + ct * _ ≤ _
    rw [Nat.zero_add]
    exact Nat.mul_le_mul_left ct (hd x hx rfl)
  | f + 1, G, B, hd => by
    have hdx := Nat.mul_le_mul_left ct (hd x hx rfl)
    rcases B.fh.f.up x hx with h1 | ⟨p, hp1, h1, h2⟩
    · rw [liftL_root h1]
      show 0 + ct * _ ≤ _
      omega
    · have d1 := B.fh.f.udeg hx h1
      have hom : (A.c x).i = (A.c p).i := (B.fh.home x p hx h1).1
      have hdp := hd p hp1 hom.symm
      have m1 : ct * (G.F.k x).length + ct ≤ ct * D := by
        have : ct * ((G.F.k x).length + 1) ≤ ct * D := Nat.mul_le_mul_left ct (by omega)
        rwa [Nat.mul_add, Nat.mul_one] at this
      cases hh : hp p with
      | false =>
        rw [liftL_no h1 hh]
        show ct + _ ≤ _
        omega
      | true =>
        rw [liftL_yes h1 hh]
        have hm := lift_more B hx h1
        have ih := liftL_cost hx (D := D) f (lift_bnx B hx h1) (fun y hy he => by
          show ((liftC G.F x p (G.F.u p)).k y).length ≤ D
          rw [liftC_deg]
          split
          · exact hdp
          · split
            · exact hd x hx rfl
            · exact hd y hy he)
        have m2 : ct * (G.F.k x).length + ct ≤ ct * ((liftG G x p).F.k x).length := by
          have : ct * ((G.F.k x).length + 1) ≤ ct * ((liftG G x p).F.k x).length := Nat.mul_le_mul_left ct (by omega)
          rwa [Nat.mul_add, Nat.mul_one] at this
        show _ + ct + _ ≤ _
        omega
/-- What a lift does to the rows. -/
theorem lift_rows {p h : Nat} (B : BnX A G x) (hx : x < A.cs.length) (hu : G.F.u x = p) (hh : (A.c x).i = h) : (liftG G x p).R = if G.F.u p = -1 then setR G.R h (setAt (G.R h) p x) else G.R := by
  obtain ⟨hp1, hm⟩ := B.fh.f.above hx hu
  have hom : (A.c x).i = (A.c p).i ∧ 0 < (A.c x).i := B.fh.home x p hx hu
  funext k
  show (G.R k).map (upR x p (G.F.u p)) = _
  by_cases e : G.F.u p = -1
  · rw [if_pos e]
    unfold setR
    by_cases ek : k = h
    · rw [if_pos ek, ek]
      have hpR : (p : Int) ∈ G.R h := (B.rh.mem h p).2 ⟨by omega, hp1, e, by show (A.c p).i = _; omega⟩
      rw [← put_set (B.rh.row h).nodup p x hpR]
      unfold putL upR
      exact List.map_congr_left (fun z _ => by
        by_cases ez : z = p
        · rw [if_pos ⟨ez, e⟩, if_pos ez]
        · rw [if_neg (fun h => ez h.1), if_neg ez])
    · rw [if_neg ek]
      have : ∀ z, z ∈ G.R k → upR x p (G.F.u p) z = z := fun z hz => by
        unfold upR
        rw [if_neg (fun h => ?_)]
        rw [h.1] at hz
        have h4 : (A.c p).i = (k : Int) := ((B.rh.mem k p).1 hz).2.2.2
        omega
      rw [List.map_congr_left this]; simp
  · rw [if_neg e]
    have : ∀ z, z ∈ G.R k → upR x p (G.F.u p) z = z := fun z hz => by
      unfold upR
      rw [if_neg (fun h => e h.2)]
    rw [List.map_congr_left this]; simp
end
end Go.Proofs.Ytighgbdijagolaa
