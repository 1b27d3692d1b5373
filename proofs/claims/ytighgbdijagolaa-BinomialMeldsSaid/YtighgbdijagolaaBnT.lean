/-
  Binomial heaps, plainly: a thing is lifted as long as something holds. No program in sight. Conditions: those of each lemma.
-/
import Derived.Test.YtighgbdijagolaaBnS
set_option linter.unusedVariables false
set_option linter.unusedSimpArgs false
namespace Go.Proofs.Ytighgbdijagolaa

/-- A thing is lifted as long as hp holds of what is above it; how often it was asked (ct each time). -/
def liftL (hp : Nat → Bool) (ct x : Nat) : Nat → BG → BG × Nat
  | 0, G => (G, 0)
  | f + 1, G => if G.F.u x = -1 then (G, 0) else if hp (G.F.u x).toNat then ((liftL hp ct x f (liftG G x (G.F.u x).toNat)).1, (liftL hp ct x f (liftG G x (G.F.u x).toNat)).2 + ct) else (G, ct)
theorem liftL_root {hp : Nat → Bool} {ct x f : Nat} {G : BG} (h : G.F.u x = -1) : liftL hp ct x f G = (G, 0) := by
  cases f with
  | zero => rfl
  | succ f => rw [liftL, if_pos h]
theorem liftL_no {hp : Nat → Bool} {ct x f p : Nat} {G : BG} (h : G.F.u x = p) (hh : hp p = false) : liftL hp ct x (f + 1) G = (G, ct) := by
  rw [liftL, if_neg (by omega), h, Int.toNat_natCast, hh]; rfl
theorem liftL_yes {hp : Nat → Bool} {ct x f p : Nat} {G : BG} (h : G.F.u x = p) (hh : hp p = true) : liftL hp ct x (f + 1) G = ((liftL hp ct x f (liftG G x p)).1, (liftL hp ct x f (liftG G x p)).2 + ct) := by
  rw [liftL, if_neg (by omega), h, Int.toNat_natCast, hh]; rfl
section
variable {A : NS} {G : BG} {x : Nat} {hp : Nat → Bool} {ct : Nat}
theorem lift_more {p : Nat} (B : BnX A G x) (hx : x < A.cs.length) (hu : G.F.u x = p) : (G.F.k x).length < ((liftG G x p).F.k x).length := by
  have := B.fh.f.udeg hx hu
  show _ < ((liftC G.F x p (G.F.u p)).k x).length
  rw [liftC_deg, if_pos rfl]
  exact this
theorem lift_end (hx : x < A.cs.length) : ∀ (f : Nat) {G : BG}, BnX A G x → A.cs.length ≤ f + (G.F.k x).length → BnX A (liftL hp ct x f G).1 x ∧ ((liftL hp ct x f G).1.F.u x = -1 ∨ ∃ p : Nat, (liftL hp ct x f G).1.F.u x = p ∧ hp p = false)
  | 0, G, B, hf => by have := B.fh.f.len hx; omega
  | f + 1, G, B, hf => by
    rcases B.fh.f.up x hx with h1 | ⟨p, hp1, h1, h2⟩
    · rw [liftL_root h1]; exact ⟨B, Or.inl h1⟩
    · cases hh : hp p with
      | false => rw [liftL_no h1 hh]; exact ⟨B, Or.inr ⟨p, h1, hh⟩⟩
      | true =>
        rw [liftL_yes h1 hh]
        have := lift_more B hx h1
        exact lift_end hx f (lift_bnx B hx h1) (by omega)
theorem liftL_kids (hx : x < A.cs.length) (hl : ∀ p : Nat, p < A.cs.length → hp p = true → lt3 A x p) : ∀ (f : Nat) {G : BG}, BnX A G x → (∀ c : Nat, c < A.cs.length → G.F.u c = x → lt3 A x c) → ∀ c : Nat, c < A.cs.length → (liftL hp ct x f G).1.F.u c = x → lt3 A x c
  | 0, G, B, hk => hk
  | f + 1, G, B, hk => by
    rcases B.fh.f.up x hx with h1 | ⟨p, hp1, h1, h2⟩
    · rw [liftL_root h1]; exact hk
    · cases hh : hp p with
      | false => rw [liftL_no h1 hh]; exact hk
      | true =>
        rw [liftL_yes h1 hh]
        exact liftL_kids hx hl f (lift_bnx B hx h1) (lift_kids B hx h1 hk (hl p hp1 hh))
/-- How often it was asked: no more often than there are degrees. -/
theorem liftL_cost (hx : x < A.cs.length) {D : Nat} : ∀ (f : Nat) {G : BG}, BnX A G x → (∀ y : Nat, y < A.cs.length → (A.c y).i = (A.c x).i → (G.F.k y).length ≤ D) → (liftL hp ct x f G).2 + ct * (G.F.k x).length ≤ ct * D
  | 0, G, B, hd => by
    show 0 + ct * _ ≤ _
    rw [Nat.zero_add]
    exact Nat.mul_le_mul_left ct (hd x hx rfl)
  | f + 1, G, B, hd => by
    have hdx := Nat.mul_le_mul_left ct (hd x hx rfl)
    rcases B.fh.f.up x hx with h1 | ⟨p, hp1, h1, h2⟩
    · rw [liftL_root h1]
      show 0 + ct * _ ≤ _
      omega
    · have d1 := B.fh.f.udeg hx h1
      have hom : (A.c x).i = (A.c p).i := (B.fh.home x p hx h1).1
      have hdp := hd p hp1 hom.symm
      have m1 : ct * (G.F.k x).length + ct ≤ ct * D := by
        have : ct * ((G.F.k x).length + 1) ≤ ct * D := Nat.mul_le_mul_left ct (by omega)
        rwa [Nat.mul_add, Nat.mul_one] at this
      cases hh : hp p with
      | false =>
        rw [liftL_no h1 hh]
        show ct + _ ≤ _
        omega
      | true =>
        rw [liftL_yes h1 hh]
        have hm := lift_more B hx h1
        have ih := liftL_cost hx (D := D) f (lift_bnx B hx h1) (fun y hy he => by
          show ((liftC G.F x p (G.F.u p)).k y).length ≤ D
          rw [liftC_deg]
          split
          · exact hdp
          · split
            · exact hd x hx rfl
            · exact hd y hy he)
        have m2 : ct * (G.F.k x).length + ct ≤ ct * ((liftG G x p).F.k x).length := by
          have : ct * ((G.F.k x).length + 1) ≤ ct * ((liftG G x p).F.k x).length := Nat.mul_le_mul_left ct (by omega)
          rwa [Nat.mul_add, Nat.mul_one] at this
        show _ + ct + _ ≤ _
        omega
/-- What a lift does to the rows. -/
theorem lift_rows {p h : Nat} (B : BnX A G x) (hx : x < A.cs.length) (hu : G.F.u x = p) (hh : (A.c x).i = h) : (liftG G x p).R = if G.F.u p = -1 then setR G.R h (setAt (G.R h) p x) else G.R := by
  obtain ⟨hp1, hm⟩ := B.fh.f.above hx hu
  have hom : (A.c x).i = (A.c p).i ∧ 0 < (A.c x).i := B.fh.home x p hx hu
  funext k
  show (G.R k).map (upR x p (G.F.u p)) = _
  by_cases e : G.F.u p = -1
  · rw [if_pos e]
    unfold setR
    by_cases ek : k = h
    · rw [if_pos ek, ek]
      have hpR : (p : Int) ∈ G.R h := (B.rh.mem h p).2 ⟨by omega, hp1, e, by show (A.c p).i = _; omega⟩
      rw [← put_set (B.rh.row h).nodup p x hpR]
      unfold putL upR
      exact List.map_congr_left (fun z _ => by
        by_cases ez : z = p
        · rw [if_pos ⟨ez, e⟩, if_pos ez]
        · rw [if_neg (fun h => ez h.1), if_neg ez])
    · rw [if_neg ek]
      have : ∀ z, z ∈ G.R k → upR x p (G.F.u p) z = z := fun z hz => by
        unfold upR
        rw [if_neg (fun h => ?_)]
        rw [h.1] at hz
        have h4 : (A.c p).i = (k : Int) := ((B.rh.mem k p).1 hz).2.2.2
        omega
      rw [List.map_congr_left this]; simp
  · rw [if_neg e]
    have : ∀ z, z ∈ G.R k → upR x p (G.F.u p) z = z := fun z hz => by
      unfold upR
      rw [if_neg (fun h => e h.2)]
    rw [List.map_congr_left this]; simp
end
end Go.Proofs.Ytighgbdijagolaa
