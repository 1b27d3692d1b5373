/-
  The plain law of layer 9: what hangs below a thing stands once in its list. No program in sight. Conditions: those of each lemma.
-/
import Derived.Test.YtdgfibcbnlkbpaaSpinePlain
set_option linter.unusedVariables false
set_option linter.unusedSimpArgs false
namespace Go.Proofs.Ytdgfibcbnlkbpaa

theorem upL_rng {n : Nat} {l : List Hg} (s : Snd n l) {y x : Int} (h : upL l y = some x) : 0 ≤ x ∧ x < n := by
  obtain ⟨_, hm⟩ := up_mem h
  have := s.rng _ hm
  exact ⟨this.1, this.2.1⟩
theorem anc_up {n : Nat} {l : List Hg} (s : Snd n l) : ∀ (m : Nat) (z y x : Int), 0 ≤ z ∧ z < n → (anc n l z).length ≤ m → y ∈ anc n l z → upL l y = some x → x ∈ anc n l z
  | 0, z, y, x, hz, hm, _, _ => by have := anc_len s z hz; omega
  | m + 1, z, y, x, hz, hm, hy, hu => by
    have e := anc_eq s z hz
    cases hq : upL l z with
    | none =>
      rw [hq] at e
      simp only at e
      rw [e] at hy
      simp at hy
      subst hy
      rw [hq] at hu; cases hu
    | some p =>
      rw [hq] at e
      simp only at e
      have hp := upL_rng s hq
      rw [e] at hy hm ⊢
      simp only [List.length_cons] at hm
      rcases List.mem_cons.1 hy with rfl | hy
      · rw [hq] at hu
        simp at hu
        subst hu
        rw [anc_eq s p hp]; simp
      · exact List.mem_cons_of_mem _ (anc_up s m p y x hp (by omega) hy hu)
theorem anc_chain {n : Nat} {l : List Hg} (s : Snd n l) : ∀ (m : Nat) (z a b : Int), 0 ≤ z ∧ z < n → (anc n l z).length ≤ m → a ∈ anc n l z → b ∈ anc n l z → a ∈ anc n l b ∨ b ∈ anc n l a
  | 0, z, a, b, hz, hm, _, _ => by have := anc_len s z hz; omega
  | m + 1, z, a, b, hz, hm, ha, hb => by
    have e := anc_eq s z hz
    have ha0 := ha
    have hb0 := hb
    rw [e] at ha hb hm
    rcases List.mem_cons.1 ha with rfl | ha
    · exact Or.inr hb0
    · rcases List.mem_cons.1 hb with rfl | hb
      · exact Or.inl ha0
      · cases hq : upL l z with
        | none => rw [hq] at ha; cases ha
        | some p =>
          rw [hq] at ha hb hm
          simp only [List.length_cons] at ha hb hm
          exact anc_chain s m p a b (upL_rng s hq) (by have : (anc n l p).length + 1 ≤ m + 1 := hm; omega) ha hb
theorem anc_d {n : Nat} {l : List Hg} (d : Int → Nat) (hd : ∀ h, h ∈ l → d h.p < d h.x) (y z : Int) (h : z ∈ anc n l y) : d z ≤ d y := ancF_d d hd _ y z h
theorem up_d {l : List Hg} (d : Int → Nat) (hd : ∀ h, h ∈ l → d h.p < d h.x) {y x : Int} (h : upL l y = some x) : d x < d y := by
  obtain ⟨_, hm⟩ := up_mem h
  exact hd _ hm
/-- What is in a thing's list has it above. -/
theorem all_anc {n : Nat} {l : List Hg} (s : Snd n l) : ∀ (f : Nat) (x z : Int), 0 ≤ x ∧ x < n → z ∈ allL n l f x → (0 ≤ z ∧ z < n) ∧ x ∈ anc n l z
  | 0, x, z, _, h => by cases h
  | f + 1, x, z, hx, h => by
    rw [allL, if_pos hx] at h
    have key : ∀ r, z ∈ kidA n (allL n l f) (kidL l x r) → (0 ≤ z ∧ z < n) ∧ x ∈ anc n l z := fun r hr => by
      cases hk : kidL l x r with
      | none => rw [hk] at hr; cases hr
      | some y =>
        rw [hk] at hr
        have hy := (s.rng _ (kid_mem hk)).2.2
        have ih := all_anc s f y z hy hr
        exact ⟨ih.1, anc_up s _ z y x ih.1 (Nat.le_refl _) ih.2 (s.kid_up hk)⟩
    rcases List.mem_cons.1 h with rfl | h
    · exact ⟨hx, by rw [anc_eq s z hx]; simp⟩
    · rcases List.mem_append.1 h with h | h
      · exact key _ h
      · exact key _ h
theorem one_x {n : Nat} {l : List Hg} (s : Snd n l) {a b : Hg} (ha : a ∈ l) (hb : b ∈ l) (hab : a.x = b.x) : a = b := by
  have f1 := pw_find (fun g => g.x == a.x) l a ha (by simp) (s.one.imp (fun {a b} hab hc => hab.1 (by simp at hc; rw [hc.1, hc.2])))
  have f2 := pw_find (fun g => g.x == a.x) l b hb (by simp [hab]) (s.one.imp (fun {a b} hab hc => hab.1 (by simp at hc; rw [hc.1, hc.2])))
  rw [f1] at f2; simpa using f2
theorem up_twins {n : Nat} {l : List Hg} (s : Snd n l) {x a b : Int} (h1 : upL l a = some x) (h2 : upL l b = some x) (hb : 0 ≤ b ∧ b < n) (h : a ∈ anc n l b) : a = b := by
  obtain ⟨d, hd⟩ := s.acyc
  rw [anc_eq s b hb, h2] at h
  rcases List.mem_cons.1 h with h | h
  · exact h
  · have e1 : d a ≤ d x := anc_d d hd x a h
    have e2 := up_d d hd h1
    omega
theorem allL_nodup {n : Nat} {l : List Hg} (s : Snd n l) : ∀ (f : Nat) (x : Int), (allL n l f x).Nodup
  | 0, x => List.nodup_nil
  | f + 1, x => by
    rw [allL]
    split
    · rename_i hx
      obtain ⟨d, hd⟩ := s.acyc
      have kn : ∀ r, (kidA n (allL n l f) (kidL l x r)).Nodup := fun r => by
        cases hk : kidL l x r with
        | none => exact List.nodup_nil
        | some y => exact allL_nodup s f y
      have ka : ∀ r z, z ∈ kidA n (allL n l f) (kidL l x r) → ∃ y, kidL l x r = some y ∧ upL l y = some x ∧ (0 ≤ y ∧ y < n) ∧ (0 ≤ z ∧ z < n) ∧ y ∈ anc n l z := fun r z hr => by
        cases hk : kidL l x r with
        | none => rw [hk] at hr; cases hr
        | some y =>
          rw [hk] at hr
          have hy := (s.rng _ (kid_mem hk)).2.2
          have ih := all_anc s f y z hy hr
          exact ⟨y, rfl, s.kid_up hk, hy, ih.1, ih.2⟩
      have kx : ∀ r, x ∉ kidA n (allL n l f) (kidL l x r) := fun r h => by
        obtain ⟨y, _, hu, _, _, hm⟩ := ka r x h
        have e1 := anc_d d hd x y hm
        have e2 := up_d d hd hu
        omega
      rw [List.nodup_cons]
      refine ⟨fun h => ?_, ?_⟩
      · rcases List.mem_append.1 h with h | h
        · exact kx _ h
        · exact kx _ h
      · rw [List.nodup_append]
        refine ⟨kn _, kn _, fun a ha b hb e => ?_⟩
        subst e
        obtain ⟨y1, k1, u1, r1, rz, m1⟩ := ka _ _ ha
        obtain ⟨y2, k2, u2, r2, _, m2⟩ := ka _ _ hb
        have e : y1 = y2 := by
          rcases anc_chain s _ a y1 y2 rz (Nat.le_refl _) m1 m2 with h | h
          · exact up_twins s u1 u2 r2 h
          · exact (up_twins s u2 u1 r1 h).symm
        subst e
        have := one_x s (kid_mem k1) (kid_mem k2) rfl
        simp at this
    · exact List.nodup_nil
theorem allL_in {n : Nat} {l : List Hg} (f : Nat) (x z : Int) (h : z ∈ allL n l f x) (s : Snd n l) (hx : 0 ≤ x ∧ x < n) : 0 ≤ z ∧ z < n := (all_anc s f x z hx h).1
theorem allL_len {n : Nat} {l : List Hg} (s : Snd n l) (x : Int) (hx : 0 ≤ x ∧ x < n) : (allL n l n x).length ≤ n :=
  nodup_le n _ (allL_nodup s n x) (fun z hz => allL_in n x z hz s hx)

end Go.Proofs.Ytdgfibcbnlkbpaa
