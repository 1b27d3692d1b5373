/-
  The plain law of layer 9: what hangs below a thing is what has it above; roots. No program in sight. Conditions: those of each lemma.
-/
import Derived.Test.YtdgfibcbnlkbpaaSpineAll
set_option linter.unusedVariables false
set_option linter.unusedSimpArgs false
namespace Go.Proofs.Ytdgfibcbnlkbpaa

theorem allL_kid {n : Nat} {l : List Hg} (s : Snd n l) {p z : Int} {r : Bool} (hk : kidL l p r = some z) : ∀ (f : Nat) (x : Int), p ∈ allL n l f x → z ∈ allL n l (f + 1) x
  | 0, x, h => by cases h
  | f + 1, x, h => by
    rw [allL] at h
    split at h
    · rename_i hx
      rw [allL, if_pos hx]
      have hz := (s.rng _ (kid_mem hk)).2.2
      have up : ∀ r', p ∈ kidA n (allL n l f) (kidL l x r') → z ∈ kidA n (allL n l (f + 1)) (kidL l x r') := fun r' hr => by
        cases hq : kidL l x r' with
        | none => rw [hq] at hr; cases hr
        | some y => rw [hq] at hr; exact allL_kid s hk f y hr
      rcases List.mem_cons.1 h with rfl | h
      · refine List.mem_cons_of_mem _ (List.mem_append.2 ?_)
        have hm : z ∈ kidA n (allL n l (f + 1)) (kidL l p r) := by
          rw [hk]; show z ∈ allL n l (f + 1) z; rw [allL, if_pos hz]; simp
        cases r with
        | false => exact Or.inl hm
        | true => exact Or.inr hm
      · refine List.mem_cons_of_mem _ (List.mem_append.2 ?_)
        rcases List.mem_append.1 h with h | h
        · exact Or.inl (up _ h)
        · exact Or.inr (up _ h)
    · cases h
theorem all_kid {n : Nat} {l : List Hg} (s : Snd n l) {p z x : Int} {r : Bool} (hx : 0 ≤ x ∧ x < n) (hk : kidL l p r = some z) (h : p ∈ allL n l n x) : z ∈ allL n l n x := by
  rw [← allL_stable s x hx]; exact allL_kid s hk n x h
theorem anc_all {n : Nat} {l : List Hg} (s : Snd n l) {x : Int} (hx : 0 ≤ x ∧ x < n) : ∀ (m : Nat) (z : Int), 0 ≤ z ∧ z < n → (anc n l z).length ≤ m → x ∈ anc n l z → z ∈ allL n l n x
  | 0, z, hz, hm, _ => by have := anc_len s z hz; omega
  | m + 1, z, hz, hm, h => by
    rw [anc_eq s z hz] at h hm
    rcases List.mem_cons.1 h with rfl | h
    · rw [allL_eq s x hx]; simp
    · cases hq : upL l z with
      | none => rw [hq] at h; cases h
      | some p =>
        rw [hq] at h hm
        simp only [List.length_cons] at h hm
        have hm' : (anc n l p).length + 1 ≤ m + 1 := hm
        obtain ⟨r, hmm⟩ := up_mem hq
        exact all_kid s hx (s.mem_kid hmm) (anc_all s hx m p (upL_rng s hq) (by omega) h)
theorem all_iff {n : Nat} {l : List Hg} (s : Snd n l) (x z : Int) (hx : 0 ≤ x ∧ x < n) : z ∈ allL n l n x ↔ (0 ≤ z ∧ z < n) ∧ x ∈ anc n l z :=
  ⟨all_anc s n x z hx, fun h => anc_all s hx _ z h.1 (Nat.le_refl _) h.2⟩
theorem rootL_last {n : Nat} {l : List Hg} (s : Snd n l) (z : Int) (hz : 0 ≤ z ∧ z < n) : (anc n l z).getLast? = some (rootL l n z) := rootL_anc s n z hz (by have := anc_len s z hz; omega)
theorem last_top {n : Nat} {l : List Hg} (s : Snd n l) : ∀ (m : Nat) (z : Int), 0 ≤ z ∧ z < n → (anc n l z).length ≤ m → ∀ x, x ∈ anc n l z → (upL l x = none ↔ (anc n l z).getLast? = some x)
  | 0, z, hz, hm, _, _ => by have := anc_len s z hz; omega
  | m + 1, z, hz, hm, x, h => by
    have e := anc_eq s z hz
    cases hq : upL l z with
    | none =>
      rw [hq] at e
      simp only at e
      rw [e] at h ⊢
      simp at h
      subst h
      simp [hq]
    | some p =>
      rw [hq] at e
      simp only at e
      have hp := upL_rng s hq
      rw [e] at h hm ⊢
      simp only [List.length_cons] at hm
      have ne : anc n l p ≠ [] := by rw [anc_eq s p hp]; simp
      have el : (z :: anc n l p).getLast? = (anc n l p).getLast? := by
        cases ha : anc n l p with
        | nil => exact absurd ha ne
        | cons y t => rfl
      rw [el]
      have ih := last_top s m p hp (by omega)
      rcases List.mem_cons.1 h with rfl | h
      · constructor
        · intro hn; rw [hq] at hn; cases hn
        · intro hl
          have hm2 : x ∈ anc n l p := List.mem_of_getLast? hl
          obtain ⟨d, hd⟩ := s.acyc
          have e1 := anc_d d hd p x hm2
          have e2 := up_d d hd hq
          omega
      · exact ih x h
theorem rootL_rng {n : Nat} {l : List Hg} (s : Snd n l) (z : Int) (hz : 0 ≤ z ∧ z < n) : 0 ≤ rootL l n z ∧ rootL l n z < n :=
  ancF_rng s _ z _ hz (List.mem_of_getLast? (rootL_last s z hz))
theorem rootL_up {n : Nat} {l : List Hg} (s : Snd n l) (z : Int) (hz : 0 ≤ z ∧ z < n) : upL l (rootL l n z) = none :=
  (last_top s _ z hz (Nat.le_refl _) _ (List.mem_of_getLast? (rootL_last s z hz))).2 (rootL_last s z hz)
theorem root_self {n : Nat} {l : List Hg} (s : Snd n l) (x : Int) (hx : 0 ≤ x ∧ x < n) : rootL l n x = x ↔ upL l x = none := by
  constructor
  · intro h; rw [← h]; exact rootL_up s x hx
  · intro h
    have h1 := (last_top s _ x hx (Nat.le_refl _) x (by rw [anc_eq s x hx]; simp)).1 h
    rw [rootL_last s x hx] at h1; simpa using h1
/-- What hangs below a root is what has it for its root. -/
theorem all_root {n : Nat} {l : List Hg} (s : Snd n l) (x z : Int) (hx : 0 ≤ x ∧ x < n) (hr : rootL l n x = x) : z ∈ allL n l n x ↔ (0 ≤ z ∧ z < n) ∧ rootL l n z = x := by
  rw [all_iff s x z hx]
  constructor
  · rintro ⟨hz, hm⟩
    refine ⟨hz, ?_⟩
    have h1 := (last_top s _ z hz (Nat.le_refl _) x hm).1 ((root_self s x hx).1 hr)
    rw [rootL_last s z hz] at h1; simpa using h1
  · rintro ⟨hz, hm⟩
    refine ⟨hz, ?_⟩
    rw [← hm]; exact List.mem_of_getLast? (rootL_last s z hz)
theorem root_idem {n : Nat} {l : List Hg} (s : Snd n l) (z : Int) (hz : 0 ≤ z ∧ z < n) : rootL l n (rootL l n z) = rootL l n z :=
  (root_self s _ (rootL_rng s z hz)).2 (rootL_up s z hz)

end Go.Proofs.Ytdgfibcbnlkbpaa
