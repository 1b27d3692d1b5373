/-
  The plain law of layer 9: a list of what hangs where, without rings, and the trees that it says; no program in sight. Conditions: those of each lemma.
-/
import Derived.Test.YtdgfibcbnlkbpaaRef09g
set_option linter.unusedVariables false
set_option linter.unusedSimpArgs false
namespace Go.Proofs.Ytdgfibcbnlkbpaa

/-- The list is sound: things in range, nothing hangs twice, no place is taken twice, no rings. -/
structure Snd (n : Nat) (l : List Hg) : Prop where
  rng : ∀ h, h ∈ l → 0 ≤ h.p ∧ h.p < n ∧ 0 ≤ h.x ∧ h.x < n
  one : l.Pairwise (fun a b => a.x ≠ b.x ∧ ¬ (a.p = b.p ∧ a.r = b.r))
  acyc : ∃ d : Int → Nat, ∀ h, h ∈ l → d h.p < d h.x

theorem pw_find {α : Type} (f : α → Bool) : ∀ (l : List α) (h : α), h ∈ l → f h = true → l.Pairwise (fun a b => ¬ (f a = true ∧ f b = true)) → l.find? f = some h
  | [], h, hm, _, _ => by cases hm
  | a :: r, h, hm, hf, hp => by
    rw [List.pairwise_cons] at hp
    rw [List.find?_cons]
    rcases List.mem_cons.1 hm with rfl | hm
    · rw [hf]
    · have : f a = false := by
        cases hfa : f a with
        | false => rfl
        | true => exact absurd ⟨hfa, hf⟩ (hp.1 h hm)
      rw [this]; exact pw_find f r h hm hf hp.2

theorem Snd.mem_up {n : Nat} {l : List Hg} (s : Snd n l) {h : Hg} (hm : h ∈ l) : upL l h.x = some h.p := by
  unfold upL
  rw [pw_find (fun g => g.x == h.x) l h hm (by simp) (s.one.imp (fun {a b} hab hc => hab.1 (by simp at hc; rw [hc.1, hc.2])))]; rfl
theorem Snd.mem_kid {n : Nat} {l : List Hg} (s : Snd n l) {h : Hg} (hm : h ∈ l) : kidL l h.p h.r = some h.x := by
  unfold kidL
  rw [pw_find (fun g => g.p == h.p && g.r == h.r) l h hm (by simp) (s.one.imp (fun {a b} hab hc => hab.2 (by simp at hc; exact ⟨by rw [hc.1.1, hc.2.1], by rw [hc.1.2, hc.2.2]⟩)))]; rfl
theorem up_mem {l : List Hg} {x p : Int} (h : upL l x = some p) : ∃ r, Hg.mk p x r ∈ l := by
  unfold upL at h
  simp only [Option.map_eq_some_iff] at h
  obtain ⟨g, hg, rfl⟩ := h
  have h1 := List.find?_some hg
  have h2 := List.mem_of_find?_eq_some hg
  simp at h1
  exact ⟨g.r, by rw [← h1]; exact h2⟩
theorem kid_mem {l : List Hg} {p x : Int} {r : Bool} (h : kidL l p r = some x) : Hg.mk p x r ∈ l := by
  unfold kidL at h
  simp only [Option.map_eq_some_iff] at h
  obtain ⟨g, hg, rfl⟩ := h
  have h1 := List.find?_some hg
  have h2 := List.mem_of_find?_eq_some hg
  simp at h1
  rw [← h1.1, ← h1.2]; exact h2
theorem Snd.kid_up {n : Nat} {l : List Hg} (s : Snd n l) {p x : Int} {r : Bool} (h : kidL l p r = some x) : upL l x = some p := s.mem_up (kid_mem h)

/-- A list of distinct numbers below n is no longer than n. -/
theorem nodup_le : ∀ (n : Nat) (l : List Int), l.Nodup → (∀ x, x ∈ l → 0 ≤ x ∧ x < n) → l.length ≤ n
  | 0, l, _, h => by
    cases l with
    | nil => simp
    | cons x r => have := h x (by simp); omega
  | n + 1, l, hn, h => by
    have h1 := nodup_le n (l.filter (fun x => x != (n : Int))) (hn.filter _) (fun x hx => by
      simp only [List.mem_filter] at hx
      have := h x hx.1
      have h2 : x ≠ n := by simpa using hx.2
      omega)
    have h2 : l.length ≤ (l.filter (fun x => x != (n : Int))).length + 1 := by
      clear h1 h
      induction l with
      | nil => simp
      | cons y r ih =>
        rw [List.nodup_cons] at hn
        by_cases hy : y = n
        · subst hy
          have e : r.filter (fun x => x != (n : Int)) = r := by
            rw [List.filter_eq_self]; intro a ha; simp; intro e; subst e; exact hn.1 ha
          rw [List.filter_cons_of_neg (by simp), e]; simp
        · have := ih hn.2
          rw [List.filter_cons_of_pos (by simpa using hy)]
          simp only [List.length_cons]; omega
    omega

def ancF (l : List Hg) : Nat → Int → List Int
  | 0, _ => []
  | f + 1, y => y :: (match upL l y with | some p => ancF l f p | none => [])
theorem ancF_d {l : List Hg} (d : Int → Nat) (hd : ∀ h, h ∈ l → d h.p < d h.x) : ∀ (f : Nat) (y z : Int), z ∈ ancF l f y → d z ≤ d y
  | 0, y, z, h => by cases h
  | f + 1, y, z, h => by
    rw [ancF] at h
    rcases List.mem_cons.1 h with rfl | h
    · exact Nat.le_refl _
    · cases hu : upL l y with
      | none => rw [hu] at h; cases h
      | some p =>
        rw [hu] at h
        obtain ⟨r, hm⟩ := up_mem hu
        have h1 := ancF_d d hd f p z h
        have h2 := hd _ hm
        simp at h2; omega
theorem ancF_nodup {n : Nat} {l : List Hg} (s : Snd n l) : ∀ (f : Nat) (y : Int), (ancF l f y).Nodup
  | 0, y => List.nodup_nil
  | f + 1, y => by
    obtain ⟨d, hd⟩ := s.acyc
    rw [ancF, List.nodup_cons]
    cases hu : upL l y with
    | none => exact ⟨by simp, List.nodup_nil⟩
    | some p =>
      refine ⟨fun hm => ?_, ancF_nodup s f p⟩
      obtain ⟨r, hmm⟩ := up_mem hu
      have h1 := ancF_d d hd f p y hm
      have h2 := hd _ hmm
      simp at h2; omega
theorem ancF_rng {n : Nat} {l : List Hg} (s : Snd n l) : ∀ (f : Nat) (y z : Int), 0 ≤ y ∧ y < n → z ∈ ancF l f y → 0 ≤ z ∧ z < n
  | 0, y, z, _, h => by cases h
  | f + 1, y, z, hy, h => by
    rw [ancF] at h
    rcases List.mem_cons.1 h with rfl | h
    · exact hy
    · cases hu : upL l y with
      | none => rw [hu] at h; cases h
      | some p =>
        rw [hu] at h
        obtain ⟨r, hm⟩ := up_mem hu
        have := s.rng _ hm
        exact ancF_rng s f p z ⟨this.1, this.2.1⟩ h
theorem ancF_len {n : Nat} {l : List Hg} (s : Snd n l) (f : Nat) (y : Int) (hy : 0 ≤ y ∧ y < n) : (ancF l f y).length ≤ n :=
  nodup_le n _ (ancF_nodup s f y) (fun z hz => ancF_rng s f y z hy hz)
theorem ancF_more {l : List Hg} : ∀ (f : Nat) (y : Int), (ancF l f y).length < f → ancF l (f + 1) y = ancF l f y
  | 0, y, h => by simp at h
  | f + 1, y, h => by
    rw [ancF] at h
    rw [ancF, ancF]
    cases hu : upL l y with
    | none => rfl
    | some p =>
      rw [hu] at h
      simp only [List.length_cons] at h
      have h' : (ancF l f p).length + 1 < f + 1 := h
      show y :: ancF l (f + 1) p = y :: ancF l f p
      rw [ancF_more f p (by omega)]
/-- What is above a thing, itself first. -/
def anc (n : Nat) (l : List Hg) (y : Int) : List Int := ancF l (n + 1) y
theorem anc_eq {n : Nat} {l : List Hg} (s : Snd n l) (y : Int) (hy : 0 ≤ y ∧ y < n) : anc n l y = y :: (match upL l y with | some p => anc n l p | none => []) := by
  unfold anc
  rw [ancF]
  cases hu : upL l y with
  | none => rfl
  | some p =>
    have h1 := ancF_len s (n + 1) y hy
    rw [ancF, hu] at h1
    simp only [List.length_cons] at h1
    have h1' : (ancF l n p).length + 1 ≤ n := h1
    show y :: ancF l n p = y :: ancF l (n + 1) p
    rw [ancF_more n p (by omega)]
theorem anc_len {n : Nat} {l : List Hg} (s : Snd n l) (y : Int) (hy : 0 ≤ y ∧ y < n) : 1 ≤ (anc n l y).length ∧ (anc n l y).length ≤ n :=
  ⟨by rw [anc_eq s y hy]; simp, ancF_len s _ y hy⟩
theorem anc_kid {n : Nat} {l : List Hg} (s : Snd n l) {p x : Int} {r : Bool} (h : kidL l p r = some x) : (anc n l x).length = (anc n l p).length + 1 := by
  have hr := s.rng _ (kid_mem h)
  rw [anc_eq s x ⟨hr.2.2.1, hr.2.2.2⟩, s.kid_up h]; simp

/-- A thing and all that is below it, so many levels. -/
theorem allL_more {n : Nat} {l : List Hg} (s : Snd n l) : ∀ (f : Nat) (x : Int), 0 ≤ x ∧ x < n → n < f + (anc n l x).length → allL n l (f + 1) x = allL n l f x
  | 0, x, hx, h => by have := anc_len s x hx; omega
  | f + 1, x, hx, h => by
    rw [allL, allL, if_pos hx, if_pos hx]
    have key : ∀ r, kidA n (allL n l (f + 1)) (kidL l x r) = kidA n (allL n l f) (kidL l x r) := fun r => by
      cases hk : kidL l x r with
      | none => rfl
      | some y =>
        have hr := s.rng _ (kid_mem hk)
        have ha := anc_kid s hk
        exact allL_more s f y ⟨hr.2.2.1, hr.2.2.2⟩ (by omega)
    rw [key, key]
theorem allL_stable {n : Nat} {l : List Hg} (s : Snd n l) (x : Int) (hx : 0 ≤ x ∧ x < n) : allL n l (n + 1) x = allL n l n x :=
  allL_more s n x hx (by have := anc_len s x hx; omega)
theorem allL_eq {n : Nat} {l : List Hg} (s : Snd n l) (x : Int) (hx : 0 ≤ x ∧ x < n) :
    allL n l n x = x :: (kidA n (allL n l n) (kidL l x false) ++ kidA n (allL n l n) (kidL l x true)) := by
  rw [← allL_stable s x hx, allL, if_pos hx]
theorem spineL_more {n : Nat} {l : List Hg} (s : Snd n l) : ∀ (f : Nat) (x : Int), 0 ≤ x ∧ x < n → n < f + (anc n l x).length → spineL n l (f + 1) x = spineL n l f x
  | 0, x, hx, h => by have := anc_len s x hx; omega
  | f + 1, x, hx, h => by
    rw [spineL, spineL, if_pos hx, if_pos hx]
    cases hk : kidL l x true with
    | none => rfl
    | some y =>
      have hr := s.rng _ (kid_mem hk)
      have ha := anc_kid s hk
      show x :: spineL n l (f + 1) y = x :: spineL n l f y
      rw [spineL_more s f y ⟨hr.2.2.1, hr.2.2.2⟩ (by omega)]
theorem spineL_eq {n : Nat} {l : List Hg} (s : Snd n l) (x : Int) (hx : 0 ≤ x ∧ x < n) : spineL n l n x = x :: kidA n (spineL n l n) (kidL l x true) := by
  rw [← spineL_more s n x hx (by have := anc_len s x hx; omega), spineL, if_pos hx]

/-- What stands topmost. -/
theorem rootL_anc {n : Nat} {l : List Hg} (s : Snd n l) : ∀ (f : Nat) (x : Int), 0 ≤ x ∧ x < n → (anc n l x).length ≤ f + 1 → (anc n l x).getLast? = some (rootL l f x)
  | 0, x, hx, h => by
    rw [anc_eq s x hx] at h ⊢
    cases hu : upL l x with
    | none => rfl
    | some p =>
      rw [hu] at h
      obtain ⟨r, hm⟩ := up_mem hu
      have hr := s.rng _ hm
      have := anc_len s p ⟨hr.1, hr.2.1⟩
      simp only [List.length_cons] at h
      omega
  | f + 1, x, hx, h => by
    rw [rootL]
    unfold stepL
    rw [anc_eq s x hx] at h ⊢
    cases hu : upL l x with
    | none =>
      have e : ∀ f, rootL l f x = x := fun f => by
        induction f with
        | zero => rfl
        | succ f ih => rw [rootL]; unfold stepL; rw [hu]; exact ih
      show some x = some (rootL l f x)
      rw [e]
    | some p =>
      rw [hu] at h
      obtain ⟨r, hm⟩ := up_mem hu
      have hr := s.rng _ hm
      simp only [List.length_cons] at h
      have h' : (anc n l p).length + 1 ≤ f + 1 + 1 := h
      have ih := rootL_anc s f p ⟨hr.1, hr.2.1⟩ (by omega)
      have h3 := anc_len s p ⟨hr.1, hr.2.1⟩
      show (x :: anc n l p).getLast? = some (rootL l f p)
      rw [← ih]
      cases ha : anc n l p with
      | nil => rw [ha] at h3; simp at h3
      | cons y t => rfl

/-- Is x above p, or it itself: the document's look goes far enough. -/
theorem aboveL_mem {l : List Hg} : ∀ (f : Nat) (x p : Int), aboveL l f x p = true ↔ x ∈ ancF l f p
  | 0, x, p => by simp [aboveL, ancF]
  | f + 1, x, p => by
    rw [aboveL, ancF]
    by_cases hxp : x = p
    · simp [hxp]
    · rw [if_neg hxp]
      cases hu : upL l p with
      | none => simp [hxp]
      | some q =>
        show aboveL l f x q = true ↔ x ∈ p :: ancF l f q
        rw [List.mem_cons, aboveL_mem f x q]
        simp [hxp]

end Go.Proofs.Ytdgfibcbnlkbpaa
