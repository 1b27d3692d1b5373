/-
  The plain law of layer 9: the program's numbers and the document's list say one; what Hang, Cut and Turn do to both. Conditions: those of each lemma.
-/
import Derived.Test.YtdgfibcbnlkbpaaSpinePlain
set_option linter.unusedVariables false
set_option linter.unusedSimpArgs false
namespace Go.Proofs.Ytdgfibcbnlkbpaa

structure Rel (n : Nat) (S : TS) (l : List Hg) : Prop where
  snd : Snd n l
  up : ∀ x : Nat, x < n → S.u x = (upL l x).getD (-1)
  kid : ∀ p : Nat, p < n → ∀ s, S.kid s p = (kidL l p s).getD (-1)

theorem rel_none (n : Nat) : Rel n TS.none [] :=
  ⟨⟨fun h hm => absurd hm (by simp), List.Pairwise.nil, ⟨fun _ => 0, fun h hm => absurd hm (by simp)⟩⟩, fun x _ => rfl, fun p _ s => by cases s <;> rfl⟩

theorem Snd.len {n : Nat} {l : List Hg} (s : Snd n l) : l.length ≤ n := by
  have h := nodup_le n (l.map (·.x)) ((List.pairwise_map).2 (s.one.imp (fun {a b} h => h.1))) (fun x hx => by
    simp only [List.mem_map] at hx
    obtain ⟨h, hm, rfl⟩ := hx
    have := s.rng h hm
    exact ⟨this.2.2.1, this.2.2.2⟩)
  simpa using h

theorem upL_snoc (l : List Hg) (h : Hg) (y : Int) : upL (l ++ [h]) y = (upL l y).or (if h.x = y then some h.p else none) := by
  unfold upL
  rw [List.find?_append]
  cases hf : l.find? (fun h => h.x == y) with
  | some g => simp
  | none =>
    by_cases e : h.x = y <;> simp [e]
theorem kidL_snoc (l : List Hg) (h : Hg) (p : Int) (r : Bool) : kidL (l ++ [h]) p r = (kidL l p r).or (if h.p = p ∧ h.r = r then some h.x else none) := by
  unfold kidL
  rw [List.find?_append]
  cases hf : l.find? (fun h => h.p == p && h.r == r) with
  | some g => simp
  | none =>
    by_cases e : h.p = p ∧ h.r = r
    · simp [e.1, e.2]
    · have : (h.p == p && h.r == r) = false := by simp; exact fun e1 e2 => e ⟨e1, e2⟩
      simp [this, e]

theorem up_none {l : List Hg} {x : Int} (h : upL l x = none) : ∀ g, g ∈ l → g.x ≠ x := by
  intro g hg e
  unfold upL at h
  rw [Option.map_eq_none_iff, List.find?_eq_none] at h
  have := h g hg
  simp [e] at this
theorem kid_none {l : List Hg} {p : Int} {r : Bool} (h : kidL l p r = none) : ∀ g, g ∈ l → ¬ (g.p = p ∧ g.r = r) := by
  intro g hg e
  unfold kidL at h
  rw [Option.map_eq_none_iff, List.find?_eq_none] at h
  have := h g hg
  simp [e.1, e.2] at this

theorem setUp_u (S : TS) (p : Nat) (v : Int) (x : Nat) : (S.setUp p v).u x = if x = p then v else S.u x := rfl
theorem setUp_kid (S : TS) (p : Nat) (v : Int) (s : Bool) (x : Nat) : (S.setUp p v).kid s x = S.kid s x := rfl
theorem setKid_u (S : TS) (p : Nat) (s : Bool) (v : Int) (x : Nat) : (S.setKid p s v).u x = S.u x := by cases s <;> rfl
theorem setKid_kid (S : TS) (p : Nat) (s : Bool) (v : Int) (t : Bool) (x : Nat) : (S.setKid p s v).kid t x = if x = p ∧ t = s then v else S.kid t x := by
  cases s <;> cases t <;> simp [TS.setKid, TS.kid]

theorem Rel.hang {n : Nat} {S : TS} {l : List Hg} (R : Rel n S l) {p x : Nat} {r : Bool} (hp : p < n) (hx : x < n) (hne : p ≠ x) (hu : upL l x = none) (hk : kidL l p r = none)
    (ha : aboveL l (n + 1) x p = false) : Rel n (hangS S p x r) (l ++ [⟨p, x, r⟩]) := by
  have hun := up_none hu
  have hkn := kid_none hk
  have hnot : (x : Int) ∉ anc n l p := fun hm => by rw [(aboveL_mem (n + 1) (x : Int) (p : Int)).2 hm] at ha; cases ha
  refine ⟨⟨fun h hm => ?_, ?_, ?_⟩, fun y hy => ?_, fun q hq s => ?_⟩
  · rcases List.mem_append.1 hm with hm | hm
    · exact R.snd.rng h hm
    · simp at hm; subst hm; simp; omega
  · rw [List.pairwise_append]
    refine ⟨R.snd.one, by simp, fun a ha b hb => ?_⟩
    simp at hb; subst hb
    exact ⟨hun a ha, hkn a ha⟩
  · obtain ⟨d, hd⟩ := R.snd.acyc
    refine ⟨fun y => if (x : Int) ∈ anc n l y then d y + d p + 1 else d y, fun h hm => ?_⟩
    rcases List.mem_append.1 hm with hm | hm
    · have hr := R.snd.rng h hm
      have e : (x : Int) ∈ anc n l h.x ↔ (x : Int) ∈ anc n l h.p := by
        rw [anc_eq R.snd h.x ⟨hr.2.2.1, hr.2.2.2⟩, R.snd.mem_up hm]
        show (x : Int) ∈ h.x :: anc n l h.p ↔ _
        rw [List.mem_cons]
        constructor
        · rintro (e | e)
          · exact absurd e.symm (hun h hm)
          · exact e
        · exact Or.inr
      have := hd h hm
      show (if (x : Int) ∈ anc n l h.p then _ else _) < (if (x : Int) ∈ anc n l h.x then _ else _)
      by_cases hq : (x : Int) ∈ anc n l h.p
      · rw [if_pos hq, if_pos (e.2 hq)]; omega
      · rw [if_neg hq, if_neg (fun h' => hq (e.1 h'))]; exact this
    · simp at hm; subst hm
      show (if (x : Int) ∈ anc n l p then _ else _) < (if (x : Int) ∈ anc n l x then _ else _)
      rw [if_neg hnot, if_pos (by rw [anc_eq R.snd x (by omega)]; simp)]
      show d p < d x + d p + 1
      omega
  · rw [upL_snoc]
    show (if y = (x : Int).toNat then (p : Int) else (S.setKid _ r _).u y) = _
    rw [setKid_u, R.up y hy]
    by_cases e : y = x
    · subst e; simp [hu]
    · rw [if_neg (by simpa using e)]
      cases hy' : upL l y with
      | some g => simp
      | none => rw [if_neg (by simp; omega)]; rfl
  · rw [kidL_snoc]
    show (S.setKid (p : Int).toNat r x).kid s q = _
    rw [setKid_kid, R.kid q hq s]
    by_cases e : q = p ∧ s = r
    · obtain ⟨rfl, rfl⟩ := e; simp [hk]
    · rw [if_neg (by simpa using e)]
      cases hy' : kidL l q s with
      | some g => simp
      | none => rw [if_neg (by simp; intro e1 e2; exact e ⟨by omega, e2.symm⟩)]; rfl

theorem cutL_none {l : List Hg} {x : Int} (h : upL l x = none) : cutL l x = l := by
  unfold cutL
  rw [List.filter_eq_self]
  intro a ha
  simpa using up_none h a ha
theorem upL_cut (l : List Hg) (x y : Int) : upL (cutL l x) y = if y = x then none else upL l y := by
  unfold upL cutL
  by_cases e : y = x
  · rw [if_pos e, Option.map_eq_none_iff, List.find?_eq_none]
    intro a ha
    simp only [List.mem_filter] at ha
    have := ha.2
    simp at this ⊢; rw [e]; exact this
  · rw [if_neg e, List.find?_filter]
    congr 1
    apply congrArg (fun f => List.find? f l)
    funext a
    by_cases h : a.x = y
    · have : a.x ≠ x := fun h' => e (h.symm.trans h')
      simp [h]; rw [← h]; exact this
    · simp [h]
theorem Snd.filter {n : Nat} {l : List Hg} (s : Snd n l) (f : Hg → Bool) : Snd n (l.filter f) := by
  obtain ⟨d, hd⟩ := s.acyc
  exact ⟨fun h hm => s.rng h ((List.mem_filter.1 hm).1), s.one.filter _, d, fun h hm => hd h ((List.mem_filter.1 hm).1)⟩
theorem kidL_cut {n : Nat} {l : List Hg} (s : Snd n l) (x p : Int) (r : Bool) : kidL (cutL l x) p r = if kidL l p r = some x then none else kidL l p r := by
  cases hk : kidL l p r with
  | none =>
    rw [if_neg (by simp)]
    unfold kidL
    rw [Option.map_eq_none_iff, List.find?_eq_none]
    intro a ha
    have := kid_none hk a ((List.mem_filter.1 ha).1)
    simp; exact fun e1 e2 => this ⟨e1, e2⟩
  | some y =>
    have hm := kid_mem hk
    by_cases e : y = x
    · subst e
      rw [if_pos rfl]
      unfold kidL
      rw [Option.map_eq_none_iff, List.find?_eq_none]
      intro a ha
      simp only [cutL, List.mem_filter] at ha
      simp
      intro e1 e2
      have h1 := s.mem_kid ha.1
      rw [e1, e2, hk] at h1
      simp at h1
      have := ha.2
      simp at this; exact this h1.symm
    · rw [if_neg (by simpa using e)]
      exact (s.filter _).mem_kid (h := ⟨p, y, r⟩) (by simp only [cutL, List.mem_filter]; exact ⟨hm, by simpa using e⟩)

theorem Rel.cut {n : Nat} {S : TS} {l : List Hg} (R : Rel n S l) {i j : Nat} (hi : i < n) (hj : j < n) (hu : S.u j = i) : Rel n (cutS S i j) (cutL l j) := by
  have hup : upL l j = some (i : Int) := by
    have := R.up j hj
    rw [hu] at this
    cases hq : upL l j with
    | none => rw [hq] at this; simp at this
    | some q => rw [hq] at this; simp at this; rw [this]
  obtain ⟨r0, hm⟩ := up_mem hup
  have hk0 := R.snd.mem_kid hm
  simp only at hk0
  have hside : decide (S.r i = j) = r0 := by
    have h1 := R.kid i hi true
    have h1' : S.r i = (kidL l i true).getD (-1) := h1
    cases r0 with
    | true => rw [hk0] at h1'; simpa using h1'
    | false =>
      have hne : kidL l i true ≠ some (j : Int) := fun h => by
        have e := R.snd.mem_up (kid_mem h)
        have p1 := kid_mem h
        have h3 := R.snd.one
        -- two entries with one thing
        have hx : ∀ a b : Hg, a ∈ l → b ∈ l → a.x = b.x → a = b := fun a b ha hb hab => by
          have f1 := pw_find (fun g => g.x == a.x) l a ha (by simp) (h3.imp (fun {a b} hab hc => hab.1 (by simp at hc; rw [hc.1, hc.2])))
          have f2 := pw_find (fun g => g.x == a.x) l b hb (by simp [hab]) (h3.imp (fun {a b} hab hc => hab.1 (by simp at hc; rw [hc.1, hc.2])))
          rw [f1] at f2; simpa using f2
        have := hx _ _ p1 hm rfl
        simp at this
      rw [h1']
      cases hq : kidL l i true with
      | none => simp
      | some q =>
        rw [hq] at hne
        simp at hne ⊢; exact hne
  refine ⟨R.snd.filter _, fun y hy => ?_, fun q hq s => ?_⟩
  · rw [upL_cut]
    unfold cutS
    rw [setUp_u, setKid_u, R.up y hy]
    by_cases e : y = j
    · subst e; simp
    · rw [if_neg e, if_neg (by omega)]
  · rw [kidL_cut R.snd]
    unfold cutS
    rw [setUp_kid, setKid_kid, hside, R.kid q hq s]
    by_cases e : q = i ∧ s = r0
    · obtain ⟨rfl, rfl⟩ := e
      rw [if_pos ⟨rfl, rfl⟩, if_pos hk0]; rfl
    · rw [if_neg e]
      rw [if_neg]
      intro h
      have e1 := R.snd.mem_up (kid_mem h)
      simp only at e1
      rw [hup] at e1
      simp at e1
      have h4 : q = i := by omega
      subst h4
      -- the same place
      have hx := R.snd.one
      have f1 := pw_find (fun g : Hg => g.x == (j : Int)) l _ hm (by simp) (hx.imp (fun {a b} hab hc => hab.1 (by simp at hc; rw [hc.1, hc.2])))
      have f2 := pw_find (fun g : Hg => g.x == (j : Int)) l _ (kid_mem h) (by simp) (hx.imp (fun {a b} hab hc => hab.1 (by simp at hc; rw [hc.1, hc.2])))
      rw [f1] at f2
      simp at f2
      exact e ⟨rfl, f2.symm⟩

theorem find_map_x (l : List Hg) (f : Hg → Hg) (g : Hg → Bool) (hg : Hg → Bool) (h : ∀ a, g (f a) = hg a) : (l.map f).find? g = (l.find? hg).map f := by
  rw [List.find?_map]
  congr 1
  apply congrArg (fun k => List.find? k l)
  funext a; exact h a
theorem upL_turn (l : List Hg) (p y : Int) : upL (turnL l p) y = upL l y := by
  unfold upL turnL
  rw [find_map_x l _ _ (fun h => h.x == y) (fun a => by split <;> rfl), Option.map_map]
  congr 1
  funext a
  show (if a.p = p then (⟨a.p, a.x, !a.r⟩ : Hg) else a).p = a.p
  split <;> rfl
theorem kidL_turn (l : List Hg) (p q : Int) (r : Bool) : kidL (turnL l p) q r = if q = p then kidL l q (!r) else kidL l q r := by
  unfold kidL turnL
  have hx : ∀ o : Option Hg, (o.map (fun h => if h.p = p then (⟨h.p, h.x, !h.r⟩ : Hg) else h)).map (·.x) = o.map (·.x) := fun o => by
    rw [Option.map_map]; congr 1; funext a
    show (if a.p = p then (⟨a.p, a.x, !a.r⟩ : Hg) else a).x = a.x
    split <;> rfl
  by_cases hq : q = p
  · subst hq
    rw [if_pos rfl, find_map_x l _ _ (fun h => h.p == q && h.r == !r) (fun a => by
      by_cases e : a.p = q
      · simp only [e, if_true]; cases a.r <;> cases r <;> simp
      · simp only [e, if_false, show (a.p == q) = false by simpa using e, Bool.false_and]), hx]
  · rw [if_neg hq, find_map_x l _ _ (fun h => h.p == q && h.r == r) (fun a => by
      by_cases e : a.p = p
      · simp only [e, if_true, show (p == q) = false by simp; exact fun h => hq h.symm, Bool.false_and]
      · rw [if_neg e]), hx]

theorem Rel.turn {n : Nat} {S : TS} {l : List Hg} (R : Rel n S l) {i : Nat} (hi : i < n) : Rel n (turnS S i) (turnL l i) := by
  obtain ⟨d, hd⟩ := R.snd.acyc
  refine ⟨⟨fun h hm => ?_, ?_, d, fun h hm => ?_⟩, fun y hy => ?_, fun q hq s => ?_⟩
  · unfold turnL at hm
    simp only [List.mem_map] at hm
    obtain ⟨a, ha, rfl⟩ := hm
    have := R.snd.rng a ha
    split <;> exact this
  · unfold turnL
    rw [List.pairwise_map]
    refine R.snd.one.imp (fun {a b} h => ?_)
    refine ⟨?_, ?_⟩
    · have := h.1; split <;> split <;> exact this
    · intro hc
      by_cases ea : a.p = (i : Int) <;> by_cases eb : b.p = (i : Int)
      · simp [ea, eb] at hc; exact h.2 ⟨by rw [ea, eb], by cases har : a.r <;> cases hbr : b.r <;> simp [har, hbr] at hc ⊢⟩
      · simp [ea, eb] at hc; exact eb hc.1.symm
      · simp [ea, eb] at hc
      · simp [ea, eb] at hc; exact h.2 hc
  · unfold turnL at hm
    simp only [List.mem_map] at hm
    obtain ⟨a, ha, rfl⟩ := hm
    have := hd a ha
    split <;> exact this
  · rw [upL_turn]
    unfold turnS
    rw [setKid_u, setKid_u]; exact R.up y hy
  · rw [kidL_turn]
    unfold turnS
    rw [setKid_kid, setKid_kid]
    have h1 : S.l i = (kidL l i false).getD (-1) := R.kid i hi false
    have h2 : S.r i = (kidL l i true).getD (-1) := R.kid i hi true
    by_cases e : q = i
    · subst e
      rw [if_pos rfl]
      cases s
      · simp [h2]
      · simp [h1]
    · rw [if_neg (fun h => e h.1), if_neg (fun h => e h.1), if_neg (by omega)]
      exact R.kid q hq s
theorem turnL_none {n : Nat} {l : List Hg} (s : Snd n l) {p : Int} (h : ¬ (0 ≤ p ∧ p < n)) : turnL l p = l := by
  unfold turnL
  have : ∀ m : List Hg, (∀ a, a ∈ m → a.p ≠ p) → m.map (fun h => if h.p = p then (⟨h.p, h.x, !h.r⟩ : Hg) else h) = m := fun m => by
    induction m with
    | nil => intro _; rfl
    | cons a r ih =>
      intro hm
      rw [List.map_cons, if_neg (hm a (by simp)), ih (fun b hb => hm b (by simp [hb]))]
  exact this l (fun a ha e => by have := s.rng a ha; omega)

end Go.Proofs.Ytdgfibcbnlkbpaa
