/-
  Binomial heaps beside the document's nest, plainly: a thing is lifted; what is lifted stays sound. No program in sight. Conditions: those of each lemma.
-/
import Derived.Test.YtighgbdijagolaaBnP
set_option linter.unusedVariables false
set_option linter.unusedSimpArgs false
namespace Go.Proofs.Ytighgbdijagolaa

/-- Binomial heaps beside the document's nest. -/
structure BnI (A : NS) (G : BG) : Prop where
  fh : FH A.cs.length G.F (fun y => (A.c y).i) (lt3 A)
  rh : RH A.cs.length G (fun y => (A.c y).i)
  w : ∀ h : Nat, 1 ≤ h → wt A.cs.length G.F (G.R h) = lenN A h
/-- The same, but for what has to do with x. -/
structure BnX (A : NS) (G : BG) (x : Nat) : Prop where
  fh : FH A.cs.length G.F (fun y => (A.c y).i) (fun p y => y ≠ x → p ≠ x → lt3 A p y)
  two : ∀ p c : Nat, c < A.cs.length → G.F.u x = p → G.F.u c = x → lt3 A p c
  rh : RH A.cs.length G (fun y => (A.c y).i)
  w : ∀ h : Nat, 1 ≤ h → wt A.cs.length G.F (G.R h) = lenN A h
theorem BnI.x {A : NS} {G : BG} (h : BnI A G) {x : Nat} (hx : x < A.cs.length) : BnX A G x :=
  ⟨⟨h.fh.f, h.fh.home, fun y p hy hu _ _ => h.fh.ord y p hy hu, h.fh.alone⟩, fun p c hc h1 h2 => lt3_trans (h.fh.ord x p hx h1) (h.fh.ord c x hc h2), h.rh, h.w⟩
def liftC (F : CF) (x p : Nat) (above : Int) : CF :=
  ⟨fun y => if y = x then setAt (F.k p) x p else if y = p then F.k x else if (y : Int) = above then setAt (F.k y) p x else F.k y,
   fun y => if y = x then above else if (y : Int) ∈ F.k x then p else if (y : Int) ∈ setAt (F.k p) x p then x else F.u y⟩
theorem lift_f (S : CS) (x p : Nat) (above : Int) : (liftS S x p above).f = liftC S.f x p above := rfl
def upR (x p : Nat) (above : Int) (z : Int) : Int := if z = p ∧ above = -1 then (x : Int) else z
def liftG (G : BG) (x p : Nat) : BG := ⟨liftC G.F x p (G.F.u p), fun k => (G.R k).map (upR x p (G.F.u p))⟩
section
variable {n : Nat} {F : CF}
theorem liftOk_c (h : FOk n F) {x p : Nat} (hx : x < n) (hu : F.u x = p) : LiftOk n ⟨fun _ => .slice none 0 0, F.k, F.u⟩ x p (F.u p) := by
  obtain ⟨hp, hm⟩ := h.above hx hu
  exact lift_ok (S := ⟨fun _ => .slice none 0 0, F.k, F.u⟩) h hx hp hu hm
theorem liftC_ok (h : FOk n F) {x p : Nat} (hx : x < n) (hu : F.u x = p) : FOk n (liftC F x p (F.u p)) :=
  FOk.lift (S := ⟨fun _ => .slice none 0 0, F.k, F.u⟩) h (liftOk_c h hx hu)
theorem liftC_deg (x p : Nat) (above : Int) (y : Nat) : ((liftC F x p above).k y).length = if y = x then (F.k p).length else if y = p then (F.k x).length else (F.k y).length :=
  lift_deg ⟨fun _ => .slice none 0 0, F.k, F.u⟩ x p above y
theorem kid_iff (h : FOk n F) {x y : Nat} (hx : x < n) (hy : y < n) : (y : Int) ∈ F.k x ↔ F.u y = x := by
  constructor
  · intro hm
    obtain ⟨z, e, _, h2, _⟩ := h.below hx hm
    obtain rfl : y = z := by omega
    exact h2
  · intro hu
    exact (h.above hy hu).2
/-- What is above each thing behind a lift. -/
theorem liftC_u (h : FOk n F) {x p : Nat} (hx : x < n) (hu : F.u x = p) {y : Nat} (hy : y < n) :
    (liftC F x p (F.u p)).u y = if y = x then F.u p else if F.u y = x then (p : Int) else if y = p ∨ F.u y = p then (x : Int) else F.u y := by
  obtain ⟨hp, hm⟩ := h.above hx hu
  show (if y = x then F.u p else if (y : Int) ∈ F.k x then (p : Int) else if (y : Int) ∈ setAt (F.k p) x p then (x : Int) else F.u y) = _
  by_cases e : y = x
  · rw [if_pos e, if_pos e]
  · rw [if_neg e, if_neg e]
    by_cases e2 : F.u y = x
    · rw [if_pos ((kid_iff h hx hy).2 e2), if_pos e2]
    · rw [if_neg (fun hm2 => e2 ((kid_iff h hx hy).1 hm2)), if_neg e2]
      have e3 : (y : Int) ∈ setAt (F.k p) x p ↔ (y = p ∨ F.u y = p) := by
        rw [mem_setAt (h.nd p hp) hm, kid_iff h hp hy]
        constructor
        · rintro (h1 | ⟨h1, _⟩)
          · exact Or.inl (by omega)
          · exact Or.inr h1
        · rintro (h1 | h1)
          · exact Or.inl (by omega)
          · exact Or.inr ⟨h1, by omega⟩
      by_cases e4 : y = p ∨ F.u y = p
      · rw [if_pos (e3.2 e4), if_pos e4]
      · rw [if_neg (fun hm2 => e4 (e3.1 hm2)), if_neg e4]
theorem liftC_way (h : FOk n F) {x p : Nat} (hx : x < n) (hu : F.u x = p) {y r : Nat} (hy : y < n) (hr : (liftC F x p (F.u p)).u y = r) :
    (y = x ∧ F.u p = r) ∨ (y ≠ x ∧ F.u y = x ∧ r = p) ∨ (y = p ∧ r = x) ∨ (y ≠ x ∧ y ≠ p ∧ F.u y = p ∧ r = x) ∨ (y ≠ x ∧ y ≠ p ∧ F.u y = r ∧ r ≠ x ∧ r ≠ p) := by
  rw [liftC_u h hx hu hy] at hr
  by_cases e : y = x
  · rw [if_pos e] at hr; exact Or.inl ⟨e, hr⟩
  · rw [if_neg e] at hr
    by_cases e2 : F.u y = x
    · rw [if_pos e2] at hr; exact Or.inr (Or.inl ⟨e, e2, by omega⟩)
    · rw [if_neg e2] at hr
      by_cases e3 : y = p ∨ F.u y = p
      · rw [if_pos e3] at hr
        by_cases e4 : y = p
        · exact Or.inr (Or.inr (Or.inl ⟨e4, by omega⟩))
        · exact Or.inr (Or.inr (Or.inr (Or.inl ⟨e, e4, e3.resolve_left e4, by omega⟩)))
      · rw [if_neg e3] at hr
        exact Or.inr (Or.inr (Or.inr (Or.inr ⟨e, fun e4 => e3 (Or.inl e4), hr, fun e5 => e2 (by omega), fun e5 => e3 (Or.inr (by omega))⟩)))
theorem liftC_root (h : FOk n F) {x p : Nat} (hx : x < n) (hu : F.u x = p) {y : Nat} (hy : y < n) : (liftC F x p (F.u p)).u y = -1 ↔ (y = x ∧ F.u p = -1) ∨ (y ≠ x ∧ y ≠ p ∧ F.u y = -1) := by
  rw [liftC_u h hx hu hy]
  by_cases e : y = x
  · rw [if_pos e]
    exact ⟨fun h => Or.inl ⟨e, h⟩, fun h => by rcases h with h | h; exact h.2; exact absurd e h.1⟩
  · rw [if_neg e]
    by_cases e2 : F.u y = x
    · rw [if_pos e2]
      exact ⟨fun h => by omega, fun h => by rcases h with h | h; exact absurd h.1 e; omega⟩
    · rw [if_neg e2]
      by_cases e3 : y = p ∨ F.u y = p
      · rw [if_pos e3]
        exact ⟨fun h => by omega, fun h => by rcases h with h | h; exact absurd h.1 e; rcases e3 with e3 | e3; exact absurd e3 h.2.1; omega⟩
      · rw [if_neg e3]
        exact ⟨fun h => Or.inr ⟨e, fun e4 => e3 (Or.inl e4), h⟩, fun h => by rcases h with h | h; exact absurd h.1 e; exact h.2.2⟩
end
section
variable {A : NS} {G : BG} {x p : Nat}
theorem up_row (h : BnX A G x) (hx : x < A.cs.length) (hu : G.F.u x = p) {k : Nat} {z : Int} (hz : z ∈ G.R k) :
    0 ≤ upR x p (G.F.u p) z ∧ upR x p (G.F.u p) z < A.cs.length ∧ (liftG G x p).F.u (upR x p (G.F.u p) z).toNat = -1 ∧ degF A.cs.length (liftG G x p).F (upR x p (G.F.u p) z) = degF A.cs.length G.F z ∧ (A.c (upR x p (G.F.u p) z).toNat).i = (A.c z.toNat).i := by
  obtain ⟨hp, hm⟩ := h.fh.f.above hx hu
  have hne : p ≠ x := fun e => by subst e; exact h.fh.f.self hx hm
  have hr := (h.rh.row k).1 z hz
  obtain ⟨y, rfl⟩ := Int.eq_ofNat_of_zero_le hr.1
  rw [Int.toNat_natCast] at hr
  have hy : y < A.cs.length := by omega
  unfold upR
  by_cases e : (y : Int) = p ∧ G.F.u p = -1
  · rw [if_pos e, Int.toNat_natCast, Int.toNat_natCast]
    obtain rfl : y = p := by omega
    refine ⟨by omega, by omega, (liftC_root h.fh.f hx hu hx).2 (Or.inl ⟨rfl, e.2⟩), ?_, (h.fh.home x y hx hu).1⟩
    rw [degF_nat _ _ hx, degF_nat _ _ hy]
    show (((liftC G.F x y (G.F.u y)).k x).length : Int) = _
    rw [liftC_deg, if_pos rfl]
  · rw [if_neg e, Int.toNat_natCast]
    have hyp : y ≠ p := fun e2 => by subst e2; exact e ⟨rfl, hr.2.2⟩
    have hyx : y ≠ x := fun e2 => by subst e2; omega
    refine ⟨by omega, by omega, (liftC_root h.fh.f hx hu hy).2 (Or.inr ⟨hyx, hyp, hr.2.2⟩), ?_, rfl⟩
    rw [degF_nat _ _ hy, degF_nat _ _ hy]
    show (((liftC G.F x p (G.F.u p)).k y).length : Int) = _
    rw [liftC_deg, if_neg hyx, if_neg hyp]
theorem lift_bnx (h : BnX A G x) (hx : x < A.cs.length) (hu : G.F.u x = p) : BnX A (liftG G x p) x := by
  obtain ⟨hp, hm⟩ := h.fh.f.above hx hu
  have hne : p ≠ x := fun e => by subst e; exact h.fh.f.self hx hm
  have hxp := h.fh.home x p hx hu
  have hqx : ∀ q : Nat, G.F.u p = q → q ≠ x := fun q hq e => by
    have d1 := h.fh.f.udeg hx hu
    have d2 := h.fh.f.udeg hp hq
    subst e; omega
  refine ⟨⟨liftC_ok h.fh.f hx hu, fun y r hy hr => ?_, fun y r hy hr hyx hrx => ?_, fun y hy hh => ?_⟩, fun q c hc h1 h2 => ?_, ⟨fun k => ⟨fun z hz => ?_, ?_⟩, fun k y => ⟨fun hm2 => ?_, fun hm2 => ?_⟩⟩, fun k hk => ?_⟩
  · rcases liftC_way h.fh.f hx hu hy hr with ⟨e, h2⟩ | ⟨_, h2, e⟩ | ⟨e, e2⟩ | ⟨_, _, h2, e⟩ | ⟨_, _, h2, _, _⟩
    · subst e
      have := h.fh.home p r hp h2
      exact ⟨hxp.1.trans this.1, hxp.2⟩
    · subst e
      have := h.fh.home y x hy h2
      exact ⟨this.1.trans hxp.1, this.2⟩
    · subst e e2
      exact ⟨hxp.1.symm, by rw [← hxp.1]; exact hxp.2⟩
    · subst e
      have := h.fh.home y p hy h2
      exact ⟨this.1.trans hxp.1.symm, this.2⟩
    · exact h.fh.home y r hy h2
  · rcases liftC_way h.fh.f hx hu hy hr with ⟨e, h2⟩ | ⟨_, h2, e⟩ | ⟨e, e2⟩ | ⟨_, _, h2, e⟩ | ⟨_, _, h2, _, _⟩
    · exact absurd e hyx
    · subst e; exact h.two r y hy hu h2
    · exact absurd e2 hrx
    · exact absurd e hrx
    · exact h.fh.ord y r hy h2 hyx hrx
  · have h0 := h.fh.alone y hy hh
    have hyx : y ≠ x := fun e => by subst e; exact hh hxp.2
    have hyp : y ≠ p := fun e => by subst e; exact hh (by rw [← hxp.1]; exact hxp.2)
    refine ⟨(liftC_root h.fh.f hx hu hy).2 (Or.inr ⟨hyx, hyp, h0.1⟩), ?_⟩
    have : ((liftC G.F x p (G.F.u p)).k y).length = 0 := by rw [liftC_deg, if_neg hyx, if_neg hyp, h0.2]; rfl
    exact List.eq_nil_of_length_eq_zero this
  · have h3 : G.F.u p = q := by
      have := liftC_u h.fh.f hx hu hx
      rw [if_pos rfl] at this
      rw [← this]; exact h1
    have hpq := h.fh.ord p q hp h3 hne (hqx q h3)
    rcases liftC_way h.fh.f hx hu hc h2 with ⟨e, h4⟩ | ⟨_, h4, e⟩ | ⟨e, e2⟩ | ⟨e3, _, h4, e⟩ | ⟨_, _, h4, e3, _⟩
    · exact absurd rfl (hqx x h4)
    · exact absurd e.symm hne
    · subst e; exact hpq
    · exact lt3_trans hpq (h.fh.ord c p hc h4 e3 hne)
    · exact absurd rfl e3
  · obtain ⟨z0, hz0, rfl⟩ := List.mem_map.1 hz
    have := up_row h hx hu hz0
    exact ⟨this.1, this.2.1, this.2.2.1⟩
  · show ((G.R k).map _).Pairwise _
    rw [List.pairwise_map]
    exact (h.rh.row k).2.imp_of_mem (fun {a b} ha hb hab => by rw [(up_row h hx hu ha).2.2.2.1, (up_row h hx hu hb).2.2.2.1]; exact hab)
  · obtain ⟨z0, hz0, e⟩ := List.mem_map.1 hm2
    have h1 := up_row h hx hu hz0
    rw [e] at h1
    rw [Int.toNat_natCast] at h1
    have hr := (h.rh.row k).1 z0 hz0
    have h2 := (h.rh.mem k z0.toNat).1 (by rw [show ((z0.toNat : Nat) : Int) = z0 by omega]; exact hz0)
    exact ⟨h2.1, by omega, h1.2.2.1, by show (A.c y).i = (k : Int); rw [h1.2.2.2.2]; exact h2.2.2.2⟩
  · obtain ⟨k1, hy, hr, hh⟩ := hm2
    show (y : Int) ∈ (G.R k).map _
    rw [List.mem_map]
    rcases (liftC_root h.fh.f hx hu hy).1 hr with ⟨e, h2⟩ | ⟨hyx, hyp, h2⟩
    · subst e
      refine ⟨(p : Int), (h.rh.mem k p).2 ⟨k1, hp, h2, ?_⟩, by unfold upR; rw [if_pos ⟨rfl, h2⟩]⟩
      have e9 : (A.c y).i = (A.c p).i := hxp.1
      show (A.c p).i = (k : Int)
      rw [← e9]; exact hh
    · exact ⟨(y : Int), (h.rh.mem k y).2 ⟨k1, hy, h2, hh⟩, by unfold upR; rw [if_neg (fun e => hyp (by omega))]⟩
  · rw [← h.w k hk]
    unfold wt
    show (((G.R k).map _).map _).sum = _
    rw [List.map_map]
    congr 1
    exact List.map_congr_left (fun z hz => by simp only [Function.comp]; rw [(up_row h hx hu hz).2.2.2.1])
theorem lift_kids (h : BnX A G x) (hx : x < A.cs.length) (hu : G.F.u x = p) (hk : ∀ c : Nat, c < A.cs.length → G.F.u c = x → lt3 A x c) (hl : lt3 A x p) :
    ∀ c : Nat, c < A.cs.length → (liftG G x p).F.u c = x → lt3 A x c := fun c hc h2 => by
  obtain ⟨hp, hm⟩ := h.fh.f.above hx hu
  have hne : p ≠ x := fun e => by subst e; exact h.fh.f.self hx hm
  rcases liftC_way h.fh.f hx hu hc h2 with ⟨e, h4⟩ | ⟨_, h4, e⟩ | ⟨e, e2⟩ | ⟨e3, _, h4, e⟩ | ⟨_, _, h4, e3, _⟩
  · have d1 := h.fh.f.udeg hx hu
    have d2 := h.fh.f.udeg hp h4
    omega
  · exact absurd e.symm hne
  · subst e; exact hl
  · exact lt3_trans hl (h.fh.ord c p hc h4 e3 hne)
  · exact absurd rfl e3
theorem BnX.done (h : BnX A G x) (hx : x < A.cs.length) (hk : ∀ c : Nat, c < A.cs.length → G.F.u c = x → lt3 A x c) (ht : ∀ p : Nat, G.F.u x = p → lt3 A p x) : BnI A G := by
  refine ⟨⟨h.fh.f, h.fh.home, fun y r hy hr => ?_, h.fh.alone⟩, h.rh, h.w⟩
  by_cases e1 : y = x
  · subst e1; exact ht r hr
  · by_cases e2 : r = x
    · subst e2; exact hk y hy hr
    · exact h.fh.ord y r hy hr e1 e2
theorem low_start {k s : Int} (h : BnI A G) (hB : lowB A x k s = true) (hx : x < A.cs.length) : BnX (lowN A x k s) G x ∧ ∀ c : Nat, c < A.cs.length → G.F.u c = x → lt3 (lowN A x k s) x c := by
  have hc := fun y => low_c hB hx y
  have hi := fun y => low_i hB hx y
  have hle := lowB_le hB
  rw [Int.toNat_natCast] at hle
  have hne : ∀ y r : Nat, y < A.cs.length → G.F.u y = r → y ≠ r := fun y r hy hu e => by
    subst e
    exact h.fh.f.self hy (h.fh.f.above hy hu).2
  have low : ∀ y : Nat, y ≠ x → lt3 A x y → lt3 (lowN A x k s) x y := fun y hy hl => lt3_lower hl (by rw [hc, if_neg hy]) (by rw [hc, if_pos rfl]; exact hle)
  have same : ∀ y r : Nat, y ≠ x → r ≠ x → lt3 A y r → lt3 (lowN A x k s) y r := fun y r h1 h2 hl => (lt3_same (by rw [hc, if_neg h1]) (by rw [hc, if_neg h2])).2 hl
  have hn := low_len A x k s
  have hw : ∀ q : Nat, lenN (lowN A x k s) q = lenN A q := fun q => by
    unfold lowN
    rw [if_pos hB, Int.toNat_natCast]
    have e := lenN_with A x ⟨(A.c x).i, k, s⟩ q hx
    simp only at e
    omega
  refine ⟨⟨⟨by rw [hn]; exact h.fh.f, fun y r hy hr => ?_, fun y r hy hr e1 e2 => ?_, fun y hy hh => ?_⟩, fun q c hc' h1 h2 => ?_, ⟨fun q => by rw [hn]; exact h.rh.row q, fun q y => ?_⟩, fun q hq => by rw [hn, hw]; exact h.w q hq⟩, fun c hc' hu => ?_⟩
  · rw [hn] at hy
    simp only [hi]
    exact h.fh.home y r hy hr
  · rw [hn] at hy
    exact same r y e2 e1 (h.fh.ord y r hy hr)
  · rw [hn] at hy
    simp only [hi] at hh
    exact h.fh.alone y hy hh
  · rw [hn] at hc'
    have h3 := h.fh.ord x q hx h1
    have h4 := h.fh.ord c x hc' h2
    exact same q c (fun e => hne x q hx h1 e.symm) (hne c x hc' h2) (lt3_trans h3 h4)
  · rw [hn]
    simp only [hi]
    exact h.rh.mem q y
  · exact low c (hne c x hc' hu) (h.fh.ord c x hc' hu)
end
end Go.Proofs.Ytighgbdijagolaa
