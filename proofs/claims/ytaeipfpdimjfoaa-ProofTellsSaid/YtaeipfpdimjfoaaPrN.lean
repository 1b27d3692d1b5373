/-
  What the program tests of a tree is what the document says, plainly. Conditions: those of each lemma.
-/
import Derived.Test.YtaeipfpdimjfoaaPrM
set_option linter.unusedVariables false
set_option linter.unusedSimpArgs false
namespace Go.Proofs.Ytaeipfpdimjfoaa
open Go Go.RowKit

/-- What is tested of one vertex. -/
def okV (E : List Ed) (s : Nat) (D B : List Int) (v : Nat) : Prop :=
  ((v ≠ s ∧ D.getD v 0 ≠ 9223372036854775807) ↔ B.getD v 0 ≠ -1) ∧
  (v ≠ s ∧ D.getD v 0 ≠ 9223372036854775807 → 0 ≤ B.getD v 0 ∧ B.getD v 0 < E.length ∧ tightB D (E.getD (B.getD v 0).toNat default) = true ∧ (E.getD (B.getD v 0).toNat default).t = v)
/-- What is tested. -/
structure ProvB (N s : Nat) (E : List Ed) (D B : List Int) : Prop where
  lD : D.length = N
  lB : B.length = N
  d0 : D.getD s 0 = 0
  b0 : B.getD s 0 = -1
  pos : D.any (fun x => decide (x < 0)) = false
  feas : feasB D E = true
  ok : ∀ v, v < N → okV E s D B v
  root : Rooted (eN E) (fun x => B.getD x 0) s N
theorem pos_iff (D : List Int) : D.any (fun x => decide (x < 0)) = false ↔ ∀ x, x ∈ D → 0 ≤ x := by
  rw [List.any_eq_false]
  constructor
  · intro h x hx; have := h x hx; simp at this; exact this
  · intro h x hx; have := h x hx; simp; exact this
section
variable {N s : Nat} {E : List Ed} {D B : List Int}
theorem dN_of (hp : ∀ x, x ∈ D → 0 ≤ x) {v : Nat} (hv : v < D.length) : ((dN D v : Nat) : Int) = D.getD v 0 := by
  have := getD_all hp hv
  unfold dN; omega
theorem step_iff (hw : weighB (N : Int) E = true) (hl : D.length = N) (hp : ∀ x, x ∈ D → 0 ≤ x) {v : Nat} (hv : v < N) :
    stepOk (eN E) (fun x => B.getD x 0) (dN D) v = true ↔ 0 ≤ B.getD v 0 ∧ B.getD v 0 < E.length ∧ tightB D (E.getD (B.getD v 0).toNat default) = true ∧ (E.getD (B.getD v 0).toNat default).t = v := by
  rw [stepOk_iff, eN_len]
  by_cases h0 : 0 ≤ B.getD v 0 ∧ B.getD v 0 < E.length
  · obtain ⟨h1, h2⟩ := h0
    obtain ⟨i, hi⟩ : ∃ i : Nat, B.getD v 0 = i := ⟨(B.getD v 0).toNat, by omega⟩
    have hiE : i < E.length := by omega
    have hx : E[i]? = some (E.getD i default) := by simp [List.getD_eq_getElem?_getD, hiE]
    have h3 := right_mem (weigh_right hw) (List.mem_of_getElem? hx)
    have h4 := weigh_mem hw (List.mem_of_getElem? hx)
    have hed : edN (eN E) (B.getD v 0) = toN (E.getD i default) := by rw [hi, edN_eN E i hiE]
    have hpar : parN (eN E) (fun x => B.getD x 0) v = (E.getD i default).f.toNat := by
      rw [parN_of (by show B.getD v 0 ≠ -1; omega)]
      show (edN (eN E) (B.getD v 0)).f = _
      rw [hed]; rfl
    rw [hpar]
    show (0 ≤ B.getD v 0 ∧ B.getD v 0 < E.length ∧ (edN (eN E) (B.getD v 0)).t = v ∧ _ ∧ _ + (edN (eN E) (B.getD v 0)).w = _) ↔ _
    rw [hed, hi, show (i : Int).toNat = i by omega]
    generalize E.getD i default = e at *
    have hf : e.f.toNat < D.length := by omega
    have ht : e.t.toNat < D.length := by omega
    have d1 := dN_of hp hf
    have d2 := dN_of hp ht
    have d3 := dN_of hp (show v < D.length by omega)
    have p1 := getD_all hp hf
    unfold tightB fitsB
    simp only [Bool.and_eq_true, decide_eq_true_eq]
    show (_ ∧ _ ∧ e.t.toNat = v ∧ dN D e.f.toNat ≠ inf ∧ dN D e.f.toNat + e.w.toNat = dN D v) ↔ _
    rw [show inf = 9223372036854775807 from rfl]
    constructor
    · rintro ⟨_, _, a1, a2, a3⟩
      rw [a1] at d2 ⊢
      exact ⟨by omega, by omega, ⟨⟨p1, by omega⟩, by omega⟩, by omega⟩
    · rintro ⟨_, _, ⟨⟨_, a2⟩, a3⟩, a4⟩
      have a1 : e.t.toNat = v := by omega
      rw [a1] at a3
      exact ⟨by omega, by omega, a1, by omega, by omega⟩
  · constructor
    · rintro ⟨a, b, _⟩; exact absurd ⟨a, b⟩ h0
    · rintro ⟨a, b, _⟩; exact absurd ⟨a, b⟩ h0
theorem prov_iff (hw : weighB (N : Int) E = true) (hs : s < N) (hb : ∀ x, x ∈ D → x ≤ 9223372036854775807) : ProvB N s E D B ↔ TreeA (eN E) N s (passes (eN E) s N) D B := by
  have hg : GOk (eN E) s N (9223372036854775807 / N) := weigh_gok hw hs
  have hwp : ∀ e, e ∈ E → 0 ≤ e.w := fun e he => (weigh_mem hw he).1
  have main : ∀ (hlD : D.length = N) (hlB : B.length = N) (hp : ∀ x, x ∈ D → 0 ≤ x), ProvB N s E D B ↔ TreeP (eN E) N s (passes (eN E) s N) (dN D) (fun x => B.getD x 0) := by
    intro hlD hlB hp
    have hd : ∀ v, v < N → dN D v ≤ inf := fun v hv => by
      have h1 := getD_all hb (i := v) (by omega)
      have h2 := dN_of hp (v := v) (by omega)
      rw [show inf = 9223372036854775807 from rfl]; omega
    rw [← prov_tree hg hd]
    have hfe := feasB_iff (D := D) (weigh_right hw) (by omega) hwp (fun x hx => ⟨hp x hx, hb x hx⟩)
    have hinf : ∀ v, v < N → (D.getD v 0 ≠ 9223372036854775807 ↔ dN D v ≠ inf) := fun v hv => by
      have h2 := dN_of hp (v := v) (by omega)
      rw [show inf = 9223372036854775807 from rfl]; omega
    have hokv : ∀ v, v < N → (okV E s D B v ↔ ((v ≠ s ∧ dN D v ≠ inf) ↔ B.getD v 0 ≠ -1) ∧ (v ≠ s ∧ dN D v ≠ inf → stepOk (eN E) (fun x => B.getD x 0) (dN D) v = true)) := fun v hv => by
      unfold okV
      rw [hinf v hv, step_iff hw hlD hp hv]
    have hd0 : D.getD s 0 = 0 ↔ dN D s = 0 := by have := dN_of hp (v := s) (by omega); omega
    constructor
    · intro h
      exact ⟨hd0.1 h.d0, h.b0, hfe.1 h.feas, fun v hv => (hokv v hv).1 (h.ok v hv), h.root⟩
    · rintro ⟨h1, h2, h3, h4, h5⟩
      exact ⟨hlD, hlB, hd0.2 h1, h2, (pos_iff D).2 hp, hfe.2 h3, fun v hv => (hokv v hv).2 (h4 v hv), h5⟩
  constructor
  · intro h
    have hp := (pos_iff D).1 h.pos
    have hT := (main h.lD h.lB hp).1 h
    refine ⟨h.lD, h.lB, fun v hv => ?_⟩
    obtain ⟨h1, h2, h3⟩ := hT v hv
    exact ⟨by rw [← h1]; exact (dN_of hp (by have := h.lD; omega)).symm, h2, h3⟩
  · rintro ⟨hlD, hlB, hT⟩
    have hp : ∀ x, x ∈ D → 0 ≤ x := fun x hx => by
      obtain ⟨v, hv, rfl⟩ := List.mem_iff_getElem.1 hx
      have h1 := (hT v (by omega)).1
      have h2 : D.getD v 0 = D[v] := by simp [List.getD_eq_getElem?_getD, hv]
      rw [h2] at h1
      omega
    refine (main hlD hlB hp).2 fun v hv => ?_
    obtain ⟨h1, h2, h3⟩ := hT v hv
    exact ⟨by have := dN_of hp (v := v) (by omega); omega, h2, h3⟩
/-- What is given to the marks. -/
theorem by_ok (hw : weighB (N : Int) E = true) (hs : s < N) (h0 : B.getD s 0 = -1) (hd0 : D.getD s 0 = 0) (hl : D.length = N) (hok : ∀ v, v < N → okV E s D B v) :
    (∀ x, x < N → B.getD x 0 ≠ -1 → 0 ≤ B.getD x 0 ∧ B.getD x 0 < E.length) ∧ ByOk (eN E) (fun x => B.getD x 0) s N := by
  have hr := weigh_right hw
  refine ⟨fun x hx hb => ?_, h0, hs, fun x hx hb => ?_⟩
  · have h := (hok x hx).2 ((hok x hx).1.2 hb)
    exact ⟨h.1, h.2.1⟩
  · have h := (hok x hx).2 ((hok x hx).1.2 hb)
    obtain ⟨h1, h2, h3, h4⟩ := h
    obtain ⟨i, hi⟩ : ∃ i : Nat, B.getD x 0 = i := ⟨(B.getD x 0).toNat, by omega⟩
    have hiE : i < E.length := by omega
    have hx' : E[i]? = some (E.getD i default) := by simp [List.getD_eq_getElem?_getD, hiE]
    have h5 := right_mem hr (List.mem_of_getElem? hx')
    have hpar : parN (eN E) (fun x => B.getD x 0) x = (E.getD i default).f.toNat := by
      rw [parN_of hb]
      show (edN (eN E) (B.getD x 0)).f = _
      rw [hi, edN_eN E i hiE]; rfl
    rw [hi, show (i : Int).toNat = i by omega] at h3
    rw [hpar]
    generalize E.getD i default = e at *
    refine ⟨by omega, ?_⟩
    by_cases hfs : e.f.toNat = s
    · exact Or.inl hfs
    · right
      have hf : e.f.toNat < N := by omega
      refine (hok _ hf).1.1 ⟨hfs, ?_⟩
      unfold tightB fitsB at h3
      simp only [Bool.and_eq_true, decide_eq_true_eq] at h3
      exact h3.1.2
end
end Go.Proofs.Ytaeipfpdimjfoaa
