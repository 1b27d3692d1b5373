/-
  A nest beside the document's, that a law holds in a block: what it is behind each act. Conditions: those of each lemma.
-/
import Derived.Test.YtighgbdijagolaaRuns
set_option linter.unusedVariables false
set_option linter.unusedSimpArgs false
namespace Go.Proofs.Ytighgbdijagolaa
open Go Go.RowKit

theorem wp_named2 {c : Code} {K : Exit → Act → World → Prop} {a : Act} {W : World} (R : World → Prop) (h : R W) (k : ∀ W', R W' → Code.wp Try.prog c K a W') : Code.wp Try.prog c K a W := k W h
structure HeldAt (K : NestK) (w0 w : World) (p b : Nat) (F : List Nat) (A : NS) (gh oh ch gc oc cc st : Nat) (g : K.G) : Prop where
  a : K.at_ w p F A st g
  r : RefM w ([b] ++ F) gh oh ch gc oc cc A
  f : ∀ x, x ∈ F → w0.heap.size ≤ x
  bF : b ∉ F
  lt : b < w.heap.size
  ge : w0.heap.size ≤ b
  c1 : w.cell? ⟨b, 0, none⟩ = some (.slice (some ⟨gh, oh, none⟩) A.hs.length ch) ∧ w.cell? ⟨b, 1, none⟩ = some (.slice (some ⟨gc, oc, none⟩) A.cs.length cc)
  z1 : w.frozen? ⟨b, 0, none⟩ = false ∧ w.frozen? ⟨b, 1, none⟩ = false
  up : Upd [] w0 w
section
variable {K : NestK} {w0 w : World} {p b : Nat} {F : List Nat} {A : NS} {gh oh ch gc oc cc st : Nat} {g : K.G}
theorem HeldAt.fin {w3 w7 W : World} {F3 : List Nat} {A' : NS} {gh3 oh3 ch3 gc3 oc3 cc3 st' : Nat} {g' : K.G} (h : HeldAt K w0 w p b F A gh oh ch gc oc cc st g) (hu : Upd F w w3) (hf3 : ∀ x, x ∈ F3 → x ∈ F ∨ w.heap.size ≤ x)
    (hR7 : RefM w7 ([b] ++ F3) gh3 oh3 ch3 gc3 oc3 cc3 A') (h37 : Upd [b] w3 w7) (hW : Upd F3 w7 W) (hA : K.at_ W p F3 A' st' g')
    (c1 : w7.cell? ⟨b, 0, none⟩ = some (.slice (some ⟨gh3, oh3, none⟩) A'.hs.length ch3) ∧ w7.cell? ⟨b, 1, none⟩ = some (.slice (some ⟨gc3, oc3, none⟩) A'.cs.length cc3))
    (z1 : w7.frozen? ⟨b, 0, none⟩ = false ∧ w7.frozen? ⟨b, 1, none⟩ = false) : HeldAt K w0 W p b F3 A' gh3 oh3 ch3 gc3 oc3 cc3 st' g' := by
  have s0 := h.up.size
  have s3 := hu.size
  have s7 := h37.size
  have sW := hW.size
  have hl := h.lt
  have hbF : b ∉ F3 := fun hm => by
    rcases hf3 b hm with h' | h'
    · exact h.bF h'
    · omega
  have hf : ∀ x, x ∈ F3 → w0.heap.size ≤ x := fun x hx => by
    rcases hf3 x hx with h' | h'
    · exact h.f x h'
    · omega
  exact ⟨hA, hR7.upd (hW.mono (fun x hx => by simp [hx])), hf, hbF, by omega, h.ge, ⟨hW.kept c1.1 hbF, hW.kept c1.2 hbF⟩, ⟨hW.keptF c1.1 hbF z1.1, hW.keptF c1.2 hbF z1.2⟩,
    ((h.up.joined hu (fun x hx => Or.inr (h.f x hx))).joined h37 (fun x hx => Or.inr (by simp at hx; subst hx; exact h.ge))).joined hW (fun x hx => Or.inr (hf x hx))⟩
/-- The nest turned, but not what it tells. -/
theorem HeldAt.go {W : World} {F' : List Nat} {st' : Nat} (h : HeldAt K w0 w p b F A gh oh ch gc oc cc st g) (hu : Upd F w W) (hF : ∀ x, x ∈ F' → x ∈ F ∨ w.heap.size ≤ x) (hA : K.at_ W p F' A st' g) : HeldAt K w0 W p b F' A gh oh ch gc oc cc st' g := by
  have s0 := h.up.size
  have hl := h.lt
  have hs := hu.size
  have hbF : b ∉ F' := fun hm => by
    rcases hF b hm with h' | h'
    · exact h.bF h'
    · omega
  refine ⟨hA, h.r.fresh (hu.mono (fun x hx => by simp [hx])) (fun x hx => ?_), fun x hx => ?_, hbF, by omega, h.ge, ⟨hu.kept h.c1.1 h.bF, hu.kept h.c1.2 h.bF⟩, ⟨hu.keptF h.c1.1 h.bF h.z1.1, hu.keptF h.c1.2 h.bF h.z1.2⟩, h.up.joined hu (fun x hx => Or.inr (h.f x hx))⟩
  · simp only [List.cons_append, List.nil_append, List.mem_cons] at hx ⊢
    rcases hx with rfl | hx
    · exact Or.inl (Or.inl rfl)
    · exact (hF x hx).imp Or.inr id
  · rcases hF x hx with h' | h'
    · exact h.f x h'
    · omega
theorem HeldAt.upd0 {W : World} (h : HeldAt K w0 w p b F A gh oh ch gc oc cc st g) (hu : Upd [] w W) : HeldAt K w0 W p b F A gh oh ch gc oc cc st g :=
  h.go (hu.mono (by simp)) (fun x hx => Or.inl hx) (K.upd h.a hu (by simp))
theorem HeldAt.ref (h : HeldAt K w0 w p b F A gh oh ch gc oc cc st g) : RefAt w ([b] ++ F) (.agg #[.slice (some ⟨gh, oh, none⟩) A.hs.length ch, .slice (some ⟨gc, oc, none⟩) A.cs.length cc]) A := ⟨gh, oh, ch, gc, oc, cc, rfl, h.r⟩
end
end Go.Proofs.Ytighgbdijagolaa
