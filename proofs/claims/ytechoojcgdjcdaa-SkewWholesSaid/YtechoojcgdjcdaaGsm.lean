/-
  Skew heaps are a nest of a kind. Conditions: none.
-/
import Derived.Test.YtechoojcgdjcdaaGsl
import Derived.Test.YtechoojcgdjcdaaTOps
set_option linter.unusedVariables false
set_option linter.unusedSimpArgs false
namespace Go.Proofs.Ytechoojcgdjcdaa
open Go Go.RowKit

noncomputable def sOps : TOps := ⟨mergeT upS, sdelT, slowT⟩
def SkK (w : World) (p : Nat) (F : List Nat) (A : NS) (st : Nat) (tr : Nat → BT) : Prop := ∃ B F1, p = B.n0 ∧ F = B.blk F1 ∧ SkAt w B F1 A st tr
theorem sk_via_has (p c : Nat) : ∀ W : World, W.cell? ⟨p, 0, none⟩ = some (.pointer (some ⟨c, 0, none⟩)) → (method 261 74 (.pointer (some ⟨p, 0, none⟩)) "Has").run Try.prog W = .ok (19, .pointer (some ⟨c, 0, none⟩)) W := (by intro W h; unfold method; have hm : ∃ m, (Array.find? (fun x => x.name == "Has") Try.t74.methods) = some m ∧ m.path.toList = [⟨78, 0, true⟩] ∧ m.func = some (19, true) ∧ m.path.isEmpty = false := ⟨(Array.find? (fun x => x.name == "Has") Try.t74.methods).get!, by kernel_rfl, by kernel_rfl, by kernel_rfl, by kernel_rfl⟩; obtain ⟨m, h1, h2, h3, h4⟩ := hm; go_simp; simp only [follow, Place.get]; go_simp; (try unfold receiverAt); (try simp only [Place.get]); (try go_simp))
theorem sk_via_len (p c : Nat) : ∀ W : World, W.cell? ⟨p, 0, none⟩ = some (.pointer (some ⟨c, 0, none⟩)) → (method 261 74 (.pointer (some ⟨p, 0, none⟩)) "Len").run Try.prog W = .ok (20, .pointer (some ⟨c, 0, none⟩)) W := (by intro W h; unfold method; have hm : ∃ m, (Array.find? (fun x => x.name == "Len") Try.t74.methods) = some m ∧ m.path.toList = [⟨78, 0, true⟩] ∧ m.func = some (20, true) ∧ m.path.isEmpty = false := ⟨(Array.find? (fun x => x.name == "Len") Try.t74.methods).get!, by kernel_rfl, by kernel_rfl, by kernel_rfl, by kernel_rfl⟩; obtain ⟨m, h1, h2, h3, h4⟩ := hm; go_simp; simp only [follow, Place.get]; go_simp; (try unfold receiverAt); (try simp only [Place.get]); (try go_simp))
theorem sk_via_entry (p c : Nat) : ∀ W : World, W.cell? ⟨p, 0, none⟩ = some (.pointer (some ⟨c, 0, none⟩)) → (method 261 74 (.pointer (some ⟨p, 0, none⟩)) "Entry").run Try.prog W = .ok (134, .pointer (some ⟨c, 0, none⟩)) W := (by intro W h; unfold method; have hm : ∃ m, (Array.find? (fun x => x.name == "Entry") Try.t74.methods) = some m ∧ m.path.toList = [⟨78, 0, true⟩] ∧ m.func = some (134, true) ∧ m.path.isEmpty = false := ⟨(Array.find? (fun x => x.name == "Entry") Try.t74.methods).get!, by kernel_rfl, by kernel_rfl, by kernel_rfl, by kernel_rfl⟩; obtain ⟨m, h1, h2, h3, h4⟩ := hm; go_simp; simp only [follow, Place.get]; go_simp; (try unfold receiverAt); (try simp only [Place.get]); (try go_simp))
theorem sk_via_home (p c : Nat) : ∀ W : World, W.cell? ⟨p, 0, none⟩ = some (.pointer (some ⟨c, 0, none⟩)) → (method 261 74 (.pointer (some ⟨p, 0, none⟩)) "Home").run Try.prog W = .ok (54, .pointer (some ⟨c, 0, none⟩)) W := (by intro W h; unfold method; have hm : ∃ m, (Array.find? (fun x => x.name == "Home") Try.t74.methods) = some m ∧ m.path.toList = [⟨78, 0, true⟩] ∧ m.func = some (54, true) ∧ m.path.isEmpty = false := ⟨(Array.find? (fun x => x.name == "Home") Try.t74.methods).get!, by kernel_rfl, by kernel_rfl, by kernel_rfl, by kernel_rfl⟩; obtain ⟨m, h1, h2, h3, h4⟩ := hm; go_simp; simp only [follow, Place.get]; go_simp; (try unfold receiverAt); (try simp only [Place.get]); (try go_simp))
theorem sk_via_cap (p c : Nat) : ∀ W : World, W.cell? ⟨p, 0, none⟩ = some (.pointer (some ⟨c, 0, none⟩)) → (method 261 74 (.pointer (some ⟨p, 0, none⟩)) "Capacity").run Try.prog W = .ok (17, .pointer (some ⟨c, 0, none⟩)) W := (by intro W h; unfold method; have hm : ∃ m, (Array.find? (fun x => x.name == "Capacity") Try.t74.methods) = some m ∧ m.path.toList = [⟨78, 0, true⟩] ∧ m.func = some (17, true) ∧ m.path.isEmpty = false := ⟨(Array.find? (fun x => x.name == "Capacity") Try.t74.methods).get!, by kernel_rfl, by kernel_rfl, by kernel_rfl, by kernel_rfl⟩; obtain ⟨m, h1, h2, h3, h4⟩ := hm; go_simp; simp only [follow, Place.get]; go_simp; (try unfold receiverAt); (try simp only [Place.get]); (try go_simp))
theorem sk_via_make (p c : Nat) : ∀ W : World, W.cell? ⟨p, 0, none⟩ = some (.pointer (some ⟨c, 0, none⟩)) → (method 261 74 (.pointer (some ⟨p, 0, none⟩)) "Make").run Try.prog W = .ok (57, .pointer (some ⟨c, 0, none⟩)) W := (by intro W h; unfold method; have hm : ∃ m, (Array.find? (fun x => x.name == "Make") Try.t74.methods) = some m ∧ m.path.toList = [⟨78, 0, true⟩] ∧ m.func = some (57, true) ∧ m.path.isEmpty = false := ⟨(Array.find? (fun x => x.name == "Make") Try.t74.methods).get!, by kernel_rfl, by kernel_rfl, by kernel_rfl, by kernel_rfl⟩; obtain ⟨m, h1, h2, h3, h4⟩ := hm; go_simp; simp only [follow, Place.get]; go_simp; (try unfold receiverAt); (try simp only [Place.get]); (try go_simp))
theorem sk_via_steps (p c : Nat) : ∀ W : World, W.cell? ⟨p, 0, none⟩ = some (.pointer (some ⟨c, 0, none⟩)) → (method 261 74 (.pointer (some ⟨p, 0, none⟩)) "Steps").run Try.prog W = .ok (18, .pointer (some ⟨c, 0, none⟩)) W := (by intro W h; unfold method; have hm : ∃ m, (Array.find? (fun x => x.name == "Steps") Try.t74.methods) = some m ∧ m.path.toList = [⟨78, 0, true⟩, ⟨39, 0, true⟩] ∧ m.func = some (18, true) ∧ m.path.isEmpty = false := ⟨(Array.find? (fun x => x.name == "Steps") Try.t74.methods).get!, by kernel_rfl, by kernel_rfl, by kernel_rfl, by kernel_rfl⟩; obtain ⟨m, h1, h2, h3, h4⟩ := hm; go_simp; simp only [follow, Place.get]; go_simp; (try unfold receiverAt); (try simp only [Place.get]); (try go_simp))
theorem sk_insert (p : Nat) : ∀ W : World, (method 261 74 (.pointer (some ⟨p, 0, none⟩)) "Insert").run Try.prog W = .ok (58, .pointer (some ⟨p, 0, none⟩)) W := fun _ => by kernel_rfl
theorem sk_min (p : Nat) : ∀ W : World, (method 261 74 (.pointer (some ⟨p, 0, none⟩)) "Min").run Try.prog W = .ok (80, .pointer (some ⟨p, 0, none⟩)) W := fun _ => by kernel_rfl
theorem sk_extract (p : Nat) : ∀ W : World, (method 261 74 (.pointer (some ⟨p, 0, none⟩)) "Extract").run Try.prog W = .ok (59, .pointer (some ⟨p, 0, none⟩)) W := fun _ => by kernel_rfl
theorem sk_decrease (p : Nat) : ∀ W : World, (method 261 74 (.pointer (some ⟨p, 0, none⟩)) "Decrease").run Try.prog W = .ok (144, .pointer (some ⟨p, 0, none⟩)) W := fun _ => by kernel_rfl
theorem sk_delete (p : Nat) : ∀ W : World, (method 261 74 (.pointer (some ⟨p, 0, none⟩)) "Delete").run Try.prog W = .ok (81, .pointer (some ⟨p, 0, none⟩)) W := fun _ => by kernel_rfl
theorem sk_meld (p : Nat) : ∀ W : World, (method 261 74 (.pointer (some ⟨p, 0, none⟩)) "Meld").run Try.prog W = .ok (145, .pointer (some ⟨p, 0, none⟩)) W := fun _ => by kernel_rfl
section
variable {w : World} {p : Nat} {F : List Nat} {A : NS} {st : Nat} {tr : Nat → BT}
theorem SkK.same (h : SkK w p F A st tr) {W w' : World} (hu : Upd F W w') {A' : NS} {st' : Nat} {tr' : Nat → BT} (hK : SkK w' p F A' st' tr') : Goes F W w' (fun F' => SkK w' p F' A' st' tr') := Goes.stay hK hu
noncomputable def nestSk : NestK where
  ty := 74
  G := Nat → BT
  at_ := SkK
  cost := fun A a tr => (stepT sOps A a tr).2
  next := fun A a tr => (stepT sOps A a tr).1
  upd := fun h hu hS => by
    obtain ⟨B, F1, rfl, rfl, hL⟩ := h
    exact ⟨B, F1, rfl, rfl, hL.upd hu hS⟩
  lt := fun h => by
    obtain ⟨B, F1, rfl, rfl, S, hM, -⟩ := h
    exact hM.lt
  ok := fun h => by
    obtain ⟨B, F1, rfl, rfl, S, hM, -⟩ := h
    exact hM.cells.ok
  st62 := fun h => by
    obtain ⟨B, F1, rfl, rfl, S, hM, -⟩ := h
    exact hM.cells.st62
  idle := fun A a g h => by
    rw [stepT_idle sOps A a g ⟨h.2.1, h.2.2.2.1, h.2.2.2.2.1, h.2.2.2.2.2.1, h.2.2.2.2.2.2⟩]; exact ⟨rfl, rfl⟩
  make := fun {w p F A st g} hh x k s h => by
    obtain ⟨B, F1, rfl, rfl, hL⟩ := h
    have hst : st ≤ 4611686018427387904 := by obtain ⟨S, hM, -⟩ := hL; exact hM.cells.st62
    have h0 : w.cell? ⟨B.n0, 0, none⟩ = some (.pointer (some ⟨B.c, 0, none⟩)) := by obtain ⟨S, hM, -⟩ := hL; exact hM.h0
    refine mth_via 57 (fun _ _ => by kernel_rfl) h0 (sk_via_make _ _) (fun W hW => ?_)
    have hLW := hL.upd0 hW
    have hC : CellsAt W B.c F1 A st := by obtain ⟨S, hM, -⟩ := hLW; exact hM.cells
    have hsep : B.n0 ∉ F1 ∧ B.bt ∉ F1 ∧ B.ba ∉ F1 ∧ B.mb ∉ F1 := by obtain ⟨S, hM, -⟩ := hLW; exact hM.sepF
    rw [stepT_idle sOps A ⟨0, hh, x, k, s⟩ g ⟨by simp, by simp, by simp, by simp, by simp⟩, satS_zero hst]
    refine (cmake_any hC).mono ?_
    rintro e w' ⟨rfl, F', hC2, hu, hf⟩
    have hu2 : Upd (B.blk F1) W w' := hu.mono (fun z hz => by simp only [SB.blk, List.mem_cons]; simp [hz])
    have hf2 : ∀ z, z ∈ B.blk F' → z ∈ B.blk F1 ∨ W.heap.size ≤ z := fun z hz => by
      simp only [SB.blk, List.mem_cons] at hz ⊢
      rcases hz with rfl | rfl | rfl | rfl | hz
      · simp
      · simp
      · simp
      · simp
      · rcases hf z hz with h1 | h1
        · simp [h1]
        · exact Or.inr h1
    refine ⟨rfl, B.blk F', ⟨B, F', rfl, rfl, ?_⟩, hu2, hf2⟩
    by_cases hl : 65536 < A.hs.length
    · have e2 : makeN A = A := by unfold makeN; rw [if_pos hl]
      rw [e2] at hC2 ⊢
      obtain ⟨S, hM, hI⟩ := hLW
      exact ⟨S, hM.setC hu hC2 hf rfl, hI⟩
    · exact hLW.make hl hu hC2 hf
  insert := fun {w p F A st g} a ha hk h => by
    obtain ⟨B, F1, rfl, rfl, hL⟩ := h
    refine mth_direct 58 (fun _ _ => by kernel_rfl) (sk_insert _) (fun W hW => ?_)
    have hLW := hL.upd0 hW
    have hst : st ≤ 4611686018427387904 := by obtain ⟨S, hM, -⟩ := hL; exact hM.cells.st62
    have es : stepT sOps A a g = if putB A a.h a.x then (setT g a.h.toNat (sOps.mrg (putN A a.h a.x a.k a.s) (g a.h.toNat) (single a.x.toNat)).1, (sOps.mrg (putN A a.h a.x a.k a.s) (g a.h.toNat) (single a.x.toNat)).2) else (g, 0) := by unfold stepT; rw [if_pos hk]
    rw [es]
    cases hB : putB A a.h a.x with
    | false =>
      rw [if_neg (by simp)]
      have e2 : putN A a.h a.x a.k a.s = A := by unfold putN; rw [hB]; rfl
      rw [e2, satS_zero hst]
      refine (sinsert_no hLW a.h a.x a.k a.s hB).mono ?_
      rintro e w' ⟨rfl, hu⟩
      exact ⟨rfl, Goes.stay ⟨B, F1, rfl, rfl, hLW.upd0 hu⟩ (hu.mono (by simp))⟩
    | true =>
      rw [if_pos rfl]
      obtain ⟨hh, y, e1, e2⟩ := put_nat hB
      rw [e1, e2] at hB ⊢
      refine (sinsert_yes hLW hh y a.k a.s ha.k hB).mono ?_
      rintro e w' ⟨rfl, hu, hL2⟩
      exact ⟨rfl, Goes.stay ⟨B, F1, rfl, rfl, hL2⟩ hu⟩
  min := fun {w p F A st g} a ha hk h => by
    obtain ⟨B, F1, rfl, rfl, hL⟩ := h
    refine mth_direct 80 (fun _ _ => by kernel_rfl) (sk_min _) (fun W hW => ?_)
    have hLW := hL.upd0 hW
    have hst : st ≤ 4611686018427387904 := by obtain ⟨S, hM, -⟩ := hL; exact hM.cells.st62
    rw [stepT_idle sOps A a g (by rw [hk]; exact ⟨by decide, by decide, by decide, by decide, by decide⟩), satS_zero hst]
    by_cases hl : lenN A a.h = 0
    · rw [minN_none_iff.2 hl]
      refine (smin_none hLW a.h ha.h hl).mono ?_
      rintro e w' ⟨rfl, rfl⟩
      exact ⟨rfl, Goes.stay ⟨B, F1, rfl, rfl, hLW⟩ (Upd.refl _ _)⟩
    · obtain ⟨y, hy⟩ : ∃ y : Nat, a.h = y := ⟨a.h.toNat, by
        have : 0 < a.h := Classical.byContradiction fun h' => hl (lenN_neg h')
        omega⟩
      rw [hy] at hl ⊢
      refine (smin_some hLW y (by omega)).mono ?_
      rintro e w' ⟨m, hm, -, rfl, rfl⟩
      rw [hm]
      exact ⟨rfl, Goes.stay ⟨B, F1, rfl, rfl, hLW⟩ (Upd.refl _ _)⟩
  extract := fun {w p F A st g} a ha hk h => by
    obtain ⟨B, F1, rfl, rfl, hL⟩ := h
    refine mth_direct 59 (fun _ _ => by kernel_rfl) (sk_extract _) (fun W hW => ?_)
    have hLW := hL.upd0 hW
    have hst : st ≤ 4611686018427387904 := by obtain ⟨S, hM, -⟩ := hL; exact hM.cells.st62
    have es : stepT sOps A a g = (match minN A a.h with | some m => (setT g a.h.toNat (sOps.del A (g a.h.toNat) m).1, (sOps.del A (g a.h.toNat) m).2) | none => (g, 0)) := by
      unfold stepT; rw [if_neg (by omega), if_pos hk]; rfl
    rw [es]
    unfold extN
    by_cases hl : lenN A a.h = 0
    · rw [minN_none_iff.2 hl]
      dsimp only
      rw [satS_zero hst]
      refine (sextract_none hLW a.h ha.h hl).mono ?_
      rintro e w' ⟨rfl, rfl⟩
      exact ⟨rfl, Goes.stay ⟨B, F1, rfl, rfl, hLW⟩ (Upd.refl _ _)⟩
    · obtain ⟨y, hy⟩ : ∃ y : Nat, a.h = y := ⟨a.h.toNat, by
        have : 0 < a.h := Classical.byContradiction fun h' => hl (lenN_neg h')
        omega⟩
      rw [hy] at hl ⊢
      refine (sextract_some hLW y (by omega)).mono ?_
      rintro e w' ⟨m, hm, rfl, hu, hL2⟩
      rw [hm]
      exact ⟨rfl, Goes.stay ⟨B, F1, rfl, rfl, hL2⟩ hu⟩
  decrease := fun {w p F A st g} a ha hk h => by
    obtain ⟨B, F1, rfl, rfl, hL⟩ := h
    refine mth_direct 144 (fun _ _ => by kernel_rfl) (sk_decrease _) (fun W hW => ?_)
    have hLW := hL.upd0 hW
    have hst : st ≤ 4611686018427387904 := by obtain ⟨S, hM, -⟩ := hL; exact hM.cells.st62
    have es : stepT sOps A a g = if lowB A a.x a.k a.s then (setT g (A.c a.x.toNat).i.toNat (sOps.low (lowN A a.x a.k a.s) (g (A.c a.x.toNat).i.toNat) a.x.toNat).1, (sOps.low (lowN A a.x a.k a.s) (g (A.c a.x.toNat).i.toNat) a.x.toNat).2) else (g, 0) := by
      unfold stepT; rw [if_neg (by omega), if_neg (by omega), if_pos hk]
    rw [es]
    cases hB : lowB A a.x a.k a.s with
    | false =>
      rw [if_neg (by simp)]
      have e2 : lowN A a.x a.k a.s = A := by unfold lowN; rw [hB]; rfl
      rw [e2, satS_zero hst]
      refine (sdec_no hLW a.x a.k a.s hB).mono ?_
      rintro e w' ⟨rfl, hu⟩
      exact ⟨rfl, Goes.stay ⟨B, F1, rfl, rfl, hLW.upd0 hu⟩ (hu.mono (by simp))⟩
    | true =>
      rw [if_pos rfl]
      have hin := low_in hB
      obtain ⟨y, e2⟩ := in_nat hin
      rw [e2] at hB hin ⊢
      have hx : y ∈ (g (A.c y).i.toNat).nodes := by
        obtain ⟨S, hM, hI⟩ := hLW
        have := (inN_nat _ _).1 hin
        exact (hI.mem _ y).2 ⟨by omega, this.1, by omega⟩
      refine (sdec_yes hLW _ y hx a.k a.s ha.k hB).mono ?_
      rintro e w' ⟨rfl, hu, hL2⟩
      exact ⟨rfl, Goes.stay ⟨B, F1, rfl, rfl, hL2⟩ hu⟩
  delete := fun {w p F A st g} a ha hk h => by
    obtain ⟨B, F1, rfl, rfl, hL⟩ := h
    refine mth_direct 81 (fun _ _ => by kernel_rfl) (sk_delete _) (fun W hW => ?_)
    have hLW := hL.upd0 hW
    have hst : st ≤ 4611686018427387904 := by obtain ⟨S, hM, -⟩ := hL; exact hM.cells.st62
    have es : stepT sOps A a g = if inN A a.x then (setT g (A.c a.x.toNat).i.toNat (sOps.del A (g (A.c a.x.toNat).i.toNat) a.x.toNat).1, (sOps.del A (g (A.c a.x.toNat).i.toNat) a.x.toNat).2) else (g, 0) := by
      unfold stepT; rw [if_neg (by omega), if_neg (by omega), if_neg (by omega), if_pos hk]
    rw [es]
    cases hin : inN A a.x with
    | false =>
      rw [if_neg (by simp)]
      have e2 : dropN A a.x = A := by unfold dropN; rw [hin]; rfl
      rw [e2, satS_zero hst]
      refine (sdelete_no hLW a.x hin).mono ?_
      rintro e w' ⟨rfl, rfl⟩
      exact ⟨rfl, Goes.stay ⟨B, F1, rfl, rfl, hLW⟩ (Upd.refl _ _)⟩
    | true =>
      rw [if_pos rfl]
      obtain ⟨y, e2⟩ := in_nat hin
      rw [e2] at hin ⊢
      have hx : y ∈ (g (A.c y).i.toNat).nodes := by
        obtain ⟨S, hM, hI⟩ := hLW
        have := (inN_nat _ _).1 hin
        exact (hI.mem _ y).2 ⟨by omega, this.1, by omega⟩
      refine (sdelete_yes hLW _ y hx).mono ?_
      rintro e w' ⟨rfl, hu, hL2⟩
      exact ⟨rfl, Goes.stay ⟨B, F1, rfl, rfl, hL2⟩ hu⟩
  meld := fun {w p F A st g} a ha hk h => by
    obtain ⟨B, F1, rfl, rfl, hL⟩ := h
    refine mth_direct 145 (fun _ _ => by kernel_rfl) (sk_meld _) (fun W hW => ?_)
    have hLW := hL.upd0 hW
    have hst : st ≤ 4611686018427387904 := by obtain ⟨S, hM, -⟩ := hL; exact hM.cells.st62
    have es : stepT sOps A a g = if joinB A a.h a.x then (setT (setT g a.x.toNat .nil) a.h.toNat (sOps.mrg (joinN A a.h a.x) (g a.h.toNat) (g a.x.toNat)).1, (sOps.mrg (joinN A a.h a.x) (g a.h.toNat) (g a.x.toNat)).2) else (g, 0) := by
      unfold stepT; rw [if_neg (by omega), if_neg (by omega), if_neg (by omega), if_neg (by omega), if_pos hk]
    rw [es]
    cases hB : joinB A a.h a.x with
    | false =>
      rw [if_neg (by simp)]
      have e2 : joinN A a.h a.x = A := by unfold joinN; rw [hB]; rfl
      rw [e2, satS_zero hst]
      refine (smeld_no hLW a.h a.x hB).mono ?_
      rintro e w' ⟨rfl, rfl⟩
      exact ⟨rfl, Goes.stay ⟨B, F1, rfl, rfl, hLW⟩ (Upd.refl _ _)⟩
    | true =>
      rw [if_pos rfl]
      obtain ⟨y, z, e1, e2⟩ := join_nat hB
      rw [e1, e2] at hB ⊢
      refine (smeld_yes hLW y z hB).mono ?_
      rintro e w' ⟨rfl, hu, hL2⟩
      exact ⟨rfl, Goes.stay ⟨B, F1, rfl, rfl, hL2⟩ hu⟩
  has := fun x h => by
    obtain ⟨B, F1, rfl, rfl, S, hM, -⟩ := h
    exact mth_via 19 (fun _ _ => by kernel_rfl) hM.h0 (sk_via_has _ _) (fun W hW => chas_any (hM.upd0 hW).cells x)
  len := fun x hx h => by
    obtain ⟨B, F1, rfl, rfl, S, hM, -⟩ := h
    exact mth_via 20 (fun _ _ => by kernel_rfl) hM.h0 (sk_via_len _ _) (fun W hW => clen_any (hM.upd0 hW).cells x hx)
  entry := fun {w p F A st g} x h => by
    obtain ⟨B, F1, rfl, rfl, S, hM, -⟩ := h
    refine mth_via 134 (fun _ _ => by kernel_rfl) hM.h0 (sk_via_entry _ _) (fun W hW => ?_)
    cases hin : inN A x with
    | false => simpa using centry_no (hM.upd0 hW).cells x hin
    | true =>
      obtain ⟨y, e2⟩ := in_nat hin
      rw [e2] at hin ⊢
      simpa using centry_yes (hM.upd0 hW).cells y hin
  home := fun {w p F A st g} x h => by
    obtain ⟨B, F1, rfl, rfl, hL⟩ := h
    obtain ⟨S, hM, hQ⟩ := hL
    refine mth_via 54 (fun _ _ => by kernel_rfl) hM.h0 (sk_via_home _ _) (fun W hW => ?_)
    have hMW := hM.upd0 hW
    cases hin : inN A x with
    | false =>
      rw [if_neg (by simp)]
      refine (chome_no hMW.cells x hin).mono ?_
      rintro e w' ⟨rfl, rfl⟩
      exact ⟨rfl, Goes.stay ⟨B, F1, rfl, rfl, S, hMW, hQ⟩ (Upd.refl _ _)⟩
    | true =>
      rw [if_pos rfl]
      obtain ⟨y, e2⟩ := in_nat hin
      rw [e2] at hin ⊢
      refine (chome_yes hMW.cells y hin).mono ?_
      rintro e w' ⟨rfl, hC, hu⟩
      exact ⟨rfl, Goes.stay ⟨B, F1, rfl, rfl, S, hMW.setC hu hC (fun y hy => Or.inl hy) rfl, hQ⟩ (hu.mono (fun z hz => by simp only [SB.blk, List.mem_cons]; simp [hz]))⟩
  capacity := fun h => by
    obtain ⟨B, F1, rfl, rfl, S, hM, -⟩ := h
    exact mth_via 17 (fun _ _ => by kernel_rfl) hM.h0 (sk_via_cap _ _) (fun W hW => ccap_any (hM.upd0 hW).cells)
  steps := fun h => by
    obtain ⟨B, F1, rfl, rfl, S, hM, -⟩ := h
    exact mth_via 18 (fun _ _ => by kernel_rfl) hM.h0 (sk_via_steps _ _) (fun W hW => csteps_any (hM.upd0 hW).cells)
end
end Go.Proofs.Ytechoojcgdjcdaa

set_option linter.unusedVariables false
set_option linter.unusedSimpArgs false
namespace Go.Proofs.Ytechoojcgdjcdaa
open Go Go.RowKit

/-- Two trees become one, counted down by a number. -/
def mergeF (up : Nat → BT → BT → BT) (A : NS) : Nat → BT → BT → BT × Nat
  | 0, a, _ => (a, 0)
  | n + 1, .nil, t => (t, 0)
  | n + 1, .node x l r, .nil => (.node x l r, 0)
  | n + 1, .node x l r, .node y l' r' =>
    if lt3 A y x then (up y l' (mergeF up A n r' (.node x l r)).1, (mergeF up A n r' (.node x l r)).2 + 1)
    else (up x l (mergeF up A n r (.node y l' r')).1, (mergeF up A n r (.node y l' r')).2 + 1)
theorem mergeF_eq (up : Nat → BT → BT → BT) (A : NS) : ∀ (n : Nat) (a b : BT), a.size + b.size < n → mergeT up A a b = mergeF up A n a b
  | 0, a, b, h => by omega
  | n + 1, .nil, t, h => by rw [mergeT_nil]; rfl
  | n + 1, .node x l r, .nil, h => by rw [mergeT_nil2]; rfl
  | n + 1, .node x l r, .node y l' r', h => by
    simp only [BT.size] at h
    rw [mergeT_node]
    unfold mergeF
    rw [mergeF_eq up A n r' (.node x l r) (by simp only [BT.size]; omega), mergeF_eq up A n r (.node y l' r') (by simp only [BT.size]; omega)]
def skA : Nat → NS
  | 0 => makeN (NS.new 10)
  | k + 1 => putN (skA k) ((1 : Nat) : Int) ((k : Nat) : Int) ((k : Int) + 1) 0
def skU : Nat → BT × Nat
  | 0 => (.nil, 0)
  | k + 1 => ((mergeF upS (skA (k + 1)) 40 (skU k).1 (single k)).1, (skU k).2 + (mergeF upS (skA (k + 1)) 40 (skU k).1 (single k)).2)
def skB : Nat → NS
  | 0 => skA 10
  | k + 1 => dropN (skB k) ((k : Nat) : Int)
def delF (A : NS) (t : BT) : BT × Nat := match t with | .nil => (.nil, 0) | .node x l r => mergeF upS A 40 l r
def skV : Nat → BT × Nat
  | 0 => skU 10
  | k + 1 => ((delF (skB k) (skV k).1).1, (skV k).2 + (delF (skB k) (skV k).1).2)
theorem sk_put : ∀ k, k < 10 → (putB (skA k) ((1 : Nat) : Int) ((k : Nat) : Int) = true ∧ (skU k).1.size < 11) := by decide +kernel
theorem sk_out : ∀ k, k < 10 → (minN (skB k) ((1 : Nat) : Int) = some k ∧ 0 < lenN (skB k) ((1 : Nat) : Int) ∧ (skV k).1.root = (k : Int) ∧ (skV k).1.size < 11) := by decide +kernel
theorem sk_end : 0 < (skV 10).2 ∧ (skV 10).2 ≤ 2352 := by decide +kernel
theorem path_root {x : Nat} {l r : BT} (hn : (BT.node x l r).nodes.Nodup) : pathOf (.node x l r) x = ([], l, r) := by
  have e := pathOf_eq (t := .node x l r) (x := x) (by simp [BT.nodes])
  generalize pathOf (.node x l r) x = q at e
  obtain ⟨P, a, b⟩ := q
  simp only at e
  cases P with
  | nil => injection e with e1 e2 e3; subst e2 e3; rfl
  | cons f P =>
    exfalso
    rw [e] at hn
    have h1 := (plug_parts hn).1.2.2
    have h2 := plug_rootc f P (.node x a b) .nil
    rw [← e] at h2
    have hne : plug (f :: P) .nil ≠ .nil := by
      show plug P (plug1 f .nil) ≠ .nil
      exact plug_ne P _ (by unfold plug1; split <;> simp)
    have h3 := (root_mem hne).1
    rw [← h2] at h3
    have h4 : (BT.node x l r).root.toNat = x := rfl
    rw [h4, plug_ctx_mem] at h3
    rcases h3 with h3 | h3
    · simp [BT.nodes] at h3
    · exact h1 h3
theorem sdel_root {A : NS} {t : BT} {x : Nat} (hn : t.nodes.Nodup) (hr : t.root = (x : Int)) (hs : t.size < 40) : sdelT A t x = delF A t := by
  cases t with
  | nil => exact absurd hr (by show ¬ (-1 : Int) = x; omega)
  | node y l r =>
    have : y = x := by have e : (y : Int) = x := hr; omega
    subst this
    unfold sdelT delF
    rw [path_root hn]
    simp only [plug]
    simp only [BT.size] at hs
    rw [mergeF_eq upS A 40 l r (by omega)]
def skT (t : BT) (q : Nat) : BT := if q = 1 then t else .nil
theorem skT_set (t t' : BT) : (fun q => if q = 1 then t' else skT t q) = skT t' := by
  funext q; unfold skT; by_cases e : q = 1 <;> simp [e]
theorem skT_nil : skT .nil = fun _ => BT.nil := by funext q; unfold skT; simp
end Go.Proofs.Ytechoojcgdjcdaa

set_option linter.unusedVariables false
set_option linter.unusedSimpArgs false
namespace Go.Proofs.Ytechoojcgdjcdaa
open Go Go.RowKit

set_option maxHeartbeats 4000000 in
theorem salive_any (w : World) : Calls Try.prog 35 #[] w fun e w' => e = .returned (.bool true) ∧ Upd [] w w' := by
  have kn := snew_yes 10 w (by omega)
  rw [show (((10 : Nat) : Int)) = 10 from rfl] at kn
  go_enter Try.func35, Try.ntmps35
  go_wp2_with (first
    | ((go_at_call 36; (with_reducible refine (kn).mono ?_)); rintro e w1 ⟨B, F, rfl, hL, hu1, hb1⟩; obtain ⟨S1, hM1, -⟩ := id hL; (have h01 := hM1.h0); (have km := cmake_any hM1.cells); rw [show makeV (NS.new 10) = 1 from rfl] at km)
    | ((go_at_call 57; (with_reducible refine (km).mono ?_)); rintro e w2 ⟨rfl, F1, hC2, hu2, hF2⟩)
    | fail)
  have hL0 : SkAt w2 B F1 (skA 0) 0 (skT (skU 0).1) := by rw [show (skU 0).1 = .nil from rfl, skT_nil]; exact hL.make (by decide) hu2 hC2 hF2
  have hbF : ∀ x, x ∈ F → w.heap.size ≤ x := fun x hx => hb1 x (by simp [SB.blk, hx])
  have hn : ∀ x, x ∈ B.blk F1 → w.heap.size ≤ x := fun x hx => by
    simp only [SB.blk, List.mem_cons] at hx
    rcases hx with rfl | rfl | rfl | rfl | hx
    · exact hb1 _ (by simp [SB.blk])
    · exact hb1 _ (by simp [SB.blk])
    · exact hb1 _ (by simp [SB.blk])
    · exact hb1 _ (by simp [SB.blk])
    · rcases hF2 x hx with h | h
      · exact hbF x h
      · have := hu1.size; omega
  have hu02 : Upd [] w w2 := hu1.joined hu2 (fun x hx => Or.inr (hbF x hx))
  have HL := Lib.hid hL0
  have HN := Lib.hid hn
  clear hL hL0 hn km kn hF2 hu1 hu2 hM1 h01 hC2 hbF hb1
  go_loopw [3] (fun i wr => ∃ k : Nat, k ≤ 10 ∧ i = .int .i64 (k : Int) ∧ SkAt wr B F1 (skA k) (satS 0 (skU k).2) (skT (skU k).1) ∧ Upd [] w wr) (fun i _ => 10 - (intOf i).toNat)
  case atStart => exact ⟨0, by omega, rfl, HL.out, hu02⟩
  case round =>
    obtain ⟨k, hk, rfl, hLk, hu⟩ := hrel
    by_cases hk3 : k < 10
    · obtain ⟨p1, p2⟩ := sk_put k hk3
      have ki := sinsert_yes hLk 1 k ((k : Int) + 1) 0 (by omega) p1
      have hsz : (skU k).1.size + (single k).size < 40 := by simp only [single, BT.size]; omega
      rw [show putN (skA k) ((1 : Nat) : Int) (k : Int) ((k : Int) + 1) 0 = skA (k + 1) from rfl, show skT (skU k).1 1 = (skU k).1 from rfl, mergeF_eq upS (skA (k + 1)) 40 _ _ hsz, skT_set, satS_add, show (mergeF upS (skA (k + 1)) 40 (skU k).1 (single k)).1 = (skU (k + 1)).1 from rfl, show (skU k).2 + (mergeF upS (skA (k + 1)) 40 (skU k).1 (single k)).2 = (skU (k + 1)).2 from rfl] at ki
      rw [show (((1 : Nat) : Int)) = 1 from rfl] at ki
      clear p1 p2 hLk hsz
      go_wp2_with (first
        | ((go_at_call 58; (with_reducible refine (ki).mono ?_)); rintro e w3 ⟨rfl, hu3, hL3⟩)
        | fail)
      exact ⟨⟨k + 1, by omega, by go_num, hL3, hu.joined hu3 (fun x hx => Or.inr (HN.out x hx))⟩, by simp [intOf]; omega⟩
    · obtain rfl : k = 10 := by omega
      have HLk := Lib.hid hLk
      have HUk := Lib.hid hu
      clear hLk hu
      rw [show (((10 : Nat) : Int)) = 10 from rfl]
      go_wp2
      go_loopw [4] (fun i w5 => ∃ k : Nat, k ≤ 10 ∧ i = .int .i64 (k : Int) ∧ SkAt w5 B F1 (skB k) (satS 0 (skV k).2) (skT (skV k).1) ∧ Upd [] w w5) (fun i _ => 10 - (intOf i).toNat)
      case atStart => exact ⟨0, by omega, rfl, HLk.out, HUk.out⟩
      case round =>
        obtain ⟨k, hk, rfl, hLk, hu⟩ := hrel
        by_cases hk3 : k < 10
        · obtain ⟨p1, p2, p3, p4⟩ := sk_out k hk3
          have hnd : (skV k).1.nodes.Nodup := by obtain ⟨S, -, hI⟩ := hLk; exact hI.nd 1
          have ki := sextract_some hLk 1 p2
          have kf : ∀ m, minN (skB k) ((1 : Nat) : Int) = some m → m = k := fun m hm => by rw [p1] at hm; injection hm with hm; exact hm.symm
          have hd : sdelT (skB k) (skT (skV k).1 1) k = delF (skB k) (skV k).1 := sdel_root (t := (skV k).1) hnd p3 (by omega)
          have KF := Lib.hid (And.intro kf hd)
          rw [show (((1 : Nat) : Int)) = 1 from rfl] at ki
          clear p1 p2 p3 p4 hLk hnd kf hd
          go_wp2_with (first
            | ((go_at_call 59; (with_reducible refine (ki).mono ?_)); rintro e w3 ⟨m, hm, rfl, hu3, hL3⟩; obtain rfl := KF.out.1 m hm)
            | fail)
          rw [KF.out.2, skT_set, satS_add, show (delF (skB m) (skV m).1).1 = (skV (m + 1)).1 from rfl, show (skV m).2 + (delF (skB m) (skV m).1).2 = (skV (m + 1)).2 from rfl] at hL3
          exact ⟨⟨m + 1, by omega, by go_num, hL3, hu.joined hu3 (fun x hx => Or.inr (HN.out x hx))⟩, by simp [intOf]; omega⟩
        · obtain rfl : k = 10 := by omega
          obtain ⟨S6, hM6, -⟩ := hLk
          have h06 := hM6.h0
          have ks := csteps_any hM6.cells
          have he := sk_end
          have hz : satS 0 (skV 10).2 = (skV 10).2 := by unfold satS; omega
          rw [hz] at ks
          generalize (skV 10).2 = z at *
          clear hM6 hz
          go_wp2_with (first
            | (go_at_call 18; (with_reducible refine (ks).mono ?_); rintro e w9 ⟨rfl, hw9⟩; rw [hw9]; clear hw9 w9)
            | fail)
          go_ret
          exact ⟨by first | rfl | exact ret_bool (by simp; omega), hu⟩
theorem snewK_yes (n : Nat) (w : World) (h : n ≤ 65536) : Calls Try.prog 36 #[.int .i64 (n : Int)] w fun e w' => ∃ p F, e = .returned (.tuple #[.pointer (some ⟨p, 0, none⟩), .int .i64 0]) ∧ nestSk.at_ w' p F (NS.new n) 0 (fun _ => BT.nil) ∧ Upd [] w w' ∧ ∀ x, x ∈ F → w.heap.size ≤ x := by
  refine (snew_yes n w h).mono ?_
  rintro e w' ⟨B, F, rfl, hL, hu, hb⟩
  exact ⟨_, _, rfl, ⟨B, F, rfl, rfl, hL⟩, hu, hb⟩
theorem sk_ty : nestSk.ty = 74 := rfl
end Go.Proofs.Ytechoojcgdjcdaa
