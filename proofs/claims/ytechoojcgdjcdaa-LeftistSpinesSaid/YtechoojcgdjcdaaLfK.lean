/-
  Leftist heaps are a nest of a kind. Conditions: none.
-/
import Derived.Test.YtechoojcgdjcdaaGh
import Derived.Test.YtechoojcgdjcdaaGj
import Derived.Test.YtechoojcgdjcdaaTOps
set_option linter.unusedVariables false
set_option linter.unusedSimpArgs false
namespace Go.Proofs.Ytechoojcgdjcdaa
open Go Go.RowKit

noncomputable def lOps : TOps := ⟨mergeT settleT, ldelT, llowT⟩
def LfK (w : World) (p : Nat) (F : List Nat) (A : NS) (st : Nat) (tr : Nat → BT) : Prop := ∃ B F1 gt ct, p = B.n0 ∧ F = B.blk F1 gt ∧ LfAt w B F1 gt ct A st tr
theorem lf_via_has (p c : Nat) : ∀ W : World, W.cell? ⟨p, 0, none⟩ = some (.pointer (some ⟨c, 0, none⟩)) → (method 261 23 (.pointer (some ⟨p, 0, none⟩)) "Has").run Try.prog W = .ok (19, .pointer (some ⟨c, 0, none⟩)) W := (by intro W h; unfold method; have hm : ∃ m, (Array.find? (fun x => x.name == "Has") Try.t23.methods) = some m ∧ m.path.toList = [⟨32, 0, true⟩] ∧ m.func = some (19, true) ∧ m.path.isEmpty = false := ⟨(Array.find? (fun x => x.name == "Has") Try.t23.methods).get!, by kernel_rfl, by kernel_rfl, by kernel_rfl, by kernel_rfl⟩; obtain ⟨m, h1, h2, h3, h4⟩ := hm; go_simp; simp only [follow, Place.get]; go_simp; (try unfold receiverAt); (try simp only [Place.get]); (try go_simp))
theorem lf_via_len (p c : Nat) : ∀ W : World, W.cell? ⟨p, 0, none⟩ = some (.pointer (some ⟨c, 0, none⟩)) → (method 261 23 (.pointer (some ⟨p, 0, none⟩)) "Len").run Try.prog W = .ok (20, .pointer (some ⟨c, 0, none⟩)) W := (by intro W h; unfold method; have hm : ∃ m, (Array.find? (fun x => x.name == "Len") Try.t23.methods) = some m ∧ m.path.toList = [⟨32, 0, true⟩] ∧ m.func = some (20, true) ∧ m.path.isEmpty = false := ⟨(Array.find? (fun x => x.name == "Len") Try.t23.methods).get!, by kernel_rfl, by kernel_rfl, by kernel_rfl, by kernel_rfl⟩; obtain ⟨m, h1, h2, h3, h4⟩ := hm; go_simp; simp only [follow, Place.get]; go_simp; (try unfold receiverAt); (try simp only [Place.get]); (try go_simp))
theorem lf_via_entry (p c : Nat) : ∀ W : World, W.cell? ⟨p, 0, none⟩ = some (.pointer (some ⟨c, 0, none⟩)) → (method 261 23 (.pointer (some ⟨p, 0, none⟩)) "Entry").run Try.prog W = .ok (134, .pointer (some ⟨c, 0, none⟩)) W := (by intro W h; unfold method; have hm : ∃ m, (Array.find? (fun x => x.name == "Entry") Try.t23.methods) = some m ∧ m.path.toList = [⟨32, 0, true⟩] ∧ m.func = some (134, true) ∧ m.path.isEmpty = false := ⟨(Array.find? (fun x => x.name == "Entry") Try.t23.methods).get!, by kernel_rfl, by kernel_rfl, by kernel_rfl, by kernel_rfl⟩; obtain ⟨m, h1, h2, h3, h4⟩ := hm; go_simp; simp only [follow, Place.get]; go_simp; (try unfold receiverAt); (try simp only [Place.get]); (try go_simp))
theorem lf_via_home (p c : Nat) : ∀ W : World, W.cell? ⟨p, 0, none⟩ = some (.pointer (some ⟨c, 0, none⟩)) → (method 261 23 (.pointer (some ⟨p, 0, none⟩)) "Home").run Try.prog W = .ok (54, .pointer (some ⟨c, 0, none⟩)) W := (by intro W h; unfold method; have hm : ∃ m, (Array.find? (fun x => x.name == "Home") Try.t23.methods) = some m ∧ m.path.toList = [⟨32, 0, true⟩] ∧ m.func = some (54, true) ∧ m.path.isEmpty = false := ⟨(Array.find? (fun x => x.name == "Home") Try.t23.methods).get!, by kernel_rfl, by kernel_rfl, by kernel_rfl, by kernel_rfl⟩; obtain ⟨m, h1, h2, h3, h4⟩ := hm; go_simp; simp only [follow, Place.get]; go_simp; (try unfold receiverAt); (try simp only [Place.get]); (try go_simp))
theorem lf_via_cap (p c : Nat) : ∀ W : World, W.cell? ⟨p, 0, none⟩ = some (.pointer (some ⟨c, 0, none⟩)) → (method 261 23 (.pointer (some ⟨p, 0, none⟩)) "Capacity").run Try.prog W = .ok (17, .pointer (some ⟨c, 0, none⟩)) W := (by intro W h; unfold method; have hm : ∃ m, (Array.find? (fun x => x.name == "Capacity") Try.t23.methods) = some m ∧ m.path.toList = [⟨32, 0, true⟩] ∧ m.func = some (17, true) ∧ m.path.isEmpty = false := ⟨(Array.find? (fun x => x.name == "Capacity") Try.t23.methods).get!, by kernel_rfl, by kernel_rfl, by kernel_rfl, by kernel_rfl⟩; obtain ⟨m, h1, h2, h3, h4⟩ := hm; go_simp; simp only [follow, Place.get]; go_simp; (try unfold receiverAt); (try simp only [Place.get]); (try go_simp))
theorem lf_via_steps (p c : Nat) : ∀ W : World, W.cell? ⟨p, 0, none⟩ = some (.pointer (some ⟨c, 0, none⟩)) → (method 261 23 (.pointer (some ⟨p, 0, none⟩)) "Steps").run Try.prog W = .ok (18, .pointer (some ⟨c, 0, none⟩)) W := (by intro W h; unfold method; have hm : ∃ m, (Array.find? (fun x => x.name == "Steps") Try.t23.methods) = some m ∧ m.path.toList = [⟨32, 0, true⟩, ⟨39, 0, true⟩] ∧ m.func = some (18, true) ∧ m.path.isEmpty = false := ⟨(Array.find? (fun x => x.name == "Steps") Try.t23.methods).get!, by kernel_rfl, by kernel_rfl, by kernel_rfl, by kernel_rfl⟩; obtain ⟨m, h1, h2, h3, h4⟩ := hm; go_simp; simp only [follow, Place.get]; go_simp; (try unfold receiverAt); (try simp only [Place.get]); (try go_simp))
theorem lf_make (p : Nat) : ∀ W : World, (method 261 23 (.pointer (some ⟨p, 0, none⟩)) "Make").run Try.prog W = .ok (39, .pointer (some ⟨p, 0, none⟩)) W := fun _ => by kernel_rfl
theorem lf_insert (p : Nat) : ∀ W : World, (method 261 23 (.pointer (some ⟨p, 0, none⟩)) "Insert").run Try.prog W = .ok (40, .pointer (some ⟨p, 0, none⟩)) W := fun _ => by kernel_rfl
theorem lf_min (p : Nat) : ∀ W : World, (method 261 23 (.pointer (some ⟨p, 0, none⟩)) "Min").run Try.prog W = .ok (137, .pointer (some ⟨p, 0, none⟩)) W := fun _ => by kernel_rfl
theorem lf_extract (p : Nat) : ∀ W : World, (method 261 23 (.pointer (some ⟨p, 0, none⟩)) "Extract").run Try.prog W = .ok (135, .pointer (some ⟨p, 0, none⟩)) W := fun _ => by kernel_rfl
theorem lf_decrease (p : Nat) : ∀ W : World, (method 261 23 (.pointer (some ⟨p, 0, none⟩)) "Decrease").run Try.prog W = .ok (132, .pointer (some ⟨p, 0, none⟩)) W := fun _ => by kernel_rfl
theorem lf_delete (p : Nat) : ∀ W : World, (method 261 23 (.pointer (some ⟨p, 0, none⟩)) "Delete").run Try.prog W = .ok (133, .pointer (some ⟨p, 0, none⟩)) W := fun _ => by kernel_rfl
theorem lf_meld (p : Nat) : ∀ W : World, (method 261 23 (.pointer (some ⟨p, 0, none⟩)) "Meld").run Try.prog W = .ok (136, .pointer (some ⟨p, 0, none⟩)) W := fun _ => by kernel_rfl
section
variable {w : World} {p : Nat} {F : List Nat} {A : NS} {st : Nat} {tr : Nat → BT}
theorem LfK.same (h : LfK w p F A st tr) {W w' : World} (hu : Upd F W w') {A' : NS} {st' : Nat} {tr' : Nat → BT} (hK : LfK w' p F A' st' tr') : Goes F W w' (fun F' => LfK w' p F' A' st' tr') := Goes.stay hK hu
noncomputable def nestLf : NestK where
  ty := 23
  G := Nat → BT
  at_ := LfK
  cost := fun A a tr => (stepT lOps A a tr).2
  next := fun A a tr => (stepT lOps A a tr).1
  upd := fun h hu hS => by
    obtain ⟨B, F1, gt, ct, rfl, rfl, hL⟩ := h
    exact ⟨B, F1, gt, ct, rfl, rfl, hL.upd hu hS⟩
  lt := fun h => by
    obtain ⟨B, F1, gt, ct, rfl, rfl, S, rk, tops, hM, -⟩ := h
    exact hM.lt
  ok := fun h => by
    obtain ⟨B, F1, gt, ct, rfl, rfl, S, rk, tops, hM, -⟩ := h
    exact hM.cells.ok
  st62 := fun h => by
    obtain ⟨B, F1, gt, ct, rfl, rfl, S, rk, tops, hM, -⟩ := h
    exact hM.cells.st62
  idle := fun A a g h => by
    rw [stepT_idle lOps A a g ⟨h.2.1, h.2.2.2.1, h.2.2.2.2.1, h.2.2.2.2.2.1, h.2.2.2.2.2.2⟩]; exact ⟨rfl, rfl⟩
  make := fun {w p F A st g} hh x k s h => by
    obtain ⟨B, F1, gt, ct, rfl, rfl, hL⟩ := h
    refine mth_direct 39 (fun _ _ => by kernel_rfl) (lf_make _) (fun W hW => ?_)
    have hLW := hL.upd0 hW
    have hst : st ≤ 4611686018427387904 := by obtain ⟨S, rk, tops, hM, -⟩ := hL; exact hM.cells.st62
    rw [stepT_idle lOps A ⟨0, hh, x, k, s⟩ g ⟨by simp, by simp, by simp, by simp, by simp⟩, satS_zero hst]
    by_cases hl : 65536 < A.hs.length
    · have e1 : makeV A = 0 := by unfold makeV; rw [if_pos hl]
      have e2 : makeN A = A := by unfold makeN; rw [if_pos hl]
      rw [e1, e2]
      refine (lmake_no hLW hl).mono ?_
      rintro e w' ⟨rfl, F', ⟨F2, rfl, hL2⟩, hu, hf⟩
      exact ⟨rfl, _, ⟨B, F2, gt, ct, rfl, rfl, hL2⟩, hu, hf⟩
    · have e1 : makeV A = A.hs.length := by unfold makeV; rw [if_neg hl]
      rw [e1]
      refine (lmake_yes hLW hl).mono ?_
      rintro e w' ⟨rfl, F', ⟨F2, gt2, ct2, rfl, hL2⟩, hu, hf⟩
      exact ⟨rfl, _, ⟨B, F2, gt2, ct2, rfl, rfl, hL2⟩, hu, hf⟩
  insert := fun {w p F A st g} a ha hk h => by
    obtain ⟨B, F1, gt, ct, rfl, rfl, hL⟩ := h
    refine mth_direct 40 (fun _ _ => by kernel_rfl) (lf_insert _) (fun W hW => ?_)
    have hLW := hL.upd0 hW
    have hst : st ≤ 4611686018427387904 := by obtain ⟨S, rk, tops, hM, -⟩ := hL; exact hM.cells.st62
    have es : stepT lOps A a g = if putB A a.h a.x then (setT g a.h.toNat (lOps.mrg (putN A a.h a.x a.k a.s) (g a.h.toNat) (single a.x.toNat)).1, (lOps.mrg (putN A a.h a.x a.k a.s) (g a.h.toNat) (single a.x.toNat)).2) else (g, 0) := by unfold stepT; rw [if_pos hk]
    rw [es]
    cases hB : putB A a.h a.x with
    | false =>
      rw [if_neg (by simp)]
      have e2 : putN A a.h a.x a.k a.s = A := by unfold putN; rw [hB]; rfl
      rw [e2, satS_zero hst]
      refine (linsert_no hLW a.h a.x a.k a.s hB).mono ?_
      rintro e w' ⟨rfl, hu⟩
      exact ⟨rfl, Goes.stay ⟨B, F1, gt, ct, rfl, rfl, hLW.upd0 hu⟩ (hu.mono (by simp))⟩
    | true =>
      rw [if_pos rfl]
      obtain ⟨hh, y, e1, e2⟩ := put_nat hB
      rw [e1, e2] at hB ⊢
      refine (linsert_yes hLW hh y a.k a.s ha.k hB).mono ?_
      rintro e w' ⟨rfl, hu, hL2⟩
      exact ⟨rfl, Goes.stay ⟨B, F1, gt, ct, rfl, rfl, hL2⟩ hu⟩
  min := fun {w p F A st g} a ha hk h => by
    obtain ⟨B, F1, gt, ct, rfl, rfl, hL⟩ := h
    refine mth_direct 137 (fun _ _ => by kernel_rfl) (lf_min _) (fun W hW => ?_)
    have hLW := hL.upd0 hW
    have hst : st ≤ 4611686018427387904 := by obtain ⟨S, rk, tops, hM, -⟩ := hL; exact hM.cells.st62
    rw [stepT_idle lOps A a g (by rw [hk]; exact ⟨by decide, by decide, by decide, by decide, by decide⟩), satS_zero hst]
    by_cases hl : lenN A a.h = 0
    · rw [minN_none_iff.2 hl]
      refine (lmin_none hLW a.h ha.h hl).mono ?_
      rintro e w' ⟨rfl, rfl⟩
      exact ⟨rfl, Goes.stay ⟨B, F1, gt, ct, rfl, rfl, hLW⟩ (Upd.refl _ _)⟩
    · obtain ⟨y, hy⟩ : ∃ y : Nat, a.h = y := ⟨a.h.toNat, by
        have : 0 < a.h := Classical.byContradiction fun h' => hl (lenN_neg h')
        omega⟩
      rw [hy] at hl ⊢
      refine (lmin_some hLW y (by omega)).mono ?_
      rintro e w' ⟨m, hm, -, rfl, rfl⟩
      rw [hm]
      exact ⟨rfl, Goes.stay ⟨B, F1, gt, ct, rfl, rfl, hLW⟩ (Upd.refl _ _)⟩
  extract := fun {w p F A st g} a ha hk h => by
    obtain ⟨B, F1, gt, ct, rfl, rfl, hL⟩ := h
    refine mth_direct 135 (fun _ _ => by kernel_rfl) (lf_extract _) (fun W hW => ?_)
    have hLW := hL.upd0 hW
    have hst : st ≤ 4611686018427387904 := by obtain ⟨S, rk, tops, hM, -⟩ := hL; exact hM.cells.st62
    have es : stepT lOps A a g = (match minN A a.h with | some m => (setT g a.h.toNat (lOps.del A (g a.h.toNat) m).1, (lOps.del A (g a.h.toNat) m).2) | none => (g, 0)) := by
      unfold stepT; rw [if_neg (by omega), if_pos hk]; rfl
    rw [es]
    unfold extN
    by_cases hl : lenN A a.h = 0
    · rw [minN_none_iff.2 hl]
      dsimp only
      rw [satS_zero hst]
      refine (lextract_none hLW a.h ha.h hl).mono ?_
      rintro e w' ⟨rfl, rfl⟩
      exact ⟨rfl, Goes.stay ⟨B, F1, gt, ct, rfl, rfl, hLW⟩ (Upd.refl _ _)⟩
    · obtain ⟨y, hy⟩ : ∃ y : Nat, a.h = y := ⟨a.h.toNat, by
        have : 0 < a.h := Classical.byContradiction fun h' => hl (lenN_neg h')
        omega⟩
      rw [hy] at hl ⊢
      refine (lextract_some hLW y (by omega)).mono ?_
      rintro e w' ⟨m, hm, rfl, hu, hL2⟩
      rw [hm]
      exact ⟨rfl, Goes.stay ⟨B, F1, gt, ct, rfl, rfl, hL2⟩ hu⟩
  decrease := fun {w p F A st g} a ha hk h => by
    obtain ⟨B, F1, gt, ct, rfl, rfl, hL⟩ := h
    refine mth_direct 132 (fun _ _ => by kernel_rfl) (lf_decrease _) (fun W hW => ?_)
    have hLW := hL.upd0 hW
    have hst : st ≤ 4611686018427387904 := by obtain ⟨S, rk, tops, hM, -⟩ := hL; exact hM.cells.st62
    have es : stepT lOps A a g = if lowB A a.x a.k a.s then (setT g (A.c a.x.toNat).i.toNat (lOps.low (lowN A a.x a.k a.s) (g (A.c a.x.toNat).i.toNat) a.x.toNat).1, (lOps.low (lowN A a.x a.k a.s) (g (A.c a.x.toNat).i.toNat) a.x.toNat).2) else (g, 0) := by
      unfold stepT; rw [if_neg (by omega), if_neg (by omega), if_pos hk]
    rw [es]
    cases hB : lowB A a.x a.k a.s with
    | false =>
      rw [if_neg (by simp)]
      have e2 : lowN A a.x a.k a.s = A := by unfold lowN; rw [hB]; rfl
      rw [e2, satS_zero hst]
      refine (ldec_no hLW a.x a.k a.s hB).mono ?_
      rintro e w' ⟨rfl, hu⟩
      exact ⟨rfl, Goes.stay ⟨B, F1, gt, ct, rfl, rfl, hLW.upd0 hu⟩ (hu.mono (by simp))⟩
    | true =>
      rw [if_pos rfl]
      have hin := low_in hB
      obtain ⟨y, e2⟩ := in_nat hin
      rw [e2] at hB hin ⊢
      have hx : y ∈ (g (A.c y).i.toNat).nodes := by
        obtain ⟨S, rk, tops, hM, hI, -⟩ := hLW
        have := (inN_nat _ _).1 hin
        exact (hI.mem _ y).2 ⟨by omega, this.1, by omega⟩
      refine (ldec_yes hLW _ y hx a.k a.s ha.k hB).mono ?_
      rintro e w' ⟨rfl, hu, hL2⟩
      exact ⟨rfl, Goes.stay ⟨B, F1, gt, ct, rfl, rfl, hL2⟩ hu⟩
  delete := fun {w p F A st g} a ha hk h => by
    obtain ⟨B, F1, gt, ct, rfl, rfl, hL⟩ := h
    refine mth_direct 133 (fun _ _ => by kernel_rfl) (lf_delete _) (fun W hW => ?_)
    have hLW := hL.upd0 hW
    have hst : st ≤ 4611686018427387904 := by obtain ⟨S, rk, tops, hM, -⟩ := hL; exact hM.cells.st62
    have es : stepT lOps A a g = if inN A a.x then (setT g (A.c a.x.toNat).i.toNat (lOps.del A (g (A.c a.x.toNat).i.toNat) a.x.toNat).1, (lOps.del A (g (A.c a.x.toNat).i.toNat) a.x.toNat).2) else (g, 0) := by
      unfold stepT; rw [if_neg (by omega), if_neg (by omega), if_neg (by omega), if_pos hk]
    rw [es]
    cases hin : inN A a.x with
    | false =>
      rw [if_neg (by simp)]
      have e2 : dropN A a.x = A := by unfold dropN; rw [hin]; rfl
      rw [e2, satS_zero hst]
      refine (ldelete_no hLW a.x hin).mono ?_
      rintro e w' ⟨rfl, rfl⟩
      exact ⟨rfl, Goes.stay ⟨B, F1, gt, ct, rfl, rfl, hLW⟩ (Upd.refl _ _)⟩
    | true =>
      rw [if_pos rfl]
      obtain ⟨y, e2⟩ := in_nat hin
      rw [e2] at hin ⊢
      have hx : y ∈ (g (A.c y).i.toNat).nodes := by
        obtain ⟨S, rk, tops, hM, hI, -⟩ := hLW
        have := (inN_nat _ _).1 hin
        exact (hI.mem _ y).2 ⟨by omega, this.1, by omega⟩
      refine (ldelete_yes hLW _ y hx).mono ?_
      rintro e w' ⟨rfl, hu, hL2⟩
      exact ⟨rfl, Goes.stay ⟨B, F1, gt, ct, rfl, rfl, hL2⟩ hu⟩
  meld := fun {w p F A st g} a ha hk h => by
    obtain ⟨B, F1, gt, ct, rfl, rfl, hL⟩ := h
    refine mth_direct 136 (fun _ _ => by kernel_rfl) (lf_meld _) (fun W hW => ?_)
    have hLW := hL.upd0 hW
    have hst : st ≤ 4611686018427387904 := by obtain ⟨S, rk, tops, hM, -⟩ := hL; exact hM.cells.st62
    have es : stepT lOps A a g = if joinB A a.h a.x then (setT (setT g a.x.toNat .nil) a.h.toNat (lOps.mrg (joinN A a.h a.x) (g a.h.toNat) (g a.x.toNat)).1, (lOps.mrg (joinN A a.h a.x) (g a.h.toNat) (g a.x.toNat)).2) else (g, 0) := by
      unfold stepT; rw [if_neg (by omega), if_neg (by omega), if_neg (by omega), if_neg (by omega), if_pos hk]
    rw [es]
    cases hB : joinB A a.h a.x with
    | false =>
      rw [if_neg (by simp)]
      have e2 : joinN A a.h a.x = A := by unfold joinN; rw [hB]; rfl
      rw [e2, satS_zero hst]
      refine (lmeld_no hLW a.h a.x hB).mono ?_
      rintro e w' ⟨rfl, rfl⟩
      exact ⟨rfl, Goes.stay ⟨B, F1, gt, ct, rfl, rfl, hLW⟩ (Upd.refl _ _)⟩
    | true =>
      rw [if_pos rfl]
      obtain ⟨y, z, e1, e2⟩ := join_nat hB
      rw [e1, e2] at hB ⊢
      refine (lmeld_yes hLW y z hB).mono ?_
      rintro e w' ⟨rfl, hu, hL2⟩
      exact ⟨rfl, Goes.stay ⟨B, F1, gt, ct, rfl, rfl, hL2⟩ hu⟩
  has := fun x h => by
    obtain ⟨B, F1, gt, ct, rfl, rfl, S, rk, tops, hM, -⟩ := h
    exact mth_via 19 (fun _ _ => by kernel_rfl) hM.h0 (lf_via_has _ _) (fun W hW => chas_any (hM.upd0 hW).cells x)
  len := fun x hx h => by
    obtain ⟨B, F1, gt, ct, rfl, rfl, S, rk, tops, hM, -⟩ := h
    exact mth_via 20 (fun _ _ => by kernel_rfl) hM.h0 (lf_via_len _ _) (fun W hW => clen_any (hM.upd0 hW).cells x hx)
  entry := fun {w p F A st g} x h => by
    obtain ⟨B, F1, gt, ct, rfl, rfl, S, rk, tops, hM, -⟩ := h
    refine mth_via 134 (fun _ _ => by kernel_rfl) hM.h0 (lf_via_entry _ _) (fun W hW => ?_)
    cases hin : inN A x with
    | false => simpa using centry_no (hM.upd0 hW).cells x hin
    | true =>
      obtain ⟨y, e2⟩ := in_nat hin
      rw [e2] at hin ⊢
      simpa using centry_yes (hM.upd0 hW).cells y hin
  home := fun {w p F A st g} x h => by
    obtain ⟨B, F1, gt, ct, rfl, rfl, hL⟩ := h
    obtain ⟨S, rk, tops, hM, hQ⟩ := hL
    refine mth_via 54 (fun _ _ => by kernel_rfl) hM.h0 (lf_via_home _ _) (fun W hW => ?_)
    have hMW := hM.upd0 hW
    cases hin : inN A x with
    | false =>
      rw [if_neg (by simp)]
      refine (chome_no hMW.cells x hin).mono ?_
      rintro e w' ⟨rfl, rfl⟩
      exact ⟨rfl, Goes.stay ⟨B, F1, gt, ct, rfl, rfl, S, rk, tops, hMW, hQ⟩ (Upd.refl _ _)⟩
    | true =>
      rw [if_pos rfl]
      obtain ⟨y, e2⟩ := in_nat hin
      rw [e2] at hin ⊢
      refine (chome_yes hMW.cells y hin).mono ?_
      rintro e w' ⟨rfl, hC, hu⟩
      exact ⟨rfl, Goes.stay ⟨B, F1, gt, ct, rfl, rfl, S, rk, tops, hMW.setC hu hC (fun y hy => Or.inl hy) rfl rfl, hQ⟩ (hu.mono (fun z hz => by simp only [LB.blk, List.mem_cons]; simp [hz]))⟩
  capacity := fun h => by
    obtain ⟨B, F1, gt, ct, rfl, rfl, S, rk, tops, hM, -⟩ := h
    exact mth_via 17 (fun _ _ => by kernel_rfl) hM.h0 (lf_via_cap _ _) (fun W hW => ccap_any (hM.upd0 hW).cells)
  steps := fun h => by
    obtain ⟨B, F1, gt, ct, rfl, rfl, S, rk, tops, hM, -⟩ := h
    exact mth_via 18 (fun _ _ => by kernel_rfl) hM.h0 (lf_via_steps _ _) (fun W hW => csteps_any (hM.upd0 hW).cells)
end
end Go.Proofs.Ytechoojcgdjcdaa
