/-
  Binomial heaps are a nest of a kind. Conditions: none.
-/
import Derived.Test.YtighgbdijagolaaBn8
set_option linter.unusedVariables false
set_option linter.unusedSimpArgs false
namespace Go.Proofs.Ytighgbdijagolaa
open Go Go.RowKit

/-- What is behind something done, and how often slots were held against one another. -/
def stepB (A : NS) (a : AC) (G : BG) : BG × Nat :=
  if a.kind = 1 then (if putB A a.h a.x then (putG (putN A a.h a.x a.k a.s) a.h.toNat a.x.toNat G, putQ (putN A a.h a.x a.k a.s) a.h.toNat a.x.toNat G) else (G, 0))
  else if a.kind = 2 then (G, minC A G a.h)
  else if a.kind = 3 then (extG A a.h G, extC A a.h G)
  else if a.kind = 4 then (if lowB A a.x a.k a.s then decL (lowN A a.x a.k a.s) a.x.toNat G else (G, 0))
  else if a.kind = 5 then (if inN A a.x then (delG A a.x.toNat G, delQ A a.x.toNat G) else (G, 0))
  else if a.kind = 6 then (if joinB A a.h a.x then (meldG (joinN A a.h a.x) a.h.toNat a.x.toNat G, meldQ (joinN A a.h a.x) a.h.toNat a.x.toNat G) else (G, 0))
  else (G, 0)
theorem bn_via_has (p c : Nat) : ∀ W : World, W.cell? ⟨p, 0, none⟩ = some (.pointer (some ⟨c, 0, none⟩)) → (method 282 23 (.pointer (some ⟨p, 0, none⟩)) "Has").run Try.prog W = .ok (20, .pointer (some ⟨c, 0, none⟩)) W := (by intro W h; unfold method; have hm : ∃ m, (Array.find? (fun x => x.name == "Has") Try.t23.methods) = some m ∧ m.path.toList = [⟨32, 0, true⟩] ∧ m.func = some (20, true) ∧ m.path.isEmpty = false := ⟨(Array.find? (fun x => x.name == "Has") Try.t23.methods).get!, by kernel_rfl, by kernel_rfl, by kernel_rfl, by kernel_rfl⟩; obtain ⟨m, h1, h2, h3, h4⟩ := hm; go_simp; simp only [follow, Place.get]; go_simp; (try unfold receiverAt); (try simp only [Place.get]); (try go_simp))
theorem bn_via_len (p c : Nat) : ∀ W : World, W.cell? ⟨p, 0, none⟩ = some (.pointer (some ⟨c, 0, none⟩)) → (method 282 23 (.pointer (some ⟨p, 0, none⟩)) "Len").run Try.prog W = .ok (21, .pointer (some ⟨c, 0, none⟩)) W := (by intro W h; unfold method; have hm : ∃ m, (Array.find? (fun x => x.name == "Len") Try.t23.methods) = some m ∧ m.path.toList = [⟨32, 0, true⟩] ∧ m.func = some (21, true) ∧ m.path.isEmpty = false := ⟨(Array.find? (fun x => x.name == "Len") Try.t23.methods).get!, by kernel_rfl, by kernel_rfl, by kernel_rfl, by kernel_rfl⟩; obtain ⟨m, h1, h2, h3, h4⟩ := hm; go_simp; simp only [follow, Place.get]; go_simp; (try unfold receiverAt); (try simp only [Place.get]); (try go_simp))
theorem bn_via_entry (p c : Nat) : ∀ W : World, W.cell? ⟨p, 0, none⟩ = some (.pointer (some ⟨c, 0, none⟩)) → (method 282 23 (.pointer (some ⟨p, 0, none⟩)) "Entry").run Try.prog W = .ok (142, .pointer (some ⟨c, 0, none⟩)) W := (by intro W h; unfold method; have hm : ∃ m, (Array.find? (fun x => x.name == "Entry") Try.t23.methods) = some m ∧ m.path.toList = [⟨32, 0, true⟩] ∧ m.func = some (142, true) ∧ m.path.isEmpty = false := ⟨(Array.find? (fun x => x.name == "Entry") Try.t23.methods).get!, by kernel_rfl, by kernel_rfl, by kernel_rfl, by kernel_rfl⟩; obtain ⟨m, h1, h2, h3, h4⟩ := hm; go_simp; simp only [follow, Place.get]; go_simp; (try unfold receiverAt); (try simp only [Place.get]); (try go_simp))
theorem bn_via_home (p c : Nat) : ∀ W : World, W.cell? ⟨p, 0, none⟩ = some (.pointer (some ⟨c, 0, none⟩)) → (method 282 23 (.pointer (some ⟨p, 0, none⟩)) "Home").run Try.prog W = .ok (66, .pointer (some ⟨c, 0, none⟩)) W := (by intro W h; unfold method; have hm : ∃ m, (Array.find? (fun x => x.name == "Home") Try.t23.methods) = some m ∧ m.path.toList = [⟨32, 0, true⟩] ∧ m.func = some (66, true) ∧ m.path.isEmpty = false := ⟨(Array.find? (fun x => x.name == "Home") Try.t23.methods).get!, by kernel_rfl, by kernel_rfl, by kernel_rfl, by kernel_rfl⟩; obtain ⟨m, h1, h2, h3, h4⟩ := hm; go_simp; simp only [follow, Place.get]; go_simp; (try unfold receiverAt); (try simp only [Place.get]); (try go_simp))
theorem bn_via_cap (p c : Nat) : ∀ W : World, W.cell? ⟨p, 0, none⟩ = some (.pointer (some ⟨c, 0, none⟩)) → (method 282 23 (.pointer (some ⟨p, 0, none⟩)) "Capacity").run Try.prog W = .ok (18, .pointer (some ⟨c, 0, none⟩)) W := (by intro W h; unfold method; have hm : ∃ m, (Array.find? (fun x => x.name == "Capacity") Try.t23.methods) = some m ∧ m.path.toList = [⟨32, 0, true⟩] ∧ m.func = some (18, true) ∧ m.path.isEmpty = false := ⟨(Array.find? (fun x => x.name == "Capacity") Try.t23.methods).get!, by kernel_rfl, by kernel_rfl, by kernel_rfl, by kernel_rfl⟩; obtain ⟨m, h1, h2, h3, h4⟩ := hm; go_simp; simp only [follow, Place.get]; go_simp; (try unfold receiverAt); (try simp only [Place.get]); (try go_simp))
theorem bn_via_steps (p c : Nat) : ∀ W : World, W.cell? ⟨p, 0, none⟩ = some (.pointer (some ⟨c, 0, none⟩)) → (method 282 23 (.pointer (some ⟨p, 0, none⟩)) "Steps").run Try.prog W = .ok (19, .pointer (some ⟨c, 0, none⟩)) W := (by intro W h; unfold method; have hm : ∃ m, (Array.find? (fun x => x.name == "Steps") Try.t23.methods) = some m ∧ m.path.toList = [⟨32, 0, true⟩, ⟨39, 0, true⟩] ∧ m.func = some (19, true) ∧ m.path.isEmpty = false := ⟨(Array.find? (fun x => x.name == "Steps") Try.t23.methods).get!, by kernel_rfl, by kernel_rfl, by kernel_rfl, by kernel_rfl⟩; obtain ⟨m, h1, h2, h3, h4⟩ := hm; go_simp; simp only [follow, Place.get]; go_simp; (try unfold receiverAt); (try simp only [Place.get]); (try go_simp))
theorem bn_make' (p : Nat) : ∀ W : World, (method 282 23 (.pointer (some ⟨p, 0, none⟩)) "Make").run Try.prog W = .ok (42, .pointer (some ⟨p, 0, none⟩)) W := fun _ => by kernel_rfl
theorem bn_insert (p : Nat) : ∀ W : World, (method 282 23 (.pointer (some ⟨p, 0, none⟩)) "Insert").run Try.prog W = .ok (43, .pointer (some ⟨p, 0, none⟩)) W := fun _ => by kernel_rfl
theorem bn_min' (p : Nat) : ∀ W : World, (method 282 23 (.pointer (some ⟨p, 0, none⟩)) "Min").run Try.prog W = .ok (145, .pointer (some ⟨p, 0, none⟩)) W := fun _ => by kernel_rfl
theorem bn_extract (p : Nat) : ∀ W : World, (method 282 23 (.pointer (some ⟨p, 0, none⟩)) "Extract").run Try.prog W = .ok (143, .pointer (some ⟨p, 0, none⟩)) W := fun _ => by kernel_rfl
theorem bn_decrease (p : Nat) : ∀ W : World, (method 282 23 (.pointer (some ⟨p, 0, none⟩)) "Decrease").run Try.prog W = .ok (140, .pointer (some ⟨p, 0, none⟩)) W := fun _ => by kernel_rfl
theorem bn_delete (p : Nat) : ∀ W : World, (method 282 23 (.pointer (some ⟨p, 0, none⟩)) "Delete").run Try.prog W = .ok (141, .pointer (some ⟨p, 0, none⟩)) W := fun _ => by kernel_rfl
theorem bn_meld (p : Nat) : ∀ W : World, (method 282 23 (.pointer (some ⟨p, 0, none⟩)) "Meld").run Try.prog W = .ok (144, .pointer (some ⟨p, 0, none⟩)) W := fun _ => by kernel_rfl
section
variable {w : World} {p : Nat} {F : List Nat} {A : NS} {st : Nat} {G : BG}
theorem BnK.upd {w' : World} {S : List Nat} (h : BnK w p F A st G) (hu : Upd S w w') (hS : ∀ x, x ∈ S → x ∉ F) : BnK w' p F A st G := by
  obtain ⟨⟨B, F1, gr, cr, lo, S1, vs, rfl, rfl, M, eF⟩, I⟩ := h
  exact ⟨⟨B, F1, gr, cr, lo, S1, vs, rfl, rfl, M.upd hu hS, eF⟩, I⟩
theorem BnK.upd0 {w' : World} (h : BnK w p F A st G) (hu : Upd [] w w') : BnK w' p F A st G := h.upd hu (by simp)
theorem BnK.ok (h : BnK w p F A st G) : A.Ok := by
  obtain ⟨⟨B, F1, gr, cr, lo, S1, vs, rfl, rfl, M, eF⟩, I⟩ := h
  exact M.cells.ok
theorem BnK.st62 (h : BnK w p F A st G) : st ≤ 4611686018427387904 := by
  obtain ⟨⟨B, F1, gr, cr, lo, S1, vs, rfl, rfl, M, eF⟩, I⟩ := h
  exact M.cells.st62
theorem BnK.cl (h : BnK w p F A st G) : ∃ c F1, w.cell? ⟨p, 0, none⟩ = some (.pointer (some ⟨c, 0, none⟩)) ∧ CellsAt w c F1 A st := by
  obtain ⟨⟨B, F1, gr, cr, lo, S1, vs, rfl, rfl, M, eF⟩, I⟩ := h
  exact ⟨B.c, F1, M.h0, M.cells⟩
noncomputable def nestBn : NestK where
  ty := 23
  G := BG
  at_ := BnK
  cost := fun A a g => (stepB A a g).2
  next := fun A a g => (stepB A a g).1
  upd := fun h hu hS => h.upd hu hS
  lt := fun h => by
    obtain ⟨⟨B, F1, gr, cr, lo, S1, vs, rfl, rfl, M, eF⟩, I⟩ := h
    exact M.lt
  ok := fun h => h.ok
  st62 := fun h => h.st62
  idle := fun A a g h => by
    unfold stepB; rw [if_neg h.2.1, if_neg h.2.2.1, if_neg h.2.2.2.1, if_neg h.2.2.2.2.1, if_neg h.2.2.2.2.2.1, if_neg h.2.2.2.2.2.2]; exact ⟨rfl, rfl⟩
  make := fun {w p F A st g} hh x k s h => by
    refine mth_direct 42 (fun _ _ => by kernel_rfl) (bn_make' _) (fun W hW => ?_)
    have es : stepB A ⟨0, hh, x, k, s⟩ g = (g, 0) := by unfold stepB; simp
    rw [es, satS_zero h.st62]
    exact bmake_any (h.upd0 hW)
  insert := fun {w p F A st g} a ha hk h => by
    refine mth_direct 43 (fun _ _ => by kernel_rfl) (bn_insert _) (fun W hW => ?_)
    have hWK := h.upd0 hW
    have es : stepB A a g = if putB A a.h a.x then (putG (putN A a.h a.x a.k a.s) a.h.toNat a.x.toNat g, putQ (putN A a.h a.x a.k a.s) a.h.toNat a.x.toNat g) else (g, 0) := by unfold stepB; rw [if_pos hk]
    rw [es]
    cases hB : putB A a.h a.x with
    | false =>
      rw [if_neg (by simp)]
      have e2 : putN A a.h a.x a.k a.s = A := by unfold putN; rw [hB]; rfl
      rw [e2, satS_zero h.st62]
      refine (binsert_no hWK a.h a.x a.k a.s hB).mono ?_
      rintro e w' ⟨rfl, hu⟩
      exact ⟨rfl, Goes.stay (hWK.upd0 hu) (hu.mono (by simp))⟩
    | true =>
      rw [if_pos rfl]
      obtain ⟨hh, y, e1, e2⟩ := put_nat hB
      rw [e1, e2] at hB ⊢
      exact binsert_yes hWK hh y a.k a.s ha.k hB
  min := fun {w p F A st g} a ha hk h => by
    refine mth_direct 145 (fun _ _ => by kernel_rfl) (bn_min' _) (fun W hW => ?_)
    have hWK := h.upd0 hW
    have es : stepB A a g = (g, minC A g a.h) := by unfold stepB; rw [if_neg (by omega), if_pos hk]
    rw [es]
    obtain ⟨⟨B, F1, gr, cr, lo, S1, vs, rfl, rfl, M, eF⟩, I⟩ := hWK
    refine (bmin_any M I a.h).mono ?_
    rintro e w' ⟨rfl, hM2, hu⟩
    exact ⟨rfl, Goes.stay ⟨⟨B, F1, gr, cr, lo, S1, vs, rfl, rfl, hM2, eF⟩, I⟩ (hu.mono (fun y hy => by simp at hy; subst hy; exact blk_F _ M.cells.mem))⟩
  extract := fun {w p F A st g} a ha hk h => by
    refine mth_direct 143 (fun _ _ => by kernel_rfl) (bn_extract _) (fun W hW => ?_)
    have es : stepB A a g = (extG A a.h g, extC A a.h g) := by unfold stepB; rw [if_neg (by omega), if_neg (by omega), if_pos hk]
    rw [es]
    exact bextract_any (h.upd0 hW) a.h
  decrease := fun {w p F A st g} a ha hk h => by
    refine mth_direct 140 (fun _ _ => by kernel_rfl) (bn_decrease _) (fun W hW => ?_)
    have hWK := h.upd0 hW
    have es : stepB A a g = if lowB A a.x a.k a.s then decL (lowN A a.x a.k a.s) a.x.toNat g else (g, 0) := by unfold stepB; rw [if_neg (by omega), if_neg (by omega), if_neg (by omega), if_pos hk]
    rw [es]
    cases hB : lowB A a.x a.k a.s with
    | false =>
      rw [if_neg (by simp)]
      have e2 : lowN A a.x a.k a.s = A := by unfold lowN; rw [hB]; rfl
      rw [e2, satS_zero h.st62]
      refine (bdec_no hWK a.x a.k a.s hB).mono ?_
      rintro e w' ⟨rfl, hu⟩
      exact ⟨rfl, Goes.stay (hWK.upd0 hu) (hu.mono (by simp))⟩
    | true =>
      rw [if_pos rfl]
      obtain ⟨y, e2⟩ := in_nat (low_in hB)
      rw [e2] at hB ⊢
      exact bdec_yes hWK y a.k a.s ha.k hB
  delete := fun {w p F A st g} a ha hk h => by
    refine mth_direct 141 (fun _ _ => by kernel_rfl) (bn_delete _) (fun W hW => ?_)
    have hWK := h.upd0 hW
    have es : stepB A a g = if inN A a.x then (delG A a.x.toNat g, delQ A a.x.toNat g) else (g, 0) := by unfold stepB; rw [if_neg (by omega), if_neg (by omega), if_neg (by omega), if_neg (by omega), if_pos hk]
    rw [es]
    cases hin : inN A a.x with
    | false =>
      rw [if_neg (by simp)]
      have e2 : dropN A a.x = A := by unfold dropN; rw [hin]; rfl
      rw [e2, satS_zero h.st62]
      refine (bdel_no hWK a.x hin).mono ?_
      rintro e w' ⟨rfl, rfl⟩
      exact ⟨rfl, Goes.stay hWK (Upd.refl _ _)⟩
    | true =>
      rw [if_pos rfl]
      obtain ⟨y, e2⟩ := in_nat hin
      rw [e2] at hin ⊢
      exact bdel_yes hWK y hin
  meld := fun {w p F A st g} a ha hk h => by
    refine mth_direct 144 (fun _ _ => by kernel_rfl) (bn_meld _) (fun W hW => ?_)
    have hWK := h.upd0 hW
    have es : stepB A a g = if joinB A a.h a.x then (meldG (joinN A a.h a.x) a.h.toNat a.x.toNat g, meldQ (joinN A a.h a.x) a.h.toNat a.x.toNat g) else (g, 0) := by
      unfold stepB; rw [if_neg (by omega), if_neg (by omega), if_neg (by omega), if_neg (by omega), if_neg (by omega), if_pos hk]
    rw [es]
    cases hB : joinB A a.h a.x with
    | false =>
      rw [if_neg (by simp)]
      have e2 : joinN A a.h a.x = A := by unfold joinN; rw [hB]; rfl
      rw [e2, satS_zero h.st62]
      refine (bmeld_no hWK a.h a.x hB).mono ?_
      rintro e w' ⟨rfl, rfl⟩
      exact ⟨rfl, Goes.stay hWK (Upd.refl _ _)⟩
    | true =>
      rw [if_pos rfl]
      obtain ⟨y, z, e1, e2⟩ := join_nat hB
      rw [e1, e2] at hB ⊢
      exact bmeld_yes hWK y z hB
  has := fun x h => by
    obtain ⟨c, F1, h0, hC⟩ := h.cl
    exact mth_via 20 (fun _ _ => by kernel_rfl) h0 (bn_via_has _ _) (fun W hW => chas_any (hC.upd0 hW) x)
  len := fun x hx h => by
    obtain ⟨c, F1, h0, hC⟩ := h.cl
    exact mth_via 21 (fun _ _ => by kernel_rfl) h0 (bn_via_len _ _) (fun W hW => clen_any (hC.upd0 hW) x hx)
  entry := fun {w p F A st g} x h => by
    obtain ⟨c, F1, h0, hC⟩ := h.cl
    refine mth_via 142 (fun _ _ => by kernel_rfl) h0 (bn_via_entry _ _) (fun W hW => ?_)
    cases hin : inN A x with
    | false => simpa using centry_no (hC.upd0 hW) x hin
    | true =>
      obtain ⟨y, e2⟩ := in_nat hin
      rw [e2] at hin ⊢
      simpa using centry_yes (hC.upd0 hW) y hin
  home := fun {w p F A st g} x h => by
    obtain ⟨⟨B, F1, gr, cr, lo, S1, vs, rfl, rfl, M, eF⟩, I⟩ := h
    refine mth_via 66 (fun _ _ => by kernel_rfl) M.h0 (bn_via_home _ _) (fun W hW => ?_)
    have hMW := M.upd0 hW
    cases hin : inN A x with
    | false =>
      rw [if_neg (by simp)]
      refine (chome_no hMW.cells x hin).mono ?_
      rintro e w' ⟨rfl, rfl⟩
      exact ⟨rfl, Goes.stay ⟨⟨B, F1, gr, cr, lo, S1, vs, rfl, rfl, hMW, eF⟩, I⟩ (Upd.refl _ _)⟩
    | true =>
      rw [if_pos rfl]
      obtain ⟨y, e2⟩ := in_nat hin
      rw [e2] at hin ⊢
      refine (chome_yes hMW.cells y hin).mono ?_
      rintro e w' ⟨rfl, hC, hu⟩
      exact ⟨rfl, Goes.stay ⟨⟨B, F1, gr, cr, lo, S1, vs, rfl, rfl, hMW.setC hu hC (fun y hy => Or.inl hy) rfl rfl, eF⟩, I⟩ (hu.mono blk_F)⟩
  capacity := fun h => by
    obtain ⟨c, F1, h0, hC⟩ := h.cl
    exact mth_via 18 (fun _ _ => by kernel_rfl) h0 (bn_via_cap _ _) (fun W hW => ccap_any (hC.upd0 hW))
  steps := fun h => by
    obtain ⟨c, F1, h0, hC⟩ := h.cl
    exact mth_via 19 (fun _ _ => by kernel_rfl) h0 (bn_via_steps _ _) (fun W hW => csteps_any (hC.upd0 hW))
end
end Go.Proofs.Ytighgbdijagolaa
