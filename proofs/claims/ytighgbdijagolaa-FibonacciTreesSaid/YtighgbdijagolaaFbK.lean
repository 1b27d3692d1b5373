/-
  Fibonacci heaps are a nest of a kind. Conditions: none.
-/
import Derived.Test.YtighgbdijagolaaFb9
set_option linter.unusedVariables false
set_option linter.unusedSimpArgs false
namespace Go.Proofs.Ytighgbdijagolaa
open Go Go.RowKit

/-- What is behind something done, and how often slots were held against one another. -/
def stepF (A : NS) (a : AC) (G : FG) : FG × Nat :=
  if a.kind = 1 then (if putB A a.h a.x then (insG (putN A a.h a.x a.k a.s) a.h.toNat a.x.toNat G, rootQ a.h.toNat G) else (G, 0))
  else if a.kind = 2 then (G, 0)
  else if a.kind = 3 then (fextG A a.h G, fextQ A a.h G)
  else if a.kind = 4 then (if lowB A a.x a.k a.s then (decG (lowN A a.x a.k a.s) (A.c a.x.toNat).i.toNat a.x.toNat G, decQ (lowN A a.x a.k a.s) (A.c a.x.toNat).i.toNat a.x.toNat G) else (G, 0))
  else if a.kind = 5 then (if inN A a.x then (fdelG A a.x.toNat G, fdelQ A a.x.toNat G) else (G, 0))
  else if a.kind = 6 then (if joinB A a.h a.x then (melG (joinN A a.h a.x) a.h.toNat a.x.toNat G, melQ a.h.toNat a.x.toNat G) else (G, 0))
  else (G, 0)
theorem fb_via_has (p c : Nat) : ∀ W : World, W.cell? ⟨p, 0, none⟩ = some (.pointer (some ⟨c, 0, none⟩)) → (method 282 72 (.pointer (some ⟨p, 0, none⟩)) "Has").run Try.prog W = .ok (20, .pointer (some ⟨c, 0, none⟩)) W := (by intro W h; unfold method; have hm : ∃ m, (Array.find? (fun x => x.name == "Has") Try.t72.methods) = some m ∧ m.path.toList = [⟨78, 0, true⟩] ∧ m.func = some (20, true) ∧ m.path.isEmpty = false := ⟨(Array.find? (fun x => x.name == "Has") Try.t72.methods).get!, by kernel_rfl, by kernel_rfl, by kernel_rfl, by kernel_rfl⟩; obtain ⟨m, h1, h2, h3, h4⟩ := hm; go_simp; simp only [follow, Place.get]; go_simp; (try unfold receiverAt); (try simp only [Place.get]); (try go_simp))
theorem fb_via_len (p c : Nat) : ∀ W : World, W.cell? ⟨p, 0, none⟩ = some (.pointer (some ⟨c, 0, none⟩)) → (method 282 72 (.pointer (some ⟨p, 0, none⟩)) "Len").run Try.prog W = .ok (21, .pointer (some ⟨c, 0, none⟩)) W := (by intro W h; unfold method; have hm : ∃ m, (Array.find? (fun x => x.name == "Len") Try.t72.methods) = some m ∧ m.path.toList = [⟨78, 0, true⟩] ∧ m.func = some (21, true) ∧ m.path.isEmpty = false := ⟨(Array.find? (fun x => x.name == "Len") Try.t72.methods).get!, by kernel_rfl, by kernel_rfl, by kernel_rfl, by kernel_rfl⟩; obtain ⟨m, h1, h2, h3, h4⟩ := hm; go_simp; simp only [follow, Place.get]; go_simp; (try unfold receiverAt); (try simp only [Place.get]); (try go_simp))
theorem fb_via_entry (p c : Nat) : ∀ W : World, W.cell? ⟨p, 0, none⟩ = some (.pointer (some ⟨c, 0, none⟩)) → (method 282 72 (.pointer (some ⟨p, 0, none⟩)) "Entry").run Try.prog W = .ok (142, .pointer (some ⟨c, 0, none⟩)) W := (by intro W h; unfold method; have hm : ∃ m, (Array.find? (fun x => x.name == "Entry") Try.t72.methods) = some m ∧ m.path.toList = [⟨78, 0, true⟩] ∧ m.func = some (142, true) ∧ m.path.isEmpty = false := ⟨(Array.find? (fun x => x.name == "Entry") Try.t72.methods).get!, by kernel_rfl, by kernel_rfl, by kernel_rfl, by kernel_rfl⟩; obtain ⟨m, h1, h2, h3, h4⟩ := hm; go_simp; simp only [follow, Place.get]; go_simp; (try unfold receiverAt); (try simp only [Place.get]); (try go_simp))
theorem fb_via_home (p c : Nat) : ∀ W : World, W.cell? ⟨p, 0, none⟩ = some (.pointer (some ⟨c, 0, none⟩)) → (method 282 72 (.pointer (some ⟨p, 0, none⟩)) "Home").run Try.prog W = .ok (66, .pointer (some ⟨c, 0, none⟩)) W := (by intro W h; unfold method; have hm : ∃ m, (Array.find? (fun x => x.name == "Home") Try.t72.methods) = some m ∧ m.path.toList = [⟨78, 0, true⟩] ∧ m.func = some (66, true) ∧ m.path.isEmpty = false := ⟨(Array.find? (fun x => x.name == "Home") Try.t72.methods).get!, by kernel_rfl, by kernel_rfl, by kernel_rfl, by kernel_rfl⟩; obtain ⟨m, h1, h2, h3, h4⟩ := hm; go_simp; simp only [follow, Place.get]; go_simp; (try unfold receiverAt); (try simp only [Place.get]); (try go_simp))
theorem fb_via_cap (p c : Nat) : ∀ W : World, W.cell? ⟨p, 0, none⟩ = some (.pointer (some ⟨c, 0, none⟩)) → (method 282 72 (.pointer (some ⟨p, 0, none⟩)) "Capacity").run Try.prog W = .ok (18, .pointer (some ⟨c, 0, none⟩)) W := (by intro W h; unfold method; have hm : ∃ m, (Array.find? (fun x => x.name == "Capacity") Try.t72.methods) = some m ∧ m.path.toList = [⟨78, 0, true⟩] ∧ m.func = some (18, true) ∧ m.path.isEmpty = false := ⟨(Array.find? (fun x => x.name == "Capacity") Try.t72.methods).get!, by kernel_rfl, by kernel_rfl, by kernel_rfl, by kernel_rfl⟩; obtain ⟨m, h1, h2, h3, h4⟩ := hm; go_simp; simp only [follow, Place.get]; go_simp; (try unfold receiverAt); (try simp only [Place.get]); (try go_simp))
theorem fb_via_steps (p c : Nat) : ∀ W : World, W.cell? ⟨p, 0, none⟩ = some (.pointer (some ⟨c, 0, none⟩)) → (method 282 72 (.pointer (some ⟨p, 0, none⟩)) "Steps").run Try.prog W = .ok (19, .pointer (some ⟨c, 0, none⟩)) W := (by intro W h; unfold method; have hm : ∃ m, (Array.find? (fun x => x.name == "Steps") Try.t72.methods) = some m ∧ m.path.toList = [⟨78, 0, true⟩, ⟨39, 0, true⟩] ∧ m.func = some (19, true) ∧ m.path.isEmpty = false := ⟨(Array.find? (fun x => x.name == "Steps") Try.t72.methods).get!, by kernel_rfl, by kernel_rfl, by kernel_rfl, by kernel_rfl⟩; obtain ⟨m, h1, h2, h3, h4⟩ := hm; go_simp; simp only [follow, Place.get]; go_simp; (try unfold receiverAt); (try simp only [Place.get]); (try go_simp))
theorem fb_mk' (p : Nat) : ∀ W : World, (method 282 72 (.pointer (some ⟨p, 0, none⟩)) "Make").run Try.prog W = .ok (60, .pointer (some ⟨p, 0, none⟩)) W := fun _ => by kernel_rfl
theorem fb_ins' (p : Nat) : ∀ W : World, (method 282 72 (.pointer (some ⟨p, 0, none⟩)) "Insert").run Try.prog W = .ok (61, .pointer (some ⟨p, 0, none⟩)) W := fun _ => by kernel_rfl
theorem fb_min' (p : Nat) : ∀ W : World, (method 282 72 (.pointer (some ⟨p, 0, none⟩)) "Min").run Try.prog W = .ok (83, .pointer (some ⟨p, 0, none⟩)) W := fun _ => by kernel_rfl
theorem fb_ext' (p : Nat) : ∀ W : World, (method 282 72 (.pointer (some ⟨p, 0, none⟩)) "Extract").run Try.prog W = .ok (62, .pointer (some ⟨p, 0, none⟩)) W := fun _ => by kernel_rfl
theorem fb_dec' (p : Nat) : ∀ W : World, (method 282 72 (.pointer (some ⟨p, 0, none⟩)) "Decrease").run Try.prog W = .ok (162, .pointer (some ⟨p, 0, none⟩)) W := fun _ => by kernel_rfl
theorem fb_del' (p : Nat) : ∀ W : World, (method 282 72 (.pointer (some ⟨p, 0, none⟩)) "Delete").run Try.prog W = .ok (163, .pointer (some ⟨p, 0, none⟩)) W := fun _ => by kernel_rfl
theorem fb_mel' (p : Nat) : ∀ W : World, (method 282 72 (.pointer (some ⟨p, 0, none⟩)) "Meld").run Try.prog W = .ok (164, .pointer (some ⟨p, 0, none⟩)) W := fun _ => by kernel_rfl
section
variable {w : World} {p : Nat} {F : List Nat} {A : NS} {st : Nat} {G : FG}
noncomputable def nestFb : NestK where
  ty := 72
  G := FG
  at_ := FbK
  cost := fun A a g => (stepF A a g).2
  next := fun A a g => (stepF A a g).1
  upd := fun h hu hS => h.upd hu hS
  lt := fun h => h.lt
  ok := fun h => h.ok
  st62 := fun h => h.st62
  idle := fun A a g h => by
    unfold stepF; rw [if_neg h.2.1, if_neg h.2.2.1, if_neg h.2.2.2.1, if_neg h.2.2.2.2.1, if_neg h.2.2.2.2.2.1, if_neg h.2.2.2.2.2.2]; exact ⟨rfl, rfl⟩
  make := fun {w p F A st g} hh x k s h => by
    refine mth_direct 60 (fun _ _ => by kernel_rfl) (fb_mk' _) (fun W hW => ?_)
    have es : stepF A ⟨0, hh, x, k, s⟩ g = (g, 0) := by unfold stepF; simp
    rw [es, satS_zero h.st62]
    exact fmake_any (h.upd0 hW)
  insert := fun {w p F A st g} a ha hk h => by
    refine mth_direct 61 (fun _ _ => by kernel_rfl) (fb_ins' _) (fun W hW => ?_)
    have hWK := h.upd0 hW
    have es : stepF A a g = if putB A a.h a.x then (insG (putN A a.h a.x a.k a.s) a.h.toNat a.x.toNat g, rootQ a.h.toNat g) else (g, 0) := by unfold stepF; rw [if_pos hk]
    rw [es]
    cases hB : putB A a.h a.x with
    | false =>
      rw [if_neg (by simp)]
      have e2 : putN A a.h a.x a.k a.s = A := by unfold putN; rw [hB]; rfl
      rw [e2, satS_zero h.st62]
      refine (finsert_no hWK a.h a.x a.k a.s hB).mono ?_
      rintro e w' ⟨rfl, hu⟩
      exact ⟨rfl, Goes.stay (hWK.upd0 hu) (hu.mono (by simp))⟩
    | true =>
      rw [if_pos rfl]
      obtain ⟨hh, y, e1, e2⟩ := put_nat hB
      rw [e1, e2] at hB ⊢
      exact finsert_yes hWK hh y a.k a.s ha.k hB
  min := fun {w p F A st g} a ha hk h => by
    refine mth_direct 83 (fun _ _ => by kernel_rfl) (fb_min' _) (fun W hW => ?_)
    have hWK := h.upd0 hW
    have es : stepF A a g = (g, 0) := by unfold stepF; rw [if_neg (by omega), if_pos hk]
    rw [es, satS_zero h.st62]
    refine (fmin_any hWK a.h ha.h).mono ?_
    rintro e w' ⟨rfl, rfl⟩
    exact ⟨rfl, Goes.stay hWK (Upd.refl _ _)⟩
  extract := fun {w p F A st g} a ha hk h => by
    refine mth_direct 62 (fun _ _ => by kernel_rfl) (fb_ext' _) (fun W hW => ?_)
    have es : stepF A a g = (fextG A a.h g, fextQ A a.h g) := by unfold stepF; rw [if_neg (by omega), if_neg (by omega), if_pos hk]
    rw [es]
    exact fextract_any (h.upd0 hW) a.h ha.h
  decrease := fun {w p F A st g} a ha hk h => by
    refine mth_direct 162 (fun _ _ => by kernel_rfl) (fb_dec' _) (fun W hW => ?_)
    have hWK := h.upd0 hW
    have es : stepF A a g = if lowB A a.x a.k a.s then (decG (lowN A a.x a.k a.s) (A.c a.x.toNat).i.toNat a.x.toNat g, decQ (lowN A a.x a.k a.s) (A.c a.x.toNat).i.toNat a.x.toNat g) else (g, 0) := by unfold stepF; rw [if_neg (by omega), if_neg (by omega), if_neg (by omega), if_pos hk]
    rw [es]
    cases hB : lowB A a.x a.k a.s with
    | false =>
      rw [if_neg (by simp)]
      have e2 : lowN A a.x a.k a.s = A := by unfold lowN; rw [hB]; rfl
      rw [e2, satS_zero h.st62]
      refine (fdec_no hWK a.x a.k a.s hB).mono ?_
      rintro e w' ⟨rfl, hu⟩
      exact ⟨rfl, Goes.stay (hWK.upd0 hu) (hu.mono (by simp))⟩
    | true =>
      rw [if_pos rfl]
      obtain ⟨y, e2⟩ := in_nat (low_in hB)
      rw [e2] at hB ⊢
      have hy0 := ((inN_nat _ _).1 (low_in hB)).2
      simp only [Int.toNat_natCast]
      exact fdec_yes hWK y a.k a.s ha.k hB (by omega)
  delete := fun {w p F A st g} a ha hk h => by
    refine mth_direct 163 (fun _ _ => by kernel_rfl) (fb_del' _) (fun W hW => ?_)
    have hWK := h.upd0 hW
    have es : stepF A a g = if inN A a.x then (fdelG A a.x.toNat g, fdelQ A a.x.toNat g) else (g, 0) := by unfold stepF; rw [if_neg (by omega), if_neg (by omega), if_neg (by omega), if_neg (by omega), if_pos hk]
    rw [es]
    cases hin : inN A a.x with
    | false =>
      rw [if_neg (by simp)]
      have e2 : dropN A a.x = A := by unfold dropN; rw [hin]; rfl
      rw [e2, satS_zero h.st62]
      refine (fdel_no hWK a.x hin).mono ?_
      rintro e w' ⟨rfl, rfl⟩
      exact ⟨rfl, Goes.stay hWK (Upd.refl _ _)⟩
    | true =>
      rw [if_pos rfl]
      obtain ⟨y, e2⟩ := in_nat hin
      rw [e2] at hin ⊢
      exact fdel_yes hWK y hin
  meld := fun {w p F A st g} a ha hk h => by
    refine mth_direct 164 (fun _ _ => by kernel_rfl) (fb_mel' _) (fun W hW => ?_)
    have hWK := h.upd0 hW
    have es : stepF A a g = if joinB A a.h a.x then (melG (joinN A a.h a.x) a.h.toNat a.x.toNat g, melQ a.h.toNat a.x.toNat g) else (g, 0) := by
      unfold stepF; rw [if_neg (by omega), if_neg (by omega), if_neg (by omega), if_neg (by omega), if_neg (by omega), if_pos hk]
    rw [es]
    cases hB : joinB A a.h a.x with
    | false =>
      rw [if_neg (by simp)]
      have e2 : joinN A a.h a.x = A := by unfold joinN; rw [hB]; rfl
      rw [e2, satS_zero h.st62]
      refine (fmeld_no hWK a.h a.x hB).mono ?_
      rintro e w' ⟨rfl, rfl⟩
      exact ⟨rfl, Goes.stay hWK (Upd.refl _ _)⟩
    | true =>
      rw [if_pos rfl]
      obtain ⟨y, z, e1, e2⟩ := join_nat hB
      rw [e1, e2] at hB ⊢
      exact fmeld_yes hWK y z hB
  has := fun x h => by
    obtain ⟨c, F1, h0, hC, _⟩ := h.cl
    exact mth_via 20 (fun _ _ => by kernel_rfl) h0 (fb_via_has _ _) (fun W hW => chas_any (hC.upd0 hW) x)
  len := fun x hx h => by
    obtain ⟨c, F1, h0, hC, _⟩ := h.cl
    exact mth_via 21 (fun _ _ => by kernel_rfl) h0 (fb_via_len _ _) (fun W hW => clen_any (hC.upd0 hW) x hx)
  entry := fun {w p F A st g} x h => by
    obtain ⟨c, F1, h0, hC, _⟩ := h.cl
    refine mth_via 142 (fun _ _ => by kernel_rfl) h0 (fb_via_entry _ _) (fun W hW => ?_)
    cases hin : inN A x with
    | false => simpa using centry_no (hC.upd0 hW) x hin
    | true =>
      obtain ⟨y, e2⟩ := in_nat hin
      rw [e2] at hin ⊢
      simpa using centry_yes (hC.upd0 hW) y hin
  home := fun {w p F A st g} x h => by
    obtain ⟨⟨B, F1, gt, ct, rfl, rfl, M⟩, I⟩ := h
    refine mth_via 66 (fun _ _ => by kernel_rfl) M.h0 (fb_via_home _ _) (fun W hW => ?_)
    have hMW := M.upd0 hW
    cases hin : inN A x with
    | false =>
      rw [if_neg (by simp)]
      refine (chome_no hMW.cells x hin).mono ?_
      rintro e w' ⟨rfl, rfl⟩
      exact ⟨rfl, Goes.stay ⟨⟨B, F1, gt, ct, rfl, rfl, hMW⟩, I⟩ (Upd.refl _ _)⟩
    | true =>
      rw [if_pos rfl]
      obtain ⟨y, e2⟩ := in_nat hin
      rw [e2] at hin ⊢
      refine (chome_yes hMW.cells y hin).mono ?_
      rintro e w' ⟨rfl, hC, hu⟩
      exact ⟨rfl, Goes.stay ⟨⟨B, F1, gt, ct, rfl, rfl, hMW.setC hu hC (fun y hy => Or.inl hy) rfl rfl⟩, I⟩ (hu.mono fblk_F)⟩
  capacity := fun h => by
    obtain ⟨c, F1, h0, hC, _⟩ := h.cl
    exact mth_via 18 (fun _ _ => by kernel_rfl) h0 (fb_via_cap _ _) (fun W hW => ccap_any (hC.upd0 hW))
  steps := fun h => by
    obtain ⟨c, F1, h0, hC, _⟩ := h.cl
    exact mth_via 19 (fun _ _ => by kernel_rfl) h0 (fb_via_steps _ _) (fun W hW => csteps_any (hC.upd0 hW))
end
end Go.Proofs.Ytighgbdijagolaa
