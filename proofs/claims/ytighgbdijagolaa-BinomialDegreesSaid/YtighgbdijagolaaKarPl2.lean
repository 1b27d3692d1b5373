/-
  The plain law of Carry, further: what is in hand weighs the same; what is not stays; what is above is not behind. No program in sight. Conditions: those of each lemma.
-/
import Derived.Test.YtighgbdijagolaaKarPl
set_option linter.unusedVariables false
set_option linter.unusedSimpArgs false
namespace Go.Proofs.Ytighgbdijagolaa

def wt (n : Nat) (F : CF) (l : List Int) : Nat := (l.map (fun x => 2 ^ (degF n F x).toNat)).sum
theorem wt_perm {n : Nat} {F : CF} {l m : List Int} (h : l.Perm m) : wt n F l = wt n F m := by
  unfold wt
  exact (h.map _).sum_nat
theorem wt_ext {n : Nat} {F F' : CF} {l : List Int} (h : ∀ x, x ∈ l → degF n F x = degF n F' x) : wt n F l = wt n F' l := by
  unfold wt
  congr 1
  exact List.map_congr_left (fun x hx => by rw [h x hx])
structure RI (lt : Int → Int → Bool) (n : Nat) (C0 C : CC) : Prop where
  sub : ∀ x, x ∈ C.L → x ∈ C0.L
  out : ∀ x : Nat, (x : Int) ∉ C0.L → C.F.u x = C0.F.u x ∧ C.F.k x = C0.F.k x
  wt : wt n C.F C.L = wt n C0.F C0.L
  nl : ∀ y p : Nat, y < n → C.F.u y = p → C0.F.u y = p ∨ ((y : Int) ∈ C0.L ∧ (p : Int) ∈ C0.L ∧ y ≠ p ∧ lt y p = false)
  ro : ∀ y : Nat, (y : Int) ∈ C0.L → (y : Int) ∈ C.L ∨ ∃ p : Nat, p < n ∧ C.F.u y = p
theorem RI.refl (lt : Int → Int → Bool) (n : Nat) (C : CC) : RI lt n C C := ⟨fun x h => h, fun x _ => ⟨rfl, rfl⟩, rfl, fun y p _ h => Or.inl h, fun y h => Or.inl h⟩
theorem RI.trans {lt : Int → Int → Bool} {n : Nat} {A B C : CC} (h : RI lt n A B) (k : RI lt n B C) : RI lt n A C :=
  ⟨fun x hx => h.sub x (k.sub x hx), fun x hx => by
    have h1 := h.out x hx
    have h2 := k.out x (fun hm => hx (h.sub _ hm))
    exact ⟨h2.1.trans h1.1, h2.2.trans h1.2⟩, k.wt.trans h.wt, fun y p hy hu => by
    rcases k.nl y p hy hu with h1 | ⟨h1, h2, h3, h4⟩
    · exact h.nl y p hy h1
    · exact Or.inr ⟨h.sub _ h1, h.sub _ h2, h3, h4⟩, fun y hy => by
    by_cases hB : (y : Int) ∈ B.L
    · exact k.ro y hB
    · rcases h.ro y hy with h1 | ⟨p, hp, h1⟩
      · exact absurd h1 hB
      · exact Or.inr ⟨p, hp, by rw [(k.out y hB).1]; exact h1⟩⟩
theorem RI.perm {lt : Int → Int → Bool} {n : Nat} {C D : CC} (hp : D.L.Perm C.L) (hF : D.F = C.F) : RI lt n C D :=
  ⟨fun x hx => hp.mem_iff.1 hx, fun x _ => by rw [hF]; exact ⟨rfl, rfl⟩, by rw [hF]; exact wt_perm hp, fun y p _ h => by rw [hF] at h; exact Or.inl h, fun y h => Or.inl (hp.mem_iff.2 h)⟩
theorem ri_join {lt : Int → Int → Bool} {n k : Nat} {C : CC} (has : ∀ a b, lt a b = true → lt b a = false) (h : G n (k + 1) (k + 1) k (k + 1) C) (hN : C.N = [] ∨ ∃ x y, C.N = [x, y]) : RI lt n C (joinC lt C) := by
  rcases hN with hN | ⟨x, y, hN⟩
  · have e : joinC lt C = C := by unfold joinC; rw [hN]
    rw [e]; exact RI.refl _ _ _
  · obtain ⟨a, b, rfl, rfl, ha, hb, hne, ra, rb, da, db⟩ := g_pair h hN
    have e : joinC lt C = { C with F := linkF C.F (joinHi lt a b) (joinLo lt a b), N := [(joinHi lt a b : Int)], q := C.q + 1 } := by unfold joinC; rw [hN]; simp
    rw [e]
    obtain ⟨hi, lo, ehi, elo, hhi, hlo, hne2, dhi, dlo, hah, hhab⟩ : ∃ hi lo, joinHi lt a b = hi ∧ joinLo lt a b = lo ∧ hi < n ∧ lo < n ∧ hi ≠ lo ∧ (C.F.k hi).length = k ∧ (C.F.k lo).length = k ∧ lt lo hi = false ∧ ((hi = a ∧ lo = b) ∨ (hi = b ∧ lo = a)) := by
      unfold joinHi joinLo
      by_cases hab : lt b a = true
      · rw [if_pos hab, if_pos hab]
        exact ⟨b, a, rfl, rfl, hb, ha, Ne.symm hne, db, da, has _ _ hab, Or.inr ⟨rfl, rfl⟩⟩
      · rw [if_neg hab, if_neg hab]
        exact ⟨a, b, rfl, rfl, ha, hb, hne, da, db, by simpa using hab, Or.inl ⟨rfl, rfl⟩⟩
    have hLp : C.L.Perm ((hi : Int) :: (lo : Int) :: (C.A ++ (C.B ++ C.O))) := by
      unfold CC.L
      rw [hN, List.perm_iff_count]
      intro y
      rcases hhab with ⟨rfl, rfl⟩ | ⟨rfl, rfl⟩ <;> simp [List.count_append, List.count_cons] <;> omega
    have hL : (CC.L { C with F := linkF C.F hi lo, N := [(hi : Int)], q := C.q + 1 }).Perm ((hi : Int) :: (C.A ++ (C.B ++ C.O))) := by
      unfold CC.L
      simp only
      rw [List.perm_iff_count]
      intro y
      simp [List.count_append, List.count_cons]
      omega
    have hnd2 := hLp.nodup_iff.1 h.nd
    rw [List.nodup_cons, List.nodup_cons] at hnd2
    rw [ehi, elo]
    refine ⟨fun x hx => hLp.mem_iff.2 ?_, fun x hx => ?_, ?_, fun y p hy hu => ?_, fun y hy => ?_⟩
    · rcases List.mem_cons.1 (hL.mem_iff.1 hx) with rfl | hx
      · simp
      · exact List.mem_cons_of_mem _ (List.mem_cons_of_mem _ hx)
    · unfold linkF
      simp only
      rw [if_neg (fun e => hx (by subst e; exact hLp.mem_iff.2 (by simp))), if_neg (fun e => hx (by subst e; exact hLp.mem_iff.2 (by simp)))]
      exact ⟨rfl, rfl⟩
    · rw [wt_perm hL, wt_perm hLp]
      have hd : ∀ z, z ∈ C.A ++ (C.B ++ C.O) → degF n (linkF C.F hi lo) z = degF n C.F z := fun z hz => by
        have hr := h.rt z (hLp.mem_iff.2 (List.mem_cons_of_mem _ (List.mem_cons_of_mem _ hz)))
        rw [link_deg n C.F hhi z ⟨hr.1, hr.2.1⟩, if_neg (fun e => by subst e; exact hnd2.1 (List.mem_cons_of_mem _ hz))]
      have e1 := wt_ext hd
      have e2 : degF n (linkF C.F hi lo) (hi : Int) = (k : Int) + 1 := by rw [link_deg n C.F hhi hi (by omega), if_pos rfl, degF_nat n C.F hhi, dhi]
      have e3 : degF n C.F (hi : Int) = (k : Int) := by rw [degF_nat n C.F hhi, dhi]
      have e4 : degF n C.F (lo : Int) = (k : Int) := by rw [degF_nat n C.F hlo, dlo]
      have : ∀ (F : CF) (x : Int) (l : List Int), wt n F (x :: l) = 2 ^ (degF n F x).toNat + wt n F l := fun F x l => by unfold wt; simp
      rw [this, this, this, e1, e2, e3, e4]
      have e5 : ((k : Int) + 1).toNat = k + 1 := by omega
      rw [e5, Int.toNat_natCast, Nat.pow_succ]
      omega
    · unfold linkF at hu
      simp only at hu
      split at hu
      · rename_i e
        subst e
        obtain rfl : hi = p := by omega
        exact Or.inr ⟨hLp.mem_iff.2 (by simp), hLp.mem_iff.2 (by simp), Ne.symm hne2, hah⟩
      · exact Or.inl hu
    · rcases List.mem_cons.1 (hLp.mem_iff.1 hy) with e | hy
      · exact Or.inl (hL.mem_iff.2 (by rw [e]; simp))
      · rcases List.mem_cons.1 hy with e | hy
        · refine Or.inr ⟨hi, hhi, ?_⟩
          unfold linkF
          simp only
          rw [if_pos (by omega)]
        · exact Or.inl (hL.mem_iff.2 (List.mem_cons_of_mem _ hy))
theorem ri_run {lt : Int → Int → Bool} {n : Nat} {C0 : CC} (has : ∀ a b, lt a b = true → lt b a = false) (h : G n 0 0 0 0 C0) (hN : C0.N = []) : ∀ k, RI lt n C0 (runC lt n k C0)
  | 0 => RI.refl _ _ _
  | k + 1 => by
    obtain ⟨g, h1, h2⟩ := g_run (lt := lt) h hN k
    have g1 := g_takeA g
    have g2 := g_takeB g1
    have g3 := g_giveO g2
    have t1 := (tot_takeA n k (runC lt n k C0)).2
    have t2 := (tot_takeB n k (takeA n k (runC lt n k C0))).2
    have ev := giveO_even (C := takeB n k (takeA n k (runC lt n k C0))) (by omega)
    have r4 := ri_join has g3 ev
    exact ((((ri_run has h hN k).trans (RI.perm (takeA_perm n k _) (takeA_F n k _))).trans (RI.perm (takeB_perm n k _) (takeB_F n k _))).trans (RI.perm (giveO_perm _) (giveO_F _))).trans r4
theorem g_ok {lt : Int → Int → Bool} {n : Nat} {C0 : CC} {dom : Int → Prop} (has : ∀ a b, lt a b = true → lt b a = false) (hdm : ∀ x, x ∈ C0.L → dom x) (h : G n 0 0 0 0 C0) (hN : C0.N = []) (hn : n ≤ 65536) (hq : C0.q ≤ 900000) (k : Nat) : RoundOk dom lt n k (runC lt n k C0) := by
  obtain ⟨g, h1, h2⟩ := g_run (lt := lt) h hN k
  have hL0 : C0.L.length ≤ n := nodup_le n _ h.nd (fun x hx => by have := h.rt x hx; omega)
  have hL : (runC lt n k C0).L.length ≤ n := nodup_le n _ g.nd (fun x hx => by have := g.rt x hx; omega)
  have hLL : (runC lt n k C0).L.length = (runC lt n k C0).A.length + ((runC lt n k C0).B.length + ((runC lt n k C0).N.length + (runC lt n k C0).O.length)) := by unfold CC.L; simp
  have dn : ∀ x, x ∈ (runC lt n k C0).L → degF n (runC lt n k C0).F x ≤ n := fun x hx => by
    have hr := g.rt x hx
    obtain ⟨y, rfl⟩ := Int.eq_ofNat_of_zero_le hr.1
    have hy : y < n := by omega
    rw [degF_nat _ _ hy]
    have := g.f.len hy
    omega
  refine ⟨h1, fun x y hxy => ?_, by omega, by omega, fun hne => ?_⟩
  · have g3 := g_giveO (g_takeB (g_takeA g))
    obtain ⟨a, b, e1, e2, ha, hb, hab, ra, rb, da, db⟩ := g_pair g3 hxy
    have hsub : ∀ z, z ∈ (giveO (takeB n k (takeA n k (runC lt n k C0)))).L → dom z := fun z hz => hdm z ((ri_run has h hN k).sub z ((takeA_perm n k _).mem_iff.1 ((takeB_perm n k _).mem_iff.1 ((giveO_perm _).mem_iff.1 hz))))
    have da' : dom (a : Int) := by rw [← e1]; exact hsub x (by unfold CC.L; rw [hxy]; simp)
    have db' : dom (b : Int) := by rw [← e2]; exact hsub y (by unfold CC.L; rw [hxy]; simp)
    refine ⟨a, b, e1, e2, da', db', ha, hb, hab, ?_, ?_, ?_, g3.f.len ha, g3.f.len hb⟩
    · unfold rootF; rw [decide_eq_true (by omega)]; simp [ra]
    · unfold rootF; rw [decide_eq_true (by omega)]; simp [rb]
    · rw [degF_nat _ _ ha, degF_nat _ _ hb, da, db]
  · rcases hne with hne | hne | hne
    · obtain ⟨x, t, e⟩ := List.exists_cons_of_ne_nil hne
      have h3 := g.a2 x (by rw [e]; simp)
      have h4 := dn x (by unfold CC.L; rw [e]; simp)
      omega
    · obtain ⟨x, t, e⟩ := List.exists_cons_of_ne_nil hne
      have h3 := g.b2 x (by rw [e]; simp)
      have h4 := dn x (by unfold CC.L; rw [e]; simp)
      omega
    · obtain ⟨x, t, e⟩ := List.exists_cons_of_ne_nil hne
      have h3 := g.n1 x (by rw [e]; simp)
      have h4 := dn x (by unfold CC.L; rw [e]; simp)
      omega
end Go.Proofs.Ytighgbdijagolaa
