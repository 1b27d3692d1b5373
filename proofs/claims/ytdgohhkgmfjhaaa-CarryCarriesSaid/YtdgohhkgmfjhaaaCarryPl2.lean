/-
  The plain law of Carry, further: what is in hand weighs the same; what is not stays; what is above is not behind. No program in sight. Conditions: those of each lemma.
-/
import Derived.Test.YtdgohhkgmfjhaaaCarryLaw
set_option linter.unusedVariables false
set_option linter.unusedSimpArgs false
namespace Go.Proofs.Ytdgohhkgmfjhaaa

def wt (n : Nat) (F : CF) (l : List Int) : Nat := (l.map (fun x => 2 ^ (degF n F x).toNat)).sum
theorem wt_perm {n : Nat} {F : CF} {l m : List Int} (h : l.Perm m) : wt n F l = wt n F m := by
  unfold wt
  exact (h.map _).sum_nat
theorem wt_ext {n : Nat} {F F' : CF} {l : List Int} (h : ∀ x, x ∈ l → degF n F x = degF n F' x) : wt n F l = wt n F' l := by
  unfold wt
  congr 1
  exact List.map_congr_left (fun x hx => by rw [h x hx])
/-- What is above a thing is not behind it. -/
def HOrd (zs : List Int) (n : Nat) (F : CF) : Prop := ∀ y p : Nat, y < n → F.u y = p → y ≠ p ∧ aheadB zs y p = false
theorem ahead_asym (zs : List Int) (a b : Int) (h : aheadB zs a b = true) : aheadB zs b a = false := by
  unfold aheadB at *
  simp only [Bool.or_eq_true, Bool.and_eq_true, decide_eq_true_eq, beq_iff_eq, Bool.or_eq_false_iff, Bool.and_eq_false_iff, decide_eq_false_iff_not, beq_eq_false_iff_ne, ne_eq] at *
  omega
theorem HOrd.link {zs : List Int} {n : Nat} {F : CF} (h : HOrd zs n F) (a b : Nat) (hne : a ≠ b) : HOrd zs n (linkF F (joinHi zs a b) (joinLo zs a b)) := by
  intro y p hy hu
  unfold linkF at hu
  simp only at hu
  split at hu
  · rename_i e
    unfold joinHi joinLo at *
    by_cases hab : aheadB zs b a = true
    · rw [if_pos hab] at e hu
      obtain rfl : b = p := by omega
      subst e
      exact ⟨hne, ahead_asym zs _ _ hab⟩
    · rw [if_neg hab] at e hu
      obtain rfl : a = p := by omega
      subst e
      exact ⟨Ne.symm hne, by simpa using hab⟩
  · exact h y p hy hu
structure RI (zs : List Int) (n : Nat) (C0 C : CC) : Prop where
  sub : ∀ x, x ∈ C.L → x ∈ C0.L
  out : ∀ x : Nat, (x : Int) ∉ C0.L → C.F.u x = C0.F.u x ∧ C.F.k x = C0.F.k x
  wt : wt n C.F C.L = wt n C0.F C0.L
  ho : HOrd zs n C0.F → HOrd zs n C.F
theorem RI.refl (zs : List Int) (n : Nat) (C : CC) : RI zs n C C := ⟨fun x h => h, fun x _ => ⟨rfl, rfl⟩, rfl, fun h => h⟩
theorem RI.trans {zs : List Int} {n : Nat} {A B C : CC} (h : RI zs n A B) (k : RI zs n B C) : RI zs n A C :=
  ⟨fun x hx => h.sub x (k.sub x hx), fun x hx => by
    have h1 := h.out x hx
    have h2 := k.out x (fun hm => hx (h.sub _ hm))
    exact ⟨h2.1.trans h1.1, h2.2.trans h1.2⟩, k.wt.trans h.wt, fun hh => k.ho (h.ho hh)⟩
theorem RI.perm {zs : List Int} {n : Nat} {C D : CC} (hp : D.L.Perm C.L) (hF : D.F = C.F) : RI zs n C D :=
  ⟨fun x hx => hp.mem_iff.1 hx, fun x _ => by rw [hF]; exact ⟨rfl, rfl⟩, by rw [hF]; exact wt_perm hp, fun h => by rw [hF]; exact h⟩
theorem ri_join {zs : List Int} {n k : Nat} {C : CC} (h : G n (k + 1) (k + 1) k (k + 1) C) (hN : C.N = [] ∨ ∃ x y, C.N = [x, y]) : RI zs n C (joinC zs C) := by
  rcases hN with hN | ⟨x, y, hN⟩
  · have e : joinC zs C = C := by unfold joinC; rw [hN]
    rw [e]; exact RI.refl _ _ _
  · obtain ⟨a, b, rfl, rfl, ha, hb, hne, ra, rb, da, db⟩ := g_pair h hN
    have e : joinC zs C = { C with F := linkF C.F (joinHi zs a b) (joinLo zs a b), N := [(joinHi zs a b : Int)], q := C.q + 1 } := by unfold joinC; rw [hN]; simp
    rw [e]
    have ho := fun (hh : HOrd zs n C.F) => hh.link (zs := zs) a b hne
    obtain ⟨hi, lo, ehi, elo, hhi, hlo, hne2, dhi, dlo, hhab⟩ : ∃ hi lo, joinHi zs a b = hi ∧ joinLo zs a b = lo ∧ hi < n ∧ lo < n ∧ hi ≠ lo ∧ (C.F.k hi).length = k ∧ (C.F.k lo).length = k ∧ ((hi = a ∧ lo = b) ∨ (hi = b ∧ lo = a)) := by
      rcases joinHi_or zs a b with ⟨h1, h2⟩ | ⟨h1, h2⟩
      · exact ⟨a, b, h1, h2, ha, hb, hne, da, db, Or.inl ⟨rfl, rfl⟩⟩
      · exact ⟨b, a, h1, h2, hb, ha, Ne.symm hne, db, da, Or.inr ⟨rfl, rfl⟩⟩
    have hLp : C.L.Perm ((hi : Int) :: (lo : Int) :: (C.A ++ (C.B ++ C.O))) := by
      unfold CC.L
      rw [hN, List.perm_iff_count]
      intro y
      rcases hhab with ⟨rfl, rfl⟩ | ⟨rfl, rfl⟩ <;> simp [List.count_append, List.count_cons] <;> omega
    have hL : (CC.L { C with F := linkF C.F hi lo, N := [(hi : Int)], q := C.q + 1 }).Perm ((hi : Int) :: (C.A ++ (C.B ++ C.O))) := by
      unfold CC.L
      simp only
      rw [List.perm_iff_count]
      intro y
      simp [List.count_append, List.count_cons]
      omega
    have hnd2 := hLp.nodup_iff.1 h.nd
    rw [List.nodup_cons, List.nodup_cons] at hnd2
    rw [ehi, elo] at ho ⊢
    refine ⟨fun x hx => hLp.mem_iff.2 ?_, fun x hx => ?_, ?_, ho⟩
    · rcases List.mem_cons.1 (hL.mem_iff.1 hx) with rfl | hx
      · simp
      · exact List.mem_cons_of_mem _ (List.mem_cons_of_mem _ hx)
    · unfold linkF
      simp only
      rw [if_neg (fun e => hx (by subst e; exact hLp.mem_iff.2 (by simp))), if_neg (fun e => hx (by subst e; exact hLp.mem_iff.2 (by simp)))]
      exact ⟨rfl, rfl⟩
    · rw [wt_perm hL, wt_perm hLp]
      have hd : ∀ z, z ∈ C.A ++ (C.B ++ C.O) → degF n (linkF C.F hi lo) z = degF n C.F z := fun z hz => by
        have hr := h.rt z (hLp.mem_iff.2 (List.mem_cons_of_mem _ (List.mem_cons_of_mem _ hz)))
        rw [link_deg n C.F hhi z ⟨hr.1, hr.2.1⟩, if_neg (fun e => by subst e; exact hnd2.1 (List.mem_cons_of_mem _ hz))]
      have e1 := wt_ext hd
      have e2 : degF n (linkF C.F hi lo) (hi : Int) = (k : Int) + 1 := by rw [link_deg n C.F hhi hi (by omega), if_pos rfl, degF_nat n C.F hhi, dhi]
      have e3 : degF n C.F (hi : Int) = (k : Int) := by rw [degF_nat n C.F hhi, dhi]
      have e4 : degF n C.F (lo : Int) = (k : Int) := by rw [degF_nat n C.F hlo, dlo]
      have : ∀ (F : CF) (x : Int) (l : List Int), wt n F (x :: l) = 2 ^ (degF n F x).toNat + wt n F l := fun F x l => by unfold wt; simp
      rw [this, this, this, e1, e2, e3, e4]
      have e5 : ((k : Int) + 1).toNat = k + 1 := by omega
      rw [e5, Int.toNat_natCast, Nat.pow_succ]
      omega
theorem ri_run {zs : List Int} {n : Nat} {C0 : CC} (h : G n 0 0 0 0 C0) (hN : C0.N = []) : ∀ k, RI zs n C0 (runC zs n k C0)
  | 0 => RI.refl _ _ _
  | k + 1 => by
    obtain ⟨g, h1, h2⟩ := g_run (zs := zs) h hN k
    have g1 := g_takeA g
    have g2 := g_takeB g1
    have g3 := g_giveO g2
    have t1 := (tot_takeA n k (runC zs n k C0)).2
    have t2 := (tot_takeB n k (takeA n k (runC zs n k C0))).2
    have ev := giveO_even (C := takeB n k (takeA n k (runC zs n k C0))) (by omega)
    have r4 := ri_join (zs := zs) g3 ev
    exact ((((ri_run h hN k).trans (RI.perm (takeA_perm n k _) (takeA_F n k _))).trans (RI.perm (takeB_perm n k _) (takeB_F n k _))).trans (RI.perm (giveO_perm _) (giveO_F _))).trans r4
/-- What Carry leaves, all told. -/
structure Carried (zs : List Int) (n : Nat) (F : CF) (A B : List Int) (q : Nat) (F' : CF) (O : List Int) (q' : Nat) : Prop where
  row : RowF n F' O
  ok : FOk n F'
  cnt : q' + O.length = q + (A.length + B.length)
  sub : ∀ x, x ∈ O → x ∈ A ∨ x ∈ B
  out : ∀ x : Nat, (x : Int) ∉ A → (x : Int) ∉ B → F'.u x = F.u x ∧ F'.k x = F.k x
  wt : wt n F' O = wt n F A + wt n F B
  ho : HOrd zs n F → HOrd zs n F'
theorem carried {zs : List Int} {n : Nat} {F : CF} {A B : List Int} {q : Nat} {F' : CF} {O : List Int} {q' : Nat} (g : G n 0 0 0 0 ⟨F, A, B, [], [], q⟩) (h : CarryTo zs n ⟨F, A, B, [], [], q⟩ F' O q') : Carried zs n F A B q F' O q' := by
  obtain ⟨k, hk⟩ := h
  have g1 := g_run (zs := zs) g rfl k
  have r := ri_run (zs := zs) g rfl k
  rw [hk] at g1 r
  obtain ⟨g1, _, g2⟩ := g1
  have eL : CC.L ⟨F', [], [], [], O, q'⟩ = O := by unfold CC.L; simp
  have eL0 : CC.L ⟨F, A, B, [], [], q⟩ = A ++ B := by unfold CC.L; simp
  have s := r.sub
  have o := r.out
  have w := r.wt
  rw [eL] at s w g2
  rw [eL0] at s o w g2
  refine ⟨⟨fun x hx => g1.rt x (by rw [eL]; exact hx), g1.o1⟩, g1.f, by simpa using g2, fun x hx => by simpa using s x hx, fun x h1 h2 => o x (by simp; exact ⟨h1, h2⟩), ?_, r.ho⟩
  rw [w]
  unfold wt
  simp

theorem wt_div (c : Nat) : ∀ l : List Nat, (∀ d, d ∈ l → c ≤ d) → ∃ X, (l.map (2 ^ ·)).sum = 2 ^ c * X
  | [], _ => ⟨0, by simp⟩
  | d :: l, h => by
    obtain ⟨X, hX⟩ := wt_div c l (fun d hd => h d (by simp [hd]))
    have hd := h d (by simp)
    refine ⟨2 ^ (d - c) + X, ?_⟩
    simp only [List.map_cons, List.sum_cons]
    rw [hX, Nat.mul_add, ← Nat.pow_add, show c + (d - c) = d by omega]
/-- The binary digits of a number, and a rising list of their places. -/
theorem bits_odd {b M : Nat} {l : List Nat} (hs : l.Pairwise (· < ·)) (hb : ∀ d, d ∈ l → b ≤ d) (hw : (l.map (2 ^ ·)).sum = 2 ^ b * M) (hM : M % 2 = 1) : ∃ t, l = b :: t ∧ (∀ d, d ∈ t → b + 1 ≤ d) ∧ (t.map (2 ^ ·)).sum = 2 ^ (b + 1) * (M / 2) := by
  have h2 : 0 < 2 ^ b := Nat.two_pow_pos b
  cases l with
  | nil =>
    simp only [List.map_nil, List.sum_nil] at hw
    have := Nat.mul_pos h2 (show 0 < M by omega)
    omega
  | cons d t =>
    rw [List.pairwise_cons] at hs
    have hd := hb d (by simp)
    by_cases e : d = b
    · subst e
      have ht : ∀ x, x ∈ t → d + 1 ≤ x := fun x hx => hs.1 x hx
      refine ⟨t, rfl, ht, ?_⟩
      simp only [List.map_cons, List.sum_cons] at hw
      obtain ⟨X, hX⟩ := wt_div (d + 1) t ht
      rw [hX] at hw ⊢
      have : 2 ^ d * (1 + 2 * X) = 2 ^ d * M := by rw [← hw, Nat.mul_add, Nat.pow_succ, Nat.mul_one, Nat.mul_assoc]
      have := Nat.eq_of_mul_eq_mul_left h2 this
      rw [show M / 2 = X by omega]
    · obtain ⟨X, hX⟩ := wt_div (b + 1) (d :: t) (fun x hx => by
        rcases List.mem_cons.1 hx with rfl | hx
        · omega
        · have := hs.1 x hx; omega)
      rw [hX] at hw
      have : 2 ^ b * (2 * X) = 2 ^ b * M := by rw [← hw, Nat.pow_succ, Nat.mul_assoc]
      have := Nat.eq_of_mul_eq_mul_left h2 this
      omega
theorem bits_even {b M : Nat} {l : List Nat} (hs : l.Pairwise (· < ·)) (hb : ∀ d, d ∈ l → b ≤ d) (hw : (l.map (2 ^ ·)).sum = 2 ^ b * M) (hM : M % 2 = 0) : (∀ d, d ∈ l → b + 1 ≤ d) ∧ (l.map (2 ^ ·)).sum = 2 ^ (b + 1) * (M / 2) := by
  have h2 : 0 < 2 ^ b := Nat.two_pow_pos b
  refine ⟨?_, by rw [hw, Nat.pow_succ, Nat.mul_assoc, show 2 * (M / 2) = M by omega]⟩
  cases l with
  | nil => exact fun d hd => (by cases hd)
  | cons d t =>
    rw [List.pairwise_cons] at hs
    have hd := hb d (by simp)
    have hdb : d ≠ b := fun e => by
      subst e
      simp only [List.map_cons, List.sum_cons] at hw
      obtain ⟨X, hX⟩ := wt_div (d + 1) t (fun x hx => hs.1 x hx)
      rw [hX] at hw
      have : 2 ^ d * (1 + 2 * X) = 2 ^ d * M := by rw [← hw, Nat.mul_add, Nat.pow_succ, Nat.mul_one, Nat.mul_assoc]
      have := Nat.eq_of_mul_eq_mul_left h2 this
      omega
    intro x hx
    rcases List.mem_cons.1 hx with rfl | hx
    · omega
    · have := hs.1 x hx; omega
theorem bits_zero {b : Nat} {l : List Nat} (hw : (l.map (2 ^ ·)).sum = 2 ^ b * 0) : l = [] := by
  cases l with
  | nil => rfl
  | cons d t =>
    simp only [List.map_cons, List.sum_cons] at hw
    have : 0 < 2 ^ d := Nat.two_pow_pos d
    omega
end Go.Proofs.Ytdgohhkgmfjhaaa
