/-
  The plain law of Carry: a forest stays sound, rows stay rows, rounds end. No program in sight. Conditions: those of each lemma.
-/
import Derived.Test.YtighgbdijagolaaKarDef
set_option linter.unusedVariables false
set_option linter.unusedSimpArgs false
namespace Go.Proofs.Ytighgbdijagolaa

theorem nodup_le : ∀ (n : Nat) (l : List Int), l.Nodup → (∀ x, x ∈ l → 0 ≤ x ∧ x < n) → l.length ≤ n
  | 0, l, _, h => by
    cases l with
    | nil => simp
    | cons x r => have := h x (by simp); omega
  | n + 1, l, hn, h => by
    have h1 := nodup_le n (l.filter (fun x => x != (n : Int))) (hn.filter _) (fun x hx => by
      simp only [List.mem_filter] at hx
      have := h x hx.1
      have h2 : x ≠ n := by simpa using hx.2
      omega)
    have h2 : l.length ≤ (l.filter (fun x => x != (n : Int))).length + 1 := by
      clear h1 h
      induction l with
      | nil => simp
      | cons y r ih =>
        rw [List.nodup_cons] at hn
        by_cases hy : y = n
        · subst hy
          have e : r.filter (fun x => x != (n : Int)) = r := by
            rw [List.filter_eq_self]; intro a ha; simp; intro e; subst e; exact hn.1 ha
          rw [List.filter_cons_of_neg (by simp), e]; simp
        · have := ih hn.2
          rw [List.filter_cons_of_pos (by simpa using hy)]
          simp only [List.length_cons]; omega
    omega
/-- A sound forest: what is below has its place; children are each of another degree, from 0 on. -/
structure FOk (n : Nat) (F : CF) : Prop where
  rng : ∀ x, x < n → ∀ y, y ∈ F.k x → 0 ≤ y ∧ y < n ∧ F.u y.toNat = x
  nd : ∀ x, x < n → (F.k x).Nodup
  up : ∀ y, y < n → F.u y = -1 ∨ ∃ p : Nat, p < n ∧ F.u y = p ∧ (y : Int) ∈ F.k p
  cube : ∀ x, x < n → ∀ i z, (F.k x)[i]? = some z → (F.k z.toNat).length = i
theorem fok_none (n : Nat) : FOk n CS.none.f := ⟨fun x _ y hy => (by cases hy), fun x _ => List.nodup_nil, fun y _ => Or.inl rfl, fun x _ i z h => by simp [CS.none, CS.f] at h⟩
theorem FOk.self {n : Nat} {F : CF} (h : FOk n F) {x : Nat} (hx : x < n) : (x : Int) ∉ F.k x := fun hm => by
  obtain ⟨i, hi, he⟩ := List.getElem_of_mem hm
  have := h.cube x hx i x (by rw [List.getElem?_eq_getElem hi, he])
  simp at this
  omega
theorem FOk.len {n : Nat} {F : CF} (h : FOk n F) {x : Nat} (hx : x < n) : (F.k x).length + 1 ≤ n := by
  have := nodup_le n ((x : Int) :: F.k x) (List.nodup_cons.2 ⟨h.self hx, h.nd x hx⟩) (fun y hy => by
    rcases List.mem_cons.1 hy with rfl | hy
    · omega
    · have := h.rng x hx y hy; omega)
  simpa using this
theorem FOk.link {n : Nat} {F : CF} (h : FOk n F) {a b : Nat} (ha : a < n) (hb : b < n) (hne : a ≠ b) (ra : F.u a = -1) (rb : F.u b = -1) (hd : (F.k a).length = (F.k b).length) : FOk n (linkF F a b) := by
  have nb : ∀ x, x < n → (b : Int) ∉ F.k x := fun x hx hm => by
    have := (h.rng x hx b hm).2.2
    simp at this
    omega
  have na : ∀ x, x < n → (a : Int) ∉ F.k x := fun x hx hm => by
    have := (h.rng x hx a hm).2.2
    simp at this
    omega
  refine ⟨fun x hx y hy => ?_, fun x hx => ?_, fun y hy => ?_, fun x hx i z hz => ?_⟩
  · unfold linkF at hy ⊢
    simp only at hy ⊢
    split at hy
    · rename_i e
      subst e
      rcases List.mem_append.1 hy with hy | hy
      · obtain ⟨h1, h2, h3⟩ := h.rng x hx y hy
        refine ⟨h1, h2, ?_⟩
        rw [if_neg (fun e => by rw [e, rb] at h3; omega)]; exact h3
      · simp at hy
        subst hy
        exact ⟨by omega, by omega, by simp⟩
    · obtain ⟨h1, h2, h3⟩ := h.rng x hx y hy
      refine ⟨h1, h2, ?_⟩
      rw [if_neg (fun e => by rw [e, rb] at h3; omega)]; exact h3
  · unfold linkF
    simp only
    split
    · rw [List.nodup_append]
      exact ⟨h.nd a ha, by simp, fun y hy z hz e => by simp at hz; subst hz; subst e; exact nb a ha hy⟩
    · exact h.nd x hx
  · unfold linkF
    simp only
    by_cases hyb : y = b
    · subst hyb
      exact Or.inr ⟨a, ha, by simp, by simp⟩
    · rw [if_neg hyb]
      rcases h.up y hy with h1 | ⟨p, hp, h1, h2⟩
      · exact Or.inl h1
      · refine Or.inr ⟨p, hp, h1, ?_⟩
        split
        · rename_i e; subst e; exact List.mem_append.2 (Or.inl h2)
        · exact h2
  · have kz : ∀ z, z ∈ F.k x → (linkF F a b).k z.toNat = F.k z.toNat := fun z hz => by
      unfold linkF
      simp only
      rw [if_neg (fun e => by
        have := h.rng x hx z hz
        exact na x hx (by rw [← e, show ((z.toNat : Nat) : Int) = z by omega]; exact hz))]
    have hz' := hz
    unfold linkF at hz'
    simp only at hz'
    split at hz'
    · rename_i e
      subst e
      rcases Nat.lt_or_ge i (F.k x).length with hi | hi
      · rw [List.getElem?_append_left hi] at hz'
        rw [kz z (List.mem_of_getElem? hz')]
        exact h.cube x hx i z hz'
      · have hil : i = (F.k x).length := by
          have := (List.getElem?_eq_some_iff.1 hz').1
          simp at this; omega
        subst hil
        rw [List.getElem?_append_right (Nat.le_refl _)] at hz'
        simp at hz'
        subst hz'
        unfold linkF
        simp only [Int.toNat_natCast]
        rw [if_neg (fun e => hne (by omega)), hd]
    · rw [kz z (List.mem_of_getElem? hz')]
      exact h.cube x hx i z hz'

/-- All that are in hand. -/
def CC.L (C : CC) : List Int := C.A ++ (C.B ++ (C.N ++ C.O))
/-- Where a round stands: roots, each once; degrees. -/
structure G (n ka kb kn ko : Nat) (C : CC) : Prop where
  f : FOk n C.F
  rt : ∀ x, x ∈ C.L → 0 ≤ x ∧ x < n ∧ C.F.u x.toNat = -1
  nd : C.L.Nodup
  a1 : C.A.Pairwise (fun x y => degF n C.F x < degF n C.F y)
  a2 : ∀ x, x ∈ C.A → (ka : Int) ≤ degF n C.F x
  b1 : C.B.Pairwise (fun x y => degF n C.F x < degF n C.F y)
  b2 : ∀ x, x ∈ C.B → (kb : Int) ≤ degF n C.F x
  n1 : ∀ x, x ∈ C.N → degF n C.F x = kn
  o1 : C.O.Pairwise (fun x y => degF n C.F x < degF n C.F y)
  o2 : ∀ x, x ∈ C.O → degF n C.F x < ko
theorem takeA_perm (n k : Nat) (C : CC) : (takeA n k C).L.Perm C.L := by
  obtain ⟨F, A, B, N, O, q⟩ := C
  unfold takeA
  split
  · rename_i x t h
    simp only at h
    subst h
    split
    · unfold CC.L
      simp only
      rw [List.perm_iff_count]
      intro y
      simp [List.count_append, List.count_cons]
      omega
    · exact List.Perm.refl _
  · exact List.Perm.refl _
theorem takeB_perm (n k : Nat) (C : CC) : (takeB n k C).L.Perm C.L := by
  obtain ⟨F, A, B, N, O, q⟩ := C
  unfold takeB
  split
  · rename_i x t h
    simp only at h
    subst h
    split
    · unfold CC.L
      simp only
      rw [List.perm_iff_count]
      intro y
      simp [List.count_append, List.count_cons]
      omega
    · exact List.Perm.refl _
  · exact List.Perm.refl _
theorem giveO_perm (C : CC) : (giveO C).L.Perm C.L := by
  obtain ⟨F, A, B, N, O, q⟩ := C
  unfold giveO
  split
  · rename_i x h
    simp only at h
    subst h
    unfold CC.L
    simp only
    rw [List.perm_iff_count]
    intro y
    simp [List.count_append, List.count_cons]
    try omega
  · rename_i x y z h
    simp only at h
    subst h
    unfold CC.L
    simp only
    rw [List.perm_iff_count]
    intro y
    simp [List.count_append, List.count_cons]
    try omega
  · exact List.Perm.refl _
theorem takeA_F (n k : Nat) (C : CC) : (takeA n k C).F = C.F := by unfold takeA; split; (split <;> rfl); rfl
theorem takeB_F (n k : Nat) (C : CC) : (takeB n k C).F = C.F := by unfold takeB; split; (split <;> rfl); rfl
theorem giveO_F (C : CC) : (giveO C).F = C.F := by unfold giveO; split <;> rfl
theorem g_takeA {n k : Nat} {C : CC} (h : G n k k k k C) : G n (k + 1) k k k (takeA n k C) := by
  have hp := takeA_perm n k C
  have hF := takeA_F n k C
  have rt := fun x (hx : x ∈ (takeA n k C).L) => h.rt x (hp.mem_iff.1 hx)
  have nd := hp.nodup_iff.2 h.nd
  have key : ((takeA n k C).A.Pairwise (fun x y => degF n C.F x < degF n C.F y)) ∧ (∀ x, x ∈ (takeA n k C).A → ((k + 1 : Nat) : Int) ≤ degF n C.F x) ∧ (takeA n k C).B = C.B ∧ (∀ x, x ∈ (takeA n k C).N → degF n C.F x = k) ∧ (takeA n k C).O = C.O := by
    obtain ⟨F, A, B, N, O, q⟩ := C
    have a1 := h.a1
    have a2 := h.a2
    have n1 := h.n1
    simp only at a1 a2 n1
    unfold takeA
    rcases A with _ | ⟨x, t⟩
    · exact ⟨List.Pairwise.nil, fun x hx => by (cases hx), rfl, n1, rfl⟩
    · simp only
      rw [List.pairwise_cons] at a1
      have hx := a2 x (by simp)
      split
      · rename_i hd
        refine ⟨a1.2, fun y hy => ?_, rfl, fun y hy => ?_, rfl⟩
        · have := a1.1 y hy; omega
        · simp only at hy
          rcases List.mem_append.1 hy with hy | hy
          · exact n1 y hy
          · simp at hy; subst hy; exact hd
      · rename_i hd
        refine ⟨List.pairwise_cons.2 a1, fun y hy => ?_, rfl, n1, rfl⟩
        rcases List.mem_cons.1 hy with rfl | hy
        · omega
        · have := a1.1 y hy; omega
  obtain ⟨k1, k2, k3, k4, k5⟩ := key
  rw [← hF] at k1 k2 k4
  exact ⟨by rw [hF]; exact h.f, fun x hx => by rw [hF]; exact rt x hx, nd, k1, k2, by rw [k3, hF]; exact h.b1, by rw [k3, hF]; exact h.b2, k4, by rw [k5, hF]; exact h.o1, by rw [k5, hF]; exact h.o2⟩
theorem g_takeB {n k : Nat} {C : CC} (h : G n (k + 1) k k k C) : G n (k + 1) (k + 1) k k (takeB n k C) := by
  have hp := takeB_perm n k C
  have hF := takeB_F n k C
  have rt := fun x (hx : x ∈ (takeB n k C).L) => h.rt x (hp.mem_iff.1 hx)
  have nd := hp.nodup_iff.2 h.nd
  have key : ((takeB n k C).B.Pairwise (fun x y => degF n C.F x < degF n C.F y)) ∧ (∀ x, x ∈ (takeB n k C).B → ((k + 1 : Nat) : Int) ≤ degF n C.F x) ∧ (takeB n k C).A = C.A ∧ (∀ x, x ∈ (takeB n k C).N → degF n C.F x = k) ∧ (takeB n k C).O = C.O := by
    obtain ⟨F, A, B, N, O, q⟩ := C
    have a1 := h.b1
    have a2 := h.b2
    have n1 := h.n1
    simp only at a1 a2 n1
    unfold takeB
    rcases B with _ | ⟨x, t⟩
    · exact ⟨List.Pairwise.nil, fun x hx => by (cases hx), rfl, n1, rfl⟩
    · simp only
      rw [List.pairwise_cons] at a1
      have hx := a2 x (by simp)
      split
      · rename_i hd
        refine ⟨a1.2, fun y hy => ?_, rfl, fun y hy => ?_, rfl⟩
        · have := a1.1 y hy; omega
        · simp only at hy
          rcases List.mem_append.1 hy with hy | hy
          · exact n1 y hy
          · simp at hy; subst hy; exact hd
      · rename_i hd
        refine ⟨List.pairwise_cons.2 a1, fun y hy => ?_, rfl, n1, rfl⟩
        rcases List.mem_cons.1 hy with rfl | hy
        · omega
        · have := a1.1 y hy; omega
  obtain ⟨k1, k2, k3, k4, k5⟩ := key
  rw [← hF] at k1 k2 k4
  exact ⟨by rw [hF]; exact h.f, fun x hx => by rw [hF]; exact rt x hx, nd, by rw [k3, hF]; exact h.a1, by rw [k3, hF]; exact h.a2, k1, k2, k4, by rw [k5, hF]; exact h.o1, by rw [k5, hF]; exact h.o2⟩
theorem g_giveO {n k : Nat} {C : CC} (h : G n (k + 1) (k + 1) k k C) : G n (k + 1) (k + 1) k (k + 1) (giveO C) := by
  have hp := giveO_perm C
  have hF := giveO_F C
  have rt := fun x (hx : x ∈ (giveO C).L) => h.rt x (hp.mem_iff.1 hx)
  have nd := hp.nodup_iff.2 h.nd
  have key : (giveO C).A = C.A ∧ (giveO C).B = C.B ∧ (∀ x, x ∈ (giveO C).N → x ∈ C.N) ∧ ((giveO C).O = C.O ∨ ∃ x, x ∈ C.N ∧ (giveO C).O = C.O ++ [x]) := by
    unfold giveO
    split
    · rename_i x hx
      exact ⟨rfl, rfl, fun y hy => by (cases hy), Or.inr ⟨x, by rw [hx]; simp, rfl⟩⟩
    · rename_i x y z hx
      exact ⟨rfl, rfl, fun u hu => by rw [hx]; exact List.mem_cons_of_mem _ hu, Or.inr ⟨x, by rw [hx]; simp, rfl⟩⟩
    · exact ⟨rfl, rfl, fun y hy => hy, Or.inl rfl⟩
  obtain ⟨k1, k2, k3, k4⟩ := key
  refine ⟨by rw [hF]; exact h.f, fun x hx => by rw [hF]; exact rt x hx, nd, by rw [k1, hF]; exact h.a1, by rw [k1, hF]; exact h.a2, by rw [k2, hF]; exact h.b1, by rw [k2, hF]; exact h.b2, fun x hx => by rw [hF]; exact h.n1 x (k3 x hx), ?_, ?_⟩
  · rw [hF]
    rcases k4 with e | ⟨x, hx, e⟩
    · rw [e]; exact h.o1
    · rw [e, List.pairwise_append]
      exact ⟨h.o1, List.pairwise_singleton _ _, fun y hy z hz => by simp at hz; subst hz; rw [h.n1 z hx]; exact h.o2 y hy⟩
  · rw [hF]
    intro y hy
    rcases k4 with e | ⟨x, hx, e⟩
    · rw [e] at hy; have := h.o2 y hy; omega
    · rw [e] at hy
      rcases List.mem_append.1 hy with hy | hy
      · have := h.o2 y hy; omega
      · simp at hy; subst hy; rw [h.n1 y hx]; omega

theorem giveO_even {C : CC} (h : C.N.length ≤ 3) : (giveO C).N = [] ∨ ∃ x y, (giveO C).N = [x, y] := by
  obtain ⟨F, A, B, N, O, q⟩ := C
  simp only at h
  match N, h with
  | [], _ => exact Or.inl rfl
  | [x], _ => exact Or.inl rfl
  | [x, y], _ => exact Or.inr ⟨x, y, rfl⟩
  | [x, y, z], _ => exact Or.inr ⟨y, z, rfl⟩
  | _ :: _ :: _ :: _ :: _, h => simp at h; try omega
theorem degF_nat (n : Nat) (F : CF) {x : Nat} (hx : x < n) : degF n F x = (F.k x).length := by unfold degF; rw [if_pos (by omega)]; simp
theorem link_deg (n : Nat) (F : CF) {a b : Nat} (ha : a < n) (x : Int) (hx : 0 ≤ x ∧ x < n) : degF n (linkF F a b) x = if x = a then degF n F a + 1 else degF n F x := by
  obtain ⟨y, rfl⟩ := Int.eq_ofNat_of_zero_le hx.1
  have hy : y < n := by omega
  rw [degF_nat _ _ hy, degF_nat _ _ ha, degF_nat _ _ hy]
  unfold linkF
  simp only
  by_cases e : y = a
  · subst e; simp
  · rw [if_neg e, if_neg (by omega)]
/-- What join is given. -/
theorem g_pair {n k : Nat} {C : CC} (h : G n (k + 1) (k + 1) k (k + 1) C) {x y : Int} (hN : C.N = [x, y]) : ∃ a b : Nat, x = a ∧ y = b ∧ a < n ∧ b < n ∧ a ≠ b ∧ C.F.u a = -1 ∧ C.F.u b = -1 ∧ (C.F.k a).length = k ∧ (C.F.k b).length = k := by
  have hx := h.rt x (by unfold CC.L; rw [hN]; simp)
  have hy := h.rt y (by unfold CC.L; rw [hN]; simp)
  have dx := h.n1 x (by rw [hN]; simp)
  have dy := h.n1 y (by rw [hN]; simp)
  obtain ⟨a, rfl⟩ := Int.eq_ofNat_of_zero_le hx.1
  obtain ⟨b, rfl⟩ := Int.eq_ofNat_of_zero_le hy.1
  have ha : a < n := by omega
  have hb : b < n := by omega
  rw [degF_nat _ _ ha] at dx
  rw [degF_nat _ _ hb] at dy
  refine ⟨a, b, rfl, rfl, ha, hb, fun e => ?_, by simpa using hx.2.2, by simpa using hy.2.2, by omega, by omega⟩
  subst e
  have := h.nd
  unfold CC.L at this
  rw [hN] at this
  rw [List.nodup_append] at this
  have := this.2.1
  rw [List.nodup_append] at this
  have := this.2.1
  simp at this
theorem joinHi_or (lt : Int → Int → Bool) (a b : Nat) : (joinHi lt a b = a ∧ joinLo lt a b = b) ∨ (joinHi lt a b = b ∧ joinLo lt a b = a) := by
  unfold joinHi joinLo
  split
  · exact Or.inr ⟨rfl, rfl⟩
  · exact Or.inl ⟨rfl, rfl⟩
theorem g_join {lt : Int → Int → Bool} {n k : Nat} {C : CC} (h : G n (k + 1) (k + 1) k (k + 1) C) (hN : C.N = [] ∨ ∃ x y, C.N = [x, y]) : G n (k + 1) (k + 1) (k + 1) (k + 1) (joinC lt C) ∧ (joinC lt C).N.length ≤ 1 ∧ (joinC lt C).q + (joinC lt C).L.length = C.q + C.L.length := by
  rcases hN with hN | ⟨x, y, hN⟩
  · have e : joinC lt C = C := by unfold joinC; rw [hN]
    rw [e]
    exact ⟨⟨h.f, h.rt, h.nd, h.a1, h.a2, h.b1, h.b2, fun x hx => (by rw [hN] at hx; cases hx), h.o1, h.o2⟩, by rw [hN]; simp, rfl⟩
  · obtain ⟨a, b, rfl, rfl, ha, hb, hne, ra, rb, da, db⟩ := g_pair h hN
    have e : joinC lt C = { C with F := linkF C.F (joinHi lt a b) (joinLo lt a b), N := [(joinHi lt a b : Int)], q := C.q + 1 } := by unfold joinC; rw [hN]; simp
    have hm : ∀ z, z ∈ C.A ++ (C.B ++ C.O) → z ∈ C.L ∧ z ≠ a ∧ z ≠ b := fun z hz => by
      have hnd := h.nd
      unfold CC.L at hnd ⊢
      rw [hN] at hnd ⊢
      have hp : (C.A ++ (C.B ++ ([(a : Int), (b : Int)] ++ C.O))).Perm ((a : Int) :: (b : Int) :: (C.A ++ (C.B ++ C.O))) := by
        rw [List.perm_iff_count]
        intro y
        simp [List.count_append, List.count_cons]
        omega
      have hnd2 := hp.nodup_iff.1 hnd
      rw [List.nodup_cons, List.nodup_cons] at hnd2
      refine ⟨hp.mem_iff.2 (List.mem_cons_of_mem _ (List.mem_cons_of_mem _ hz)), fun e => ?_, fun e => ?_⟩
      · subst e; exact hnd2.1 (List.mem_cons_of_mem _ hz)
      · subst e; exact hnd2.2.1 hz
    have hmA : ∀ z, z ∈ C.A → z ∈ C.A ++ (C.B ++ C.O) := fun z hz => by simp [hz]
    have hmB : ∀ z, z ∈ C.B → z ∈ C.A ++ (C.B ++ C.O) := fun z hz => by simp [hz]
    have hmO : ∀ z, z ∈ C.O → z ∈ C.A ++ (C.B ++ C.O) := fun z hz => by simp [hz]
    obtain ⟨hi, lo, ehi, elo, hhi, hlo, hne2, rhi, rlo, dhi, dlo, hhab⟩ : ∃ hi lo, joinHi lt a b = hi ∧ joinLo lt a b = lo ∧ hi < n ∧ lo < n ∧ hi ≠ lo ∧ C.F.u hi = -1 ∧ C.F.u lo = -1 ∧ (C.F.k hi).length = k ∧ (C.F.k lo).length = k ∧ ((hi = a ∧ lo = b) ∨ (hi = b ∧ lo = a)) := by
      rcases joinHi_or lt a b with ⟨h1, h2⟩ | ⟨h1, h2⟩
      · exact ⟨a, b, h1, h2, ha, hb, hne, ra, rb, da, db, Or.inl ⟨rfl, rfl⟩⟩
      · exact ⟨b, a, h1, h2, hb, ha, Ne.symm hne, rb, ra, db, da, Or.inr ⟨rfl, rfl⟩⟩
    have hfar : ∀ z, z ∈ C.A ++ (C.B ++ C.O) → z ≠ (hi : Int) ∧ z ≠ (lo : Int) := fun z hz => by
      have := hm z hz
      rcases hhab with ⟨rfl, rfl⟩ | ⟨rfl, rfl⟩
      · exact this.2
      · exact ⟨this.2.2, this.2.1⟩
    have hdeg : ∀ z, z ∈ C.A ++ (C.B ++ C.O) → degF n (linkF C.F hi lo) z = degF n C.F z := fun z hz => by
      have hr := h.rt z (hm z hz).1
      rw [link_deg n C.F hhi z ⟨hr.1, hr.2.1⟩, if_neg (hfar z hz).1]
    rw [e, ehi, elo]
    have hL : (CC.L { C with F := linkF C.F hi lo, N := [(hi : Int)], q := C.q + 1 }).Perm ((hi : Int) :: (C.A ++ (C.B ++ C.O))) := by
      unfold CC.L
      simp only
      rw [List.perm_iff_count]
      intro y
      simp [List.count_append, List.count_cons]
      omega
    refine ⟨⟨h.f.link hhi hlo hne2 rhi rlo (by rw [dhi, dlo]), fun z hz => ?_, hL.nodup_iff.2 (List.nodup_cons.2 ⟨fun hm2 => (hfar _ hm2).1 rfl, ?_⟩), ?_, ?_, ?_, ?_, ?_, ?_, ?_⟩, by simp, ?_⟩
    · rcases List.mem_cons.1 (hL.mem_iff.1 hz) with rfl | hz
      · refine ⟨by omega, by omega, ?_⟩
        unfold linkF
        simp only [Int.toNat_natCast]
        rw [if_neg hne2]; exact rhi
      · have hr := h.rt z (hm z hz).1
        refine ⟨hr.1, hr.2.1, ?_⟩
        unfold linkF
        simp only
        rw [if_neg (fun e => by have := (hfar z hz).2; omega)]
        exact hr.2.2
    · have hnd := h.nd
      unfold CC.L at hnd
      rw [hN] at hnd
      have hp : (C.A ++ (C.B ++ ([(a : Int), (b : Int)] ++ C.O))).Perm ((a : Int) :: (b : Int) :: (C.A ++ (C.B ++ C.O))) := by
        rw [List.perm_iff_count]
        intro y
        simp [List.count_append, List.count_cons]
        omega
      have hnd2 := hp.nodup_iff.1 hnd
      rw [List.nodup_cons, List.nodup_cons] at hnd2
      exact hnd2.2.2
    · exact h.a1.imp_of_mem (fun {x y} hx hy hxy => by rw [hdeg x (hmA x hx), hdeg y (hmA y hy)]; exact hxy)
    · intro x hx
      show _ ≤ degF n (linkF C.F hi lo) x
      rw [hdeg x (hmA x hx)]; exact h.a2 x hx
    · exact h.b1.imp_of_mem (fun {x y} hx hy hxy => by rw [hdeg x (hmB x hx), hdeg y (hmB y hy)]; exact hxy)
    · intro x hx
      show _ ≤ degF n (linkF C.F hi lo) x
      rw [hdeg x (hmB x hx)]; exact h.b2 x hx
    · intro x hx
      simp at hx
      subst hx
      show degF n (linkF C.F hi lo) (hi : Int) = _
      rw [link_deg n C.F hhi hi (by omega), if_pos rfl, degF_nat n C.F hhi, dhi]; omega
    · exact h.o1.imp_of_mem (fun {x y} hx hy hxy => by rw [hdeg x (hmO x hx), hdeg y (hmO y hy)]; exact hxy)
    · intro x hx
      show degF n (linkF C.F hi lo) x < _
      rw [hdeg x (hmO x hx)]; exact h.o2 x hx
    · unfold CC.L
      simp only [List.length_append, List.length_cons, List.length_nil, hN]
      omega
/-- Round by round. -/
theorem g_run {lt : Int → Int → Bool} {n : Nat} {C0 : CC} (h : G n 0 0 0 0 C0) (hN : C0.N = []) : ∀ k, G n k k k k (runC lt n k C0) ∧ (runC lt n k C0).N.length ≤ 1 ∧ (runC lt n k C0).q + (runC lt n k C0).L.length = C0.q + C0.L.length
  | 0 => ⟨h, by rw [runC, hN]; simp, rfl⟩
  | k + 1 => by
    obtain ⟨g, h1, h2⟩ := g_run (lt := lt) h hN k
    have g1 := g_takeA g
    have g2 := g_takeB g1
    have g3 := g_giveO g2
    have t1 := (tot_takeA n k (runC lt n k C0)).2
    have t2 := (tot_takeB n k (takeA n k (runC lt n k C0))).2
    have ev := giveO_even (C := takeB n k (takeA n k (runC lt n k C0))) (by omega)
    obtain ⟨g4, h3, h4⟩ := g_join (lt := lt) g3 ev
    refine ⟨g4, h3, ?_⟩
    rw [runC]
    unfold stepC
    rw [h4, q_same, (giveO_perm _).length_eq, (takeB_perm _ _ _).length_eq, (takeA_perm _ _ _).length_eq]
    exact h2
end Go.Proofs.Ytighgbdijagolaa
