/-
  Binomial heaps beside the document's nest, plainly: what comes in, what comes out, what is melded. No program in sight. Conditions: those of each lemma.
-/
import Derived.Test.YtighgbdijagolaaBnQ
set_option linter.unusedVariables false
set_option linter.unusedSimpArgs false
namespace Go.Proofs.Ytighgbdijagolaa

theorem aheadN_asym (A : NS) (a b : Int) (h : aheadN A a b = true) : aheadN A b a = false := by
  unfold aheadN at *
  simp only [Bool.and_eq_true, decide_eq_true_eq] at h
  have := lt3_asym h.2
  simp [this]
theorem ahead_no {A : NS} {y p : Nat} (hy : inN A (y : Int) = true) (hp : inN A (p : Int) = true) (hne : y ≠ p) (h : aheadN A y p = false) : lt3 A p y := by
  rw [ahead_nat, hy, hp] at h
  simp only [Bool.and_self, Bool.true_and, decide_eq_false_iff_not] at h
  exact (lt3_total hne).resolve_left h
def takeB' (G : BG) (h x : Nat) : BG := ⟨splitF G.F x, setR G.R h ((G.R h).filter (fun z => z != (x : Int)))⟩
/-- A root comes out of its heap. -/
def takeG (A : NS) (h x : Nat) (G : BG) : BG := addG (aheadN A) A.cs.length h (G.F.k x) (takeB' G h x)
def takeQ (A : NS) (h x : Nat) (G : BG) : Nat := (carC (aheadN A) A.cs.length (takeB' G h x).F ((takeB' G h x).R h) (G.F.k x)).q
theorem filter_len {l : List Int} (hn : l.Nodup) {x : Int} (hx : x ∈ l) : (l.filter (fun z => z != x)).length + 1 = l.length := by
  induction l with
  | nil => cases hx
  | cons y r ih =>
    rw [List.nodup_cons] at hn
    rcases List.mem_cons.1 hx with e | h
    · subst e
      have : r.filter (fun z => z != x) = r := by
        rw [List.filter_eq_self]; intro a ha; simp; intro e; subst e; exact hn.1 ha
      rw [List.filter_cons_of_neg (by simp), this]; simp
    · have hne : y ≠ x := fun e => by subst e; exact hn.1 h
      rw [List.filter_cons_of_pos (by simpa using hne)]
      have := ih hn.2 h
      simp only [List.length_cons]; omega
theorem filter_wt {n : Nat} {F : CF} {l : List Int} (hn : l.Nodup) {x : Int} (hx : x ∈ l) : wt n F (l.filter (fun z => z != x)) + 2 ^ (degF n F x).toNat = wt n F l := by
  have hc : ∀ (y : Int) (l : List Int), wt n F (y :: l) = 2 ^ (degF n F y).toNat + wt n F l := fun y l => by unfold wt; simp
  induction l with
  | nil => cases hx
  | cons y r ih =>
    rw [List.nodup_cons] at hn
    rcases List.mem_cons.1 hx with e | h
    · subst e
      have : r.filter (fun z => z != x) = r := by
        rw [List.filter_eq_self]; intro a ha; simp; intro e; subst e; exact hn.1 ha
      rw [List.filter_cons_of_neg (by simp), this, hc]; omega
    · have hne : y ≠ x := fun e => by subst e; exact hn.1 h
      rw [List.filter_cons_of_pos (by simpa using hne), hc, hc]
      have := ih hn.2 h
      omega
section
variable {A : NS} {G : BG} {h x : Nat}
theorem take_bn (B : BnX A G x) (ok : A.Ok) (hx : x < A.cs.length) (hr : G.F.u x = -1) (hin : 0 < (A.c x).i) (hh : (A.c x).i = h) :
    BnI (dropN A x) (takeG A h x G) ∧ takeQ A h x G + ((takeG A h x G).R h).length + 1 = (G.R h).length + (G.F.k x).length ∧ (x : Int) ∈ G.R h ∧
      RowF A.cs.length (splitF G.F x) ((G.R h).filter (fun z => z != (x : Int))) ∧ RowF A.cs.length (splitF G.F x) (G.F.k x) ∧ (∀ z, z ∈ (G.R h).filter (fun z => z != (x : Int)) → z ∉ G.F.k x) ∧ FOk A.cs.length (splitF G.F x) ∧
      (∀ z, z ∈ G.R h ∨ z ∈ G.F.k x → inN A z = true) := by
  have hh1 : 1 ≤ h := by omega
  have hn := ok.c1
  have inx : inN A (x : Int) = true := (inN_nat _ _).2 ⟨hx, hin⟩
  have hc := fun y => drop_c inx y
  have hcs := drop_len A (x : Int)
  have dn := B.fh.f.nd x hx
  have ku : ∀ z, z ∈ G.F.k x → ∃ y : Nat, z = y ∧ y < A.cs.length ∧ G.F.u y = x := fun z hz => by
    obtain ⟨y, h1, h2, h3, _⟩ := B.fh.f.below hx hz
    exact ⟨y, h1, h2, h3⟩
  have sx : (x : Int) ∉ G.F.k x := B.fh.f.self hx
  have dS : ∀ z : Int, z ≠ x → degF A.cs.length (splitF G.F x) z = degF A.cs.length G.F z := fun z hz => by
    unfold degF splitF
    simp only
    by_cases h0 : 0 ≤ z ∧ z < A.cs.length
    · rw [if_pos h0, if_pos h0, if_neg (by omega)]
    · rw [if_neg h0, if_neg h0]
  have uS : ∀ z : Int, 0 ≤ z → G.F.u z.toNat = -1 → (splitF G.F x).u z.toNat = -1 := fun z h0 hu => by
    unfold splitF
    simp only
    split
    · rfl
    · exact hu
  have kU : ∀ z, z ∈ G.F.k x → (splitF G.F x).u z.toNat = -1 := fun z hz => by
    obtain ⟨y, rfl, _, _⟩ := ku z hz
    unfold splitF
    simp only [Int.toNat_natCast]
    rw [if_pos hz]
  have mx : (x : Int) ∈ G.R h := (B.rh.mem h x).2 ⟨hh1, hx, hr, hh⟩
  have hrow : ∀ k, RowF A.cs.length (splitF G.F x) ((takeB' G h x).R k) := fun k => by
    have base : ∀ l : List Int, RowF A.cs.length G.F l → (x : Int) ∉ l → RowF A.cs.length (splitF G.F x) l := fun l hl hxl => by
      refine ⟨fun z hz => ?_, hl.2.imp_of_mem (fun {a b} ha hb hab => ?_)⟩
      · have := hl.1 z hz
        exact ⟨this.1, this.2.1, uS z this.1 this.2.2⟩
      · rw [dS a (fun e => hxl (e ▸ ha)), dS b (fun e => hxl (e ▸ hb))]; exact hab
    unfold takeB' setR
    simp only
    split
    · refine base _ ⟨fun z hz => (B.rh.row h).1 z (List.mem_filter.1 hz).1, (B.rh.row h).2.filter _⟩ (fun hm => by simp at hm)
    · rename_i hk
      exact base _ (B.rh.row k) (fun hm => hk (by have := ((B.rh.mem k x).1 hm).2.2.2; omega))
  have hl : RowF A.cs.length (splitF G.F x) (G.F.k x) := kids_row B.fh.f hx (fun z hz => dS z (fun e => sx (e ▸ hz))) kU
  have hd : ∀ z, z ∈ (takeB' G h x).R h → z ∉ G.F.k x := fun z hz hk => by
    unfold takeB' setR at hz
    simp only [if_true] at hz
    obtain ⟨y, rfl, hy, hu⟩ := ku z hk
    have := ((B.rh.mem h y).1 (List.mem_filter.1 hz).1).2.2.1
    omega
  have hF : FH A.cs.length (splitF G.F x) (fun y => ((dropN A x).c y).i) (lt3 (dropN A x)) := by
    refine ⟨B.fh.f.split2 hx hr, fun y p hy hu => ?_, fun y p hy hu => ?_, fun y hy h0 => ?_⟩
    all_goals unfold splitF at *; simp only at *
    · split at hu
      · omega
      · rename_i hk
        have hyx : y ≠ x := fun e => by subst e; omega
        have hpx : p ≠ x := fun e => by subst e; exact hk (B.fh.f.above hy hu).2
        rw [hc, hc, if_neg hyx, if_neg hpx]
        exact B.fh.home y p hy hu
    · split at hu
      · omega
      · rename_i hk
        have hyx : y ≠ x := fun e => by subst e; omega
        have hpx : p ≠ x := fun e => by subst e; exact hk (B.fh.f.above hy hu).2
        exact (lt3_same (by rw [hc, if_neg hpx]) (by rw [hc, if_neg hyx])).2 (B.fh.ord y p hy hu hyx hpx)
    · by_cases hyx : y = x
      · subst hyx
        exact ⟨by rw [if_neg sx]; exact hr, by rw [if_pos rfl]⟩
      · rw [hc, if_neg hyx] at h0
        have := B.fh.alone y hy h0
        rw [if_neg hyx, this.2]
        exact ⟨by split; rfl; exact this.1, rfl⟩
  have hL : ∀ y p : Nat, y < A.cs.length → p < A.cs.length → ((dropN A x).c y).i = (h : Int) → ((dropN A x).c p).i = (h : Int) → y ≠ p → aheadN A y p = false → lt3 (dropN A x) p y := fun y p hy hp h1 h2 hne ha => by
    have hyx : y ≠ x := fun e => by rw [hc, if_pos e] at h1; simp [Cl.z] at h1; omega
    have hpx : p ≠ x := fun e => by rw [hc, if_pos e] at h2; simp [Cl.z] at h2; omega
    rw [hc, if_neg hyx] at h1
    rw [hc, if_neg hpx] at h2
    exact (lt3_same (by rw [hc, if_neg hpx]) (by rw [hc, if_neg hyx])).2 (ahead_no ((inN_nat _ _).2 ⟨hy, by omega⟩) ((inN_nat _ _).2 ⟨hp, by omega⟩) hne ha)
  have hroot : ∀ y : Nat, y < A.cs.length → ((splitF G.F x).u y = -1 ↔ G.F.u y = -1 ∨ G.F.u y = x) := fun y hy => by
    unfold splitF
    simp only
    have hk := kid_iff B.fh.f hx hy
    by_cases e : G.F.u y = x
    · rw [if_pos (hk.2 e)]; exact ⟨fun _ => Or.inr e, fun _ => rfl⟩
    · rw [if_neg (fun hm => e (hk.1 hm))]; exact ⟨fun h => Or.inl h, fun h => h.resolve_right e⟩
  have hmem : ∀ k y : Nat, k ≠ h → ((y : Int) ∈ (takeB' G h x).R k ↔ 1 ≤ k ∧ y < A.cs.length ∧ (splitF G.F x).u y = -1 ∧ ((dropN A x).c y).i = (k : Int)) := fun k y hk => by
    unfold takeB' setR
    simp only [if_neg hk]
    rw [B.rh.mem k y]
    constructor
    · rintro ⟨a1, a2, a3, a4⟩
      have hyx : y ≠ x := fun e => by subst e; omega
      exact ⟨a1, a2, (hroot y a2).2 (Or.inl a3), by rw [hc, if_neg hyx]; exact a4⟩
    · rintro ⟨a1, a2, a3, a4⟩
      have hyx : y ≠ x := fun e => by rw [hc, if_pos e] at a4; simp [Cl.z] at a4; omega
      rw [hc, if_neg hyx] at a4
      refine ⟨a1, a2, ((hroot y a2).1 a3).resolve_right (fun e => ?_), a4⟩
      have := (B.fh.home y x a2 e).1
      omega
  have hm : ∀ y : Nat, y < A.cs.length ∧ (splitF G.F x).u y = -1 ∧ ((dropN A x).c y).i = (h : Int) ↔ (y : Int) ∈ (takeB' G h x).R h ∨ (y : Int) ∈ G.F.k x := fun y => by
    unfold takeB' setR
    simp only [if_true, List.mem_filter, bne_iff_ne, ne_eq]
    rw [B.rh.mem h y]
    constructor
    · rintro ⟨a2, a3, a4⟩
      have hyx : y ≠ x := fun e => by rw [hc, if_pos e] at a4; simp [Cl.z] at a4; omega
      rw [hc, if_neg hyx] at a4
      rcases (hroot y a2).1 a3 with e | e
      · exact Or.inl ⟨⟨hh1, a2, e, a4⟩, by omega⟩
      · exact Or.inr ((kid_iff B.fh.f hx a2).2 e)
    · rintro (⟨⟨_, a2, a3, a4⟩, a5⟩ | a1)
      · exact ⟨a2, (hroot y a2).2 (Or.inl a3), by rw [hc, if_neg (by omega)]; exact a4⟩
      · obtain ⟨z, e, a2, a3⟩ := ku _ a1
        obtain rfl : y = z := by omega
        have hyx : y ≠ x := fun e => by subst e; exact sx a1
        refine ⟨a2, (hroot y a2).2 (Or.inr a3), ?_⟩
        rw [hc, if_neg hyx]
        have := (B.fh.home y x a2 a3).1
        omega
  obtain ⟨r1, r2, r3, r4⟩ := add_sound (G := takeB' G h x) hF hn (aheadN_asym A) hL hh1 hrow hmem hm hl hd
  have nd : (G.R h).Nodup := (B.rh.row h).nodup
  have eR : (takeB' G h x).R h = (G.R h).filter (fun z => z != (x : Int)) := by unfold takeB' setR; simp
  have fl := filter_len nd mx
  refine ⟨⟨by rw [hcs]; exact r1, by rw [hcs]; exact r2, fun k hk => ?_⟩, ?_, mx, by rw [← eR]; exact hrow h, hl, by rw [← eR]; exact hd, hF.f, fun z hz => ?_⟩
  · rw [hcs]
    have e1 : wt A.cs.length (takeG A h x G).F ((takeG A h x G).R k) = _ := r3 k
    rw [e1]
    have hlen := lenN_with A x Cl.z (k : Int) hx
    have e2 : dropN A x = withN A x Cl.z := by unfold dropN; rw [if_pos inx, Int.toNat_natCast]
    rw [e2]
    by_cases ek : k = h
    · subst ek
      rw [if_pos rfl, eR]
      rw [if_pos (by omega), if_neg (by simp [Cl.z]; omega)] at hlen
      have w1 := filter_wt (F := G.F) (n := A.cs.length) nd mx
      rw [degF_nat _ _ hx, Int.toNat_natCast] at w1
      have w2 := kids_wt (F' := splitF G.F x) B.fh.f hx (fun z hz => dS z (fun e => sx (e ▸ hz)))
      have w3 : wt A.cs.length (splitF G.F x) ((G.R k).filter (fun z => z != (x : Int))) = wt A.cs.length G.F ((G.R k).filter (fun z => z != (x : Int))) := wt_ext (fun z hz => dS z (by simpa using (List.mem_filter.1 hz).2))
      have w4 := B.w k hk
      show wt A.cs.length (splitF G.F x) _ + wt A.cs.length (splitF G.F x) _ = _
      omega
    · rw [if_neg ek]
      rw [if_neg (by omega), if_neg (by simp [Cl.z]; omega)] at hlen
      have eK : (takeB' G h x).R k = G.R k := by unfold takeB' setR; simp only [if_neg ek]
      rw [eK]
      have w4 := B.w k hk
      have w3 : wt A.cs.length (splitF G.F x) (G.R k) = wt A.cs.length G.F (G.R k) := wt_ext (fun z hz => dS z (fun e => by
        subst e
        have := ((B.rh.mem k x).1 hz).2.2.2
        omega))
      show wt A.cs.length (splitF G.F x) _ = _
      omega
  · rw [eR] at r4
    have e3 : takeQ A h x G = (carC (aheadN A) A.cs.length (takeB' G h x).F ((G.R h).filter (fun z => z != (x : Int))) (G.F.k x)).q := by unfold takeQ; rw [eR]
    rw [e3]
    have e4 : (takeG A h x G).R h = (addG (aheadN A) A.cs.length h (G.F.k x) (takeB' G h x)).R h := rfl
    rw [e4]
    omega
  · rcases hz with hz | hz
    · have hr := (B.rh.row h).1 z hz
      have := (B.rh.mem h z.toNat).1 (by rw [show ((z.toNat : Nat) : Int) = z by omega]; exact hz)
      exact (inN_iff _ _).2 ⟨hr.1, hr.2.1, by have := this.2.2.2; omega⟩
    · obtain ⟨y, rfl, hy, hu⟩ := ku z hz
      exact (inN_nat _ _).2 ⟨hy, (B.fh.home y x hy hu).2⟩
end
end Go.Proofs.Ytighgbdijagolaa
