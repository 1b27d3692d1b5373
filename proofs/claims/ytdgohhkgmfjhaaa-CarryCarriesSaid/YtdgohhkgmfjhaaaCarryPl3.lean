/-
  The plain law of Carry and of Lift, further: how many children there may be; what is lifted again and again. No program in sight. Conditions: those of each lemma.
-/
import Derived.Test.YtdgohhkgmfjhaaaCarryPl2
import Derived.Test.YtdgohhkgmfjhaaaFrRel
set_option linter.unusedVariables false
set_option linter.unusedSimpArgs false
namespace Go.Proofs.Ytdgohhkgmfjhaaa

/-- No thing has so many children that its cube would be greater than M. -/
def DB (n M : Nat) (F : CF) : Prop := ∀ x : Nat, x < n → 2 ^ (F.k x).length ≤ M
theorem wt_mem {n : Nat} {F : CF} {l : List Int} {x : Int} (h : x ∈ l) : 2 ^ (degF n F x).toNat ≤ wt n F l := by
  induction l with
  | nil => cases h
  | cons y t ih =>
    have e : wt n F (y :: t) = 2 ^ (degF n F y).toNat + wt n F t := by unfold wt; simp
    rw [e]
    rcases List.mem_cons.1 h with rfl | h
    · exact Nat.le_add_right _ _
    · exact Nat.le_trans (ih h) (Nat.le_add_left _ _)
theorem db_join {zs : List Int} {n k M : Nat} {C : CC} (h : G n (k + 1) (k + 1) k (k + 1) C) (hN : C.N = [] ∨ ∃ x y, C.N = [x, y]) (hd : DB n M C.F) (hw : wt n C.F C.L ≤ M) : DB n M (joinC zs C).F := by
  rcases hN with hN | ⟨x, y, hN⟩
  · have e : joinC zs C = C := by unfold joinC; rw [hN]
    rw [e]; exact hd
  · have r := (g_join (zs := zs) h (Or.inr ⟨x, y, hN⟩))
    obtain ⟨g, hl, _⟩ := r
    have hri := ri_join (zs := zs) h (Or.inr ⟨x, y, hN⟩)
    obtain ⟨a, b, rfl, rfl, ha, hb, hne, ra, rb, da, db⟩ := g_pair h hN
    have e : joinC zs C = { C with F := linkF C.F (joinHi zs a b) (joinLo zs a b), N := [(joinHi zs a b : Int)], q := C.q + 1 } := by unfold joinC; rw [hN]; simp
    intro z hz
    by_cases hzh : z = joinHi zs a b
    · have hm : (z : Int) ∈ (joinC zs C).L := by rw [e]; unfold CC.L; simp [hzh]
      have := wt_mem (n := n) (F := (joinC zs C).F) hm
      rw [degF_nat n _ hz, Int.toNat_natCast, hri.wt] at this
      exact Nat.le_trans this hw
    · have hk : (joinC zs C).F.k z = C.F.k z := by rw [e]; unfold linkF; simp only; rw [if_neg hzh]
      rw [hk]; exact hd z hz
theorem db_run {zs : List Int} {n M : Nat} {C0 : CC} (h : G n 0 0 0 0 C0) (hN : C0.N = []) (hd : DB n M C0.F) (hw : wt n C0.F C0.L ≤ M) : ∀ k, DB n M (runC zs n k C0).F
  | 0 => hd
  | k + 1 => by
    obtain ⟨g, h1, h2⟩ := g_run (zs := zs) h hN k
    have r := ri_run (zs := zs) h hN k
    have g1 := g_takeA g
    have g2 := g_takeB g1
    have g3 := g_giveO g2
    have t1 := (tot_takeA n k (runC zs n k C0)).2
    have t2 := (tot_takeB n k (takeA n k (runC zs n k C0))).2
    have ev := giveO_even (C := takeB n k (takeA n k (runC zs n k C0))) (by omega)
    have ih := db_run (zs := zs) h hN hd hw k
    have eF : (giveO (takeB n k (takeA n k (runC zs n k C0)))).F = (runC zs n k C0).F := by rw [giveO_F, takeB_F, takeA_F]
    have eL : wt n (runC zs n k C0).F (giveO (takeB n k (takeA n k (runC zs n k C0)))).L = wt n C0.F C0.L := by
      rw [wt_perm (giveO_perm _), wt_perm (takeB_perm _ _ _), wt_perm (takeA_perm _ _ _)]; exact r.wt
    have := db_join (zs := zs) g3 ev (by rw [eF]; exact ih) (by rw [eF, eL]; exact hw)
    exact this
theorem carried_db {zs : List Int} {n M : Nat} {F : CF} {A B : List Int} {q : Nat} {F' : CF} {O : List Int} {q' : Nat} (g : G n 0 0 0 0 ⟨F, A, B, [], [], q⟩) (h : CarryTo zs n ⟨F, A, B, [], [], q⟩ F' O q') (hd : DB n M F) (hw : wt n F A + wt n F B ≤ M) : DB n M F' := by
  obtain ⟨k, hk⟩ := h
  have := db_run (zs := zs) g rfl hd (by
    have e : CC.L ⟨F, A, B, [], [], q⟩ = A ++ B := by unfold CC.L; simp
    rw [e]
    unfold wt at hw ⊢
    simpa using hw) k
  rw [hk] at this
  exact this

/-- T is topmost above p. -/
inductive Top (u : Nat → Int) : Nat → Nat → Prop
  | here (p : Nat) : u p = -1 → Top u p p
  | up (p q T : Nat) : u p = q → Top u q T → Top u p T
theorem Top.root {u : Nat → Int} {p T : Nat} (h : Top u p T) : u T = -1 := by induction h <;> assumption
theorem Top.mono {n : Nat} {S : CS} (h : FOk n S.f) {x p : Nat} {above : Int} (ok : LiftOk n S x p above) {q T : Nat} (ht : Top S.u q T) : q < n → (S.k p).length < (S.k q).length → Top (liftS S x p above).u q T ∧ (S.k p).length < (S.k T).length ∧ T < n := by
  have uk : ∀ y z : Nat, z < n → (y : Int) ∈ S.k z → S.u y = z ∧ (S.k y).length < (S.k z).length := fun y z hz hm => by
    have h1 := (h.rng z hz _ hm).2.2
    rw [Int.toNat_natCast] at h1
    obtain ⟨i, hi, he⟩ := List.getElem_of_mem hm
    have hge : (S.k z)[i]? = some (y : Int) := by rw [List.getElem?_eq_getElem hi, he]
    have h2 := h.cube z hz i (y : Int) hge
    rw [Int.toNat_natCast] at h2
    have h3 : (S.k y).length = i := h2
    exact ⟨h1, by omega⟩
  have hxp := (uk x p ok.hp ok.mem).2
  have same : ∀ y : Nat, (S.k p).length < (S.k y).length → (liftS S x p above).u y = S.u y := fun y hy => by
    show (if y = x then above else if (y : Int) ∈ S.k x then (p : Int) else if (y : Int) ∈ setAt (S.k p) x p then (x : Int) else S.u y) = S.u y
    rw [if_neg (fun e => by subst e; omega), if_neg (fun hm => by have := (uk y x ok.hx hm).2; omega), if_neg (fun hm => by
      rcases (mem_setAt (h.nd p ok.hp) ok.mem).1 hm with e | ⟨h1, _⟩
      · have : y = p := by omega
        subst this; omega
      · have := (uk y p ok.hp h1).2; omega)]
  induction ht with
  | here q hq => exact fun hqn hd => ⟨Top.here q (by rw [same q hd]; exact hq), hd, hqn⟩
  | up q r T hu ht ih =>
    intro hqn hd
    have hr : r < n ∧ (q : Int) ∈ S.k r := by
      rcases h.up q hqn with h1 | ⟨r', hr', h1, h2⟩
      · have : S.u q = -1 := h1
        omega
      · have h1' : S.u q = r' := h1
        obtain rfl : r = r' := by omega
        exact ⟨hr', h2⟩
    have hdr := (uk q r hr.1 hr.2).2
    obtain ⟨h1, h2, h3⟩ := ih hr.1 (by omega)
    exact ⟨Top.up q r T (by rw [same q hd]; exact hu) h1, h2, h3⟩

theorem lift_deg (S : CS) (x p : Nat) (above : Int) (y : Nat) : ((liftS S x p above).k y).length = if y = x then (S.k p).length else if y = p then (S.k x).length else (S.k y).length := by
  show (if y = x then setAt (S.k p) x p else if y = p then S.k x else if (y : Int) = above then setAt (S.k y) p x else S.k y).length = _
  split
  · rw [setAt_len]
  · split
    · rfl
    · split
      · rw [setAt_len]
      · rfl
theorem db_lift {n M : Nat} {S : CS} (h : DB n M S.f) {x p : Nat} (above : Int) (hx : x < n) (hp : p < n) : DB n M (liftS S x p above).f := by
  intro y hy
  have e : ((liftS S x p above).f.k y).length = _ := lift_deg S x p above y
  rw [e]
  split
  · exact h p hp
  · split
    · exact h x hx
    · exact h y hy
/-- Where x stands while it is lifted: at the top in T's place, or below it. -/
def LiftI (n : Nat) (S : CS) (x T : Nat) (dT : Nat) : Prop :=
  (S.u x = -1 ∧ (S.k x).length = dT) ∨ (∃ p : Nat, p < n ∧ S.u x = p ∧ (x : Int) ∈ S.k p ∧ Top S.u p T ∧ (S.k T).length = dT)
theorem lift_next {n : Nat} {S : CS} (h : FOk n S.f) {x p T dT : Nat} (hx : x < n) (hp : p < n) (hu : S.u x = p) (hm : (x : Int) ∈ S.k p) (ht : Top S.u p T) (hd : (S.k T).length = dT) :
    LiftI n (liftS S x p (S.u p)) x T dT ∧ (S.k x).length < ((liftS S x p (S.u p)).k x).length := by
  have ok := lift_ok h hx hp hu hm
  have uk : ∀ y z : Nat, z < n → (y : Int) ∈ S.k z → (S.k y).length < (S.k z).length := fun y z hz hm => by
    obtain ⟨i, hi, he⟩ := List.getElem_of_mem hm
    have hge : (S.k z)[i]? = some (y : Int) := by rw [List.getElem?_eq_getElem hi, he]
    have h2 := h.cube z hz i (y : Int) hge
    rw [Int.toNat_natCast] at h2
    have h3 : (S.k y).length = i := h2
    omega
  have hxd : ((liftS S x p (S.u p)).k x).length = (S.k p).length := by rw [lift_deg, if_pos rfl]
  have hxp := uk x p hp hm
  refine ⟨?_, by omega⟩
  have ux : (liftS S x p (S.u p)).u x = S.u p := by
    show (if x = x then S.u p else _) = S.u p
    rw [if_pos rfl]
  cases ht with
  | here _ h1 => exact Or.inl ⟨by rw [ux]; exact h1, by rw [hxd]; exact hd⟩
  | up _ q _ h1 h2 =>
    have hq : q < n ∧ (p : Int) ∈ S.k q := by
      rcases h.up p hp with h3 | ⟨q', hq', h3, h4⟩
      · have : S.u p = -1 := h3
        omega
      · have h3' : S.u p = q' := h3
        obtain rfl : q = q' := by omega
        exact ⟨hq', h4⟩
    have hdq := uk p q hq.1 hq.2
    obtain ⟨t1, t2, t3⟩ := h2.mono h ok hq.1 hdq
    refine Or.inr ⟨q, hq.1, by rw [ux]; exact h1, ?_, t1, ?_⟩
    · show (x : Int) ∈ (if q = x then setAt (S.k p) x p else if q = p then S.k x else if (q : Int) = S.u p then setAt (S.k q) p x else S.k q)
      rw [if_neg (fun e => by subst e; omega), if_neg (fun e => by subst e; omega), if_pos h1.symm]
      exact (mem_setAt (h.nd q hq.1) hq.2).2 (Or.inl rfl)
    · rw [lift_deg, if_neg (fun e => by subst e; omega), if_neg (fun e => by subst e; omega)]; exact hd
end Go.Proofs.Ytdgohhkgmfjhaaa
