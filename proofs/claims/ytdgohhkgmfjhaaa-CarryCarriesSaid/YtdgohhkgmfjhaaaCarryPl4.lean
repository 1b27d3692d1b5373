/-
  The plain law of Carry, further still: what is in hand has the same things below it, and who comes below another one is not ahead of it. No program in sight. Conditions: those of each lemma.
-/
import Derived.Test.YtdgohhkgmfjhaaaCarryPl3
import Derived.Test.YtdgohhkgmfjhaaaFrAll
set_option linter.unusedVariables false
set_option linter.unusedSimpArgs false
namespace Go.Proofs.Ytdgohhkgmfjhaaa

def allF (n : Nat) (F : CF) : Nat → Int → List Int
  | 0, _ => []
  | lev + 1, x => if 0 ≤ x ∧ x < n then x :: (F.k x.toNat).flatMap (allF n F lev) else []
theorem flat_ext {α β : Type} {f g : α → List β} {l : List α} (h : ∀ x, x ∈ l → f x = g x) : l.flatMap f = l.flatMap g := by
  induction l with
  | nil => rfl
  | cons x t ih => rw [List.flatMap_cons, List.flatMap_cons, h x (by simp), ih (fun y hy => h y (by simp [hy]))]
theorem all_f {n : Nat} {F : CF} {Z : List (List Int)} (R : RelZ n F Z) : ∀ (lev : Nat) (x : Int), allZ Z lev x = allF n F lev x
  | 0, x => rfl
  | lev + 1, x => by
    rw [allZ, allF, R.1]
    by_cases hx : 0 ≤ x ∧ x < n
    · rw [if_pos hx, if_pos hx]
      have e : kidsZ Z x = F.k x.toNat := by
        unfold kidsZ
        rw [R.1, if_pos hx, R.getD (by omega)]
      rw [e]
      exact congrArg _ (flat_ext (fun y _ => all_f R lev y))
    · rw [if_neg hx, if_neg hx]
theorem allF_lev {n : Nat} {F : CF} (ok : FOk n F) : ∀ (a b : Nat) (x : Nat), x < n → (F.k x).length < a → (F.k x).length < b → allF n F a x = allF n F b x
  | 0, _, x, _, h, _ => by omega
  | a + 1, 0, x, _, _, h => by omega
  | a + 1, b + 1, x, hx, h1, h2 => by
    rw [allF, allF, if_pos (by omega), if_pos (by omega), Int.toNat_natCast]
    refine congrArg _ (flat_ext (fun y hy => ?_))
    obtain ⟨r1, r2, _⟩ := ok.rng x hx y hy
    obtain ⟨i, hi, he⟩ := List.getElem_of_mem hy
    have hc := ok.cube x hx i y (by rw [List.getElem?_eq_getElem hi, he])
    obtain ⟨z, rfl⟩ := Int.eq_ofNat_of_zero_le r1
    rw [Int.toNat_natCast] at hc
    exact allF_lev ok a b z (by omega) (by omega) (by omega)
theorem allF_link_ne {n : Nat} {F : CF} (ok : FOk n F) {hi lo : Nat} (hr : F.u hi = -1) : ∀ (lev : Nat) (x : Nat), x < n → x ≠ hi → allF n (linkF F hi lo) lev x = allF n F lev x
  | 0, x, _, _ => rfl
  | lev + 1, x, hx, hne => by
    rw [allF, allF, if_pos (by omega), if_pos (by omega), Int.toNat_natCast]
    have e : (linkF F hi lo).k x = F.k x := by unfold linkF; simp only; rw [if_neg hne]
    rw [e]
    refine congrArg _ (flat_ext (fun y hy => ?_))
    obtain ⟨r1, r2, r3⟩ := ok.rng x hx y hy
    obtain ⟨z, rfl⟩ := Int.eq_ofNat_of_zero_le r1
    rw [Int.toNat_natCast] at r3
    exact allF_link_ne ok hr lev z (by omega) (fun e => by subst e; omega)
theorem allF_link_hi {n : Nat} {F : CF} (ok : FOk n F) {hi lo : Nat} (hhi : hi < n) (hlo : lo < n) (hne : hi ≠ lo) (hr : F.u hi = -1) (lev : Nat) : allF n (linkF F hi lo) (lev + 1) hi = allF n F (lev + 1) hi ++ allF n F lev lo := by
  rw [allF, allF, if_pos (by omega), if_pos (by omega), Int.toNat_natCast]
  have e : (linkF F hi lo).k hi = F.k hi ++ [(lo : Int)] := by unfold linkF; simp
  rw [e, List.flatMap_append, List.cons_append]
  have e2 : (F.k hi).flatMap (allF n (linkF F hi lo) lev) = (F.k hi).flatMap (allF n F lev) := flat_ext (fun y hy => by
    obtain ⟨r1, r2, r3⟩ := ok.rng hi hhi y hy
    obtain ⟨z, rfl⟩ := Int.eq_ofNat_of_zero_le r1
    rw [Int.toNat_natCast] at r3
    exact allF_link_ne ok hr lev z (by omega) (fun e => by subst e; omega))
  rw [e2]
  simp only [List.flatMap_cons, List.flatMap_nil, List.append_nil]
  rw [allF_link_ne ok hr lev lo hlo (Ne.symm hne)]
/-- All that is below what is in hand. -/
def allL (n : Nat) (F : CF) (l : List Int) : List Int := l.flatMap (allF n F (n + 1))
theorem allL_perm {n : Nat} {F : CF} {l m : List Int} (h : l.Perm m) : (allL n F l).Perm (allL n F m) := h.flatMap_right _
structure RJ (zs : List Int) (n : Nat) (C0 C : CC) : Prop where
  all : (allL n C.F C.L).Perm (allL n C0.F C0.L)
  rel : ∀ y p : Nat, y < n → C.F.u y = p → C0.F.u y = p ∨ aheadB zs y p = false
theorem RJ.refl (zs : List Int) (n : Nat) (C : CC) : RJ zs n C C := ⟨List.Perm.refl _, fun y p _ h => Or.inl h⟩
theorem RJ.trans {zs : List Int} {n : Nat} {A B C : CC} (h : RJ zs n A B) (k : RJ zs n B C) : RJ zs n A C :=
  ⟨k.all.trans h.all, fun y p hy hu => by
    rcases k.rel y p hy hu with h1 | h1
    · exact h.rel y p hy h1
    · exact Or.inr h1⟩
theorem RJ.perm {zs : List Int} {n : Nat} {C D : CC} (hp : D.L.Perm C.L) (hF : D.F = C.F) : RJ zs n C D :=
  ⟨by rw [hF]; exact allL_perm hp, fun y p _ h => by rw [hF] at h; exact Or.inl h⟩
theorem rj_join {zs : List Int} {n k : Nat} {C : CC} (h : G n (k + 1) (k + 1) k (k + 1) C) (hN : C.N = [] ∨ ∃ x y, C.N = [x, y]) : RJ zs n C (joinC zs C) := by
  rcases hN with hN | ⟨x, y, hN⟩
  · have e : joinC zs C = C := by unfold joinC; rw [hN]
    rw [e]; exact RJ.refl _ _ _
  · obtain ⟨a, b, rfl, rfl, ha, hb, hne, ra, rb, da, db⟩ := g_pair h hN
    have e : joinC zs C = { C with F := linkF C.F (joinHi zs a b) (joinLo zs a b), N := [(joinHi zs a b : Int)], q := C.q + 1 } := by unfold joinC; rw [hN]; simp
    rw [e]
    obtain ⟨hi, lo, ehi, elo, hhi, hlo, hne2, rhi, hah, hhab⟩ : ∃ hi lo, joinHi zs a b = hi ∧ joinLo zs a b = lo ∧ hi < n ∧ lo < n ∧ hi ≠ lo ∧ C.F.u hi = -1 ∧ aheadB zs lo hi = false ∧ ((hi = a ∧ lo = b) ∨ (hi = b ∧ lo = a)) := by
      unfold joinHi joinLo
      by_cases hab : aheadB zs b a = true
      · rw [if_pos hab, if_pos hab]
        exact ⟨b, a, rfl, rfl, hb, ha, Ne.symm hne, rb, ahead_asym zs _ _ hab, Or.inr ⟨rfl, rfl⟩⟩
      · rw [if_neg hab, if_neg hab]
        exact ⟨a, b, rfl, rfl, ha, hb, hne, ra, by simpa using hab, Or.inl ⟨rfl, rfl⟩⟩
    have hLp : C.L.Perm ((hi : Int) :: (lo : Int) :: (C.A ++ (C.B ++ C.O))) := by
      unfold CC.L
      rw [hN, List.perm_iff_count]
      intro y
      rcases hhab with ⟨rfl, rfl⟩ | ⟨rfl, rfl⟩ <;> simp [List.count_append, List.count_cons] <;> omega
    rw [ehi, elo]
    have hL : (CC.L { C with F := linkF C.F hi lo, N := [(hi : Int)], q := C.q + 1 }).Perm ((hi : Int) :: (C.A ++ (C.B ++ C.O))) := by
      unfold CC.L
      simp only
      rw [List.perm_iff_count]
      intro y
      simp [List.count_append, List.count_cons]
      omega
    have hnd2 := hLp.nodup_iff.1 h.nd
    rw [List.nodup_cons, List.nodup_cons] at hnd2
    refine ⟨(allL_perm hL).trans (List.Perm.trans ?_ (allL_perm hLp).symm), fun y p hy hu => ?_⟩
    · show (allL n (linkF C.F hi lo) ((hi : Int) :: (C.A ++ (C.B ++ C.O)))).Perm _
      unfold allL
      rw [List.flatMap_cons, List.flatMap_cons, List.flatMap_cons, allF_link_hi h.f hhi hlo hne2 rhi, List.append_assoc]
      have e1 : allF n C.F n (lo : Int) = allF n C.F (n + 1) (lo : Int) := allF_lev h.f n (n + 1) lo hlo (by have := h.f.len hlo; omega) (by have := h.f.len hlo; omega)
      rw [e1]
      refine List.Perm.append_left _ (List.Perm.append_left _ ?_)
      rw [flat_ext (fun z hz => ?_)]
      have hr := h.rt z (hLp.mem_iff.2 (List.mem_cons_of_mem _ (List.mem_cons_of_mem _ hz)))
      obtain ⟨z, rfl⟩ := Int.eq_ofNat_of_zero_le hr.1
      exact allF_link_ne h.f rhi (n + 1) z (by omega) (fun e => by subst e; exact hnd2.1 (List.mem_cons_of_mem _ hz))
    · unfold linkF at hu
      simp only at hu
      split at hu
      · rename_i e
        subst e
        obtain rfl : hi = p := by omega
        exact Or.inr hah
      · exact Or.inl hu
theorem rj_run {zs : List Int} {n : Nat} {C0 : CC} (h : G n 0 0 0 0 C0) (hN : C0.N = []) : ∀ k, RJ zs n C0 (runC zs n k C0)
  | 0 => RJ.refl _ _ _
  | k + 1 => by
    obtain ⟨g, h1, h2⟩ := g_run (zs := zs) h hN k
    have g1 := g_takeA g
    have g2 := g_takeB g1
    have g3 := g_giveO g2
    have t1 := (tot_takeA n k (runC zs n k C0)).2
    have t2 := (tot_takeB n k (takeA n k (runC zs n k C0))).2
    have ev := giveO_even (C := takeB n k (takeA n k (runC zs n k C0))) (by omega)
    have r4 := rj_join (zs := zs) g3 ev
    exact ((((rj_run h hN k).trans (RJ.perm (takeA_perm n k _) (takeA_F n k _))).trans (RJ.perm (takeB_perm n k _) (takeB_F n k _))).trans (RJ.perm (giveO_perm _) (giveO_F _))).trans r4
theorem carried_all {zs : List Int} {n : Nat} {F : CF} {A B : List Int} {q : Nat} {F' : CF} {O : List Int} {q' : Nat} (g : G n 0 0 0 0 ⟨F, A, B, [], [], q⟩) (h : CarryTo zs n ⟨F, A, B, [], [], q⟩ F' O q') :
    (allL n F' O).Perm (allL n F (A ++ B)) ∧ ∀ y p : Nat, y < n → F'.u y = p → F.u y = p ∨ aheadB zs y p = false := by
  obtain ⟨k, hk⟩ := h
  have r := rj_run (zs := zs) g rfl k
  rw [hk] at r
  have a := r.all
  have eL : CC.L ⟨F', [], [], [], O, q'⟩ = O := by unfold CC.L; simp
  have eL0 : CC.L ⟨F, A, B, [], [], q⟩ = A ++ B := by unfold CC.L; simp
  rw [eL, eL0] at a
  exact ⟨a, r.rel⟩
/-- x is t, or above it. -/
inductive Anc (F : CF) (x : Nat) : Nat → Prop
  | here : Anc F x x
  | up (t p : Nat) : F.u t = p → Anc F x p → Anc F x t
theorem Anc.over {F : CF} {c t : Nat} (h : Anc F c t) (x : Nat) (hu : F.u c = x) : Anc F x t := by
  induction h with
  | here => exact Anc.up c x hu Anc.here
  | up t p h1 _ ih => exact Anc.up t p h1 ih
theorem Anc.line {F : CF} {y z t : Nat} (h : Anc F y t) (k : Anc F z t) : Anc F y z ∨ Anc F z y := by
  induction h with
  | here => exact Or.inr k
  | up t p h1 h2 ih =>
    cases k with
    | here => exact Or.inl (Anc.up _ p h1 h2)
    | up _ q k1 k2 =>
      obtain rfl : p = q := by omega
      exact ih k2
theorem FOk.kid {n : Nat} {F : CF} (ok : FOk n F) {x : Nat} (hx : x < n) {z : Int} (hz : z ∈ F.k x) : ∃ y : Nat, z = y ∧ y < n ∧ F.u y = x ∧ (F.k y).length < (F.k x).length := by
  obtain ⟨r1, r2, r3⟩ := ok.rng x hx z hz
  obtain ⟨i, hi, he⟩ := List.getElem_of_mem hz
  have hc := ok.cube x hx i z (by rw [List.getElem?_eq_getElem hi, he])
  obtain ⟨y, rfl⟩ := Int.eq_ofNat_of_zero_le r1
  rw [Int.toNat_natCast] at r3 hc
  exact ⟨y, rfl, by omega, r3, by omega⟩
theorem Anc.deg {n : Nat} {F : CF} (ok : FOk n F) {y t : Nat} (h : Anc F y t) : t < n → (F.k t).length ≤ (F.k y).length := by
  induction h with
  | here => exact fun _ => Nat.le_refl _
  | up t p h1 _ ih =>
    intro ht
    rcases ok.up t ht with h3 | ⟨q, hq, h3, h4⟩
    · omega
    · obtain rfl : p = q := by omega
      obtain ⟨t', e, _, _, hd⟩ := ok.kid hq h4
      obtain rfl : t = t' := by omega
      have := ih hq
      omega
theorem allF_anc {n : Nat} {F : CF} (ok : FOk n F) : ∀ (lev : Nat) (x : Nat) (t : Int), x < n → t ∈ allF n F lev x → ∃ t' : Nat, t = t' ∧ t' < n ∧ Anc F x t'
  | 0, x, t, _, h => by cases h
  | lev + 1, x, t, hx, h => by
    rw [allF, if_pos (by omega), Int.toNat_natCast] at h
    rcases List.mem_cons.1 h with rfl | h
    · exact ⟨x, rfl, hx, Anc.here⟩
    · obtain ⟨c, hc, ht⟩ := List.mem_flatMap.1 h
      obtain ⟨y, rfl, hy, hu, _⟩ := ok.kid hx hc
      obtain ⟨t', e, h1, h2⟩ := allF_anc ok lev y t hy ht
      exact ⟨t', e, h1, h2.over x hu⟩
theorem allF_nodup {n : Nat} {F : CF} (ok : FOk n F) : ∀ (lev : Nat) (x : Nat), x < n → (allF n F lev x).Nodup
  | 0, x, _ => List.nodup_nil
  | lev + 1, x, hx => by
    rw [allF, if_pos (by omega), Int.toNat_natCast, List.nodup_cons]
    refine ⟨fun hm => ?_, ?_⟩
    · obtain ⟨c, hc, ht⟩ := List.mem_flatMap.1 hm
      obtain ⟨y, rfl, hy, hu, hd⟩ := ok.kid hx hc
      obtain ⟨t', e, h1, h2⟩ := allF_anc ok lev y _ hy ht
      obtain rfl : x = t' := by omega
      have := h2.deg ok hx
      omega
    · unfold List.Nodup
      rw [List.pairwise_flatMap]
      refine ⟨fun c hc => ?_, (ok.nd x hx).imp_of_mem (fun {c d} hc hd hne => ?_)⟩
      · obtain ⟨y, rfl, hy, _⟩ := ok.kid hx hc
        exact allF_nodup ok lev y hy
      · intro s hs t ht e
        subst e
        obtain ⟨y, rfl, hy, hu, hdy⟩ := ok.kid hx hc
        obtain ⟨z, rfl, hz, hv, hdz⟩ := ok.kid hx hd
        obtain ⟨t1, e1, l1, a1⟩ := allF_anc ok lev y _ hy hs
        obtain ⟨t2, e2, l2, a2⟩ := allF_anc ok lev z _ hz ht
        obtain rfl : t1 = t2 := by omega
        have key : ∀ a b : Nat, a ≠ b → a < n → b < n → F.u b = x → (F.k a).length < (F.k x).length → ¬ Anc F a b := fun a b hab ha hb hub hda h => by
          cases h with
          | here => exact hab rfl
          | up _ p h1 h2 =>
            obtain rfl : x = p := by omega
            have := h2.deg ok hx
            omega
        have hyz : y ≠ z := fun e => hne (by rw [e])
        rcases a1.line a2 with h | h
        · exact key y z hyz hy hz hv hdy h
        · exact key z y (Ne.symm hyz) hz hy hu hdz h
theorem allF_le {n : Nat} {F : CF} (ok : FOk n F) (lev : Nat) (x : Int) : (allF n F lev x).length ≤ n := by
  by_cases hx : 0 ≤ x ∧ x < n
  · obtain ⟨y, rfl⟩ := Int.eq_ofNat_of_zero_le hx.1
    exact nodup_le n _ (allF_nodup ok lev y (by omega)) (fun t ht => by
      obtain ⟨t', e, h1, _⟩ := allF_anc ok lev y t (by omega) ht
      omega)
  · cases lev with
    | zero => exact Nat.zero_le _
    | succ lev => rw [allF, if_neg hx]; exact Nat.zero_le _
theorem allL_le {n : Nat} {F : CF} (ok : FOk n F) (l : List Int) : (allL n F l).length ≤ l.length * n := by
  unfold allL
  induction l with
  | nil => simp
  | cons x t ih =>
    rw [List.flatMap_cons, List.length_append, List.length_cons, Nat.succ_mul]
    have := allF_le ok (n + 1) x
    omega
theorem allL_snoc (n : Nat) (F : CF) (l : List Int) (i : Nat) (x : Int) (h : l[i]? = some x) : allL n F (l.take (i + 1)) = allL n F (l.take i) ++ allF n F (n + 1) x := by
  unfold allL
  rw [List.take_add_one, h, Option.toList_some, List.flatMap_append]
  simp
theorem allL_mem {n : Nat} {F : CF} (ok : FOk n F) (l : List Int) (t : Int) (h : t ∈ allL n F l) : 0 ≤ t ∧ t < n := by
  obtain ⟨c, hc, ht⟩ := List.mem_flatMap.1 h
  by_cases hx : 0 ≤ c ∧ c < n
  · obtain ⟨y, rfl⟩ := Int.eq_ofNat_of_zero_le hx.1
    obtain ⟨t', e, h1, _⟩ := allF_anc ok (n + 1) y t (by omega) ht
    omega
  · rw [allF, if_neg hx] at ht; cases ht
end Go.Proofs.Ytdgohhkgmfjhaaa
