/-
  Fibonacci heaps: calls, however many, together take few steps (plain). Conditions: those of each lemma.
-/
import Derived.Test.YtighgbdijagolaaFbAlive
import Derived.Test.YtighgbdijagolaaFbZ
import Derived.Test.YtighgbdijagolaaWholes
set_option linter.unusedVariables false
set_option linter.unusedSimpArgs false
namespace Go.Proofs.Ytighgbdijagolaa
open Go Go.RowKit

theorem fbits_step : ∀ i : Nat, i < 1001 → bitsOf (i : Int) ≤ bitsOf ((i : Int) + 1) := by decide +kernel
def fsum (N : Nat) (f : Nat → Nat) : Nat := ((List.range N).map f).sum
theorem fsum_succ (N : Nat) (f : Nat → Nat) : fsum (N + 1) f = fsum N f + f N := by unfold fsum; rw [List.range_succ, List.map_append, List.sum_append]; simp
theorem fsum_far {f f' : Nat → Nat} : ∀ N, (∀ h, h < N → f' h = f h) → fsum N f' = fsum N f
  | 0, _ => rfl
  | N + 1, hf => by rw [fsum_succ, fsum_succ, fsum_far N (fun h hh => hf h (by omega)), hf N (by omega)]
theorem fsum_one {f f' : Nat → Nat} {q : Nat} : ∀ N, q < N → (∀ h, h ≠ q → f' h = f h) → fsum N f' + f q = fsum N f + f' q
  | 0, hq, _ => by omega
  | N + 1, hq, hf => by
    rw [fsum_succ, fsum_succ]
    by_cases e : q = N
    · subst e
      rw [fsum_far q (fun h hh => hf h (by omega))]; omega
    · have := fsum_one N (by omega) hf
      rw [hf N (fun h => e h.symm)]; omega
theorem fsum_zero (N : Nat) : fsum N (fun _ => 0) = 0 := by
  induction N with
  | zero => rfl
  | succ N ih => rw [fsum_succ, ih]
/-- How many trees there are. -/
def trN (N : Nat) (G : FG) : Nat := fsum N (fun h => (G.R h).length)
theorem tr_one {N q : Nat} {G G' : FG} (hq : q < N) (h : ∀ g, g ≠ q → G'.R g = G.R g) : trN N G' + (G.R q).length = trN N G + (G'.R q).length := fsum_one (f := fun h => (G.R h).length) (f' := fun h => (G'.R h).length) N hq (fun g hg => by simp only [h g hg])
theorem tin_mr (lt : Nat → Nat → Bool) : ∀ (f : Nat) (T : List Int) (x : Nat) (G : FG) (q z : Nat), (tin lt f T x G q).G.mr z = true → G.mr z = true
  | 0, _, _, _, _, _, h => h
  | f + 1, T, x, G, q, z, h => by
    unfold tin at h
    have und : ∀ a b, (underG G a b).mr z = true → G.mr z = true := fun a b h => by
      rw [under_mr] at h
      unfold putF at h
      split at h
      · cases h
      · exact h
    split at h
    · exact h
    · split at h
      · exact und _ _ (tin_mr lt f _ _ _ _ z h)
      · exact und _ _ (tin_mr lt f _ _ _ _ z h)
theorem tid_mr (lt : Nat → Nat → Bool) : ∀ (rs : List Nat) (D : TD) (z : Nat), (tid lt rs D).G.mr z = true → D.G.mr z = true
  | [], _, _, h => h
  | x :: rs, D, z, h => tin_mr lt _ _ _ _ _ z (tid_mr lt rs _ z h)
theorem marks_mono {n : Nat} {G G' : FG} (h : ∀ z, G'.mr z = true → G.mr z = true) : marks n G' ≤ marks n G := by
  unfold marks
  rw [← List.countP_eq_length_filter, ← List.countP_eq_length_filter]
  exact List.countP_mono_left (fun z _ hz => h z hz)
/-- How many slots are in heaps. -/
def totN (A : NS) : Nat := (A.cs.filter (fun c => decide (0 < c.i))).length
theorem filter_set {α : Type} (p : α → Bool) (c d : α) : ∀ (l : List α) (x : Nat), x < l.length → ((l.set x c).filter p).length + (if p (l.getD x d) then 1 else 0) = (l.filter p).length + (if p c then 1 else 0)
  | [], x, hx => by simp at hx
  | a :: t, 0, _ => by
    simp only [List.set_cons_zero, List.filter_cons, List.getD_cons_zero]
    cases p a <;> cases p c <;> simp
  | a :: t, x + 1, hx => by
    have ih := filter_set p c d t x (by simpa using hx)
    simp only [List.set_cons_succ, List.filter_cons, List.getD_cons_succ]
    cases p a
    · simp only [Bool.false_eq_true, if_false]; exact ih
    · simp only [if_true, List.length_cons]; omega
theorem tot_with (A : NS) (x : Nat) (c : Cl) (hx : x < A.cs.length) : totN (withN A x c) + (if decide (0 < (A.c x).i) then 1 else 0) = totN A + (if decide (0 < c.i) then 1 else 0) := by
  unfold totN withN NS.c
  exact filter_set (fun c : Cl => decide (0 < c.i)) c Cl.z A.cs x hx
theorem len_tot (A : NS) (h : Int) : lenN A h ≤ totN A := by
  unfold lenN lenL totN
  rw [← List.countP_eq_length_filter, ← List.countP_eq_length_filter]
  exact List.countP_mono_left (fun c _ hc => by
    simp only [Bool.and_eq_true, decide_eq_true_eq] at hc ⊢
    omega)
theorem tot_drop (A : NS) (x : Int) : totN (dropN A x) ≤ totN A := by
  unfold dropN
  split
  · rename_i h
    have := (inN_iff _ _).1 h
    have h2 := tot_with A x.toNat Cl.z (by omega)
    rw [show decide ((0 : Int) < Cl.z.i) = false from rfl] at h2
    simp only [Bool.false_eq_true, if_false] at h2
    omega
  · exact Nat.le_refl _
theorem tot_do {A : NS} (a : AC) : totN (doN A a) ≤ totN A + 1 := by
  unfold doN
  split
  · unfold makeN; split <;> exact Nat.le_succ _
  split
  · unfold putN
    split
    · rename_i h
      have h2 := (slotN_iff _ _).1 ((putB_iff _ _ _).1 h).2.1
      have h3 := tot_with A a.x.toNat ⟨a.h, a.k, a.s⟩ (by omega)
      split at h3 <;> split at h3 <;> omega
    · omega
  split
  · unfold extN; split
    · have := tot_drop A (by assumption : Nat); omega
    · omega
  split
  · unfold lowN
    split
    · rename_i h
      have h2 := (inN_iff _ _).1 (low_in h)
      have h3 := tot_with A a.x.toNat ⟨(A.c a.x.toNat).i, a.k, a.s⟩ (by omega)
      simp only at h3
      omega
    · omega
  split
  · have := tot_drop A a.x; omega
  split
  · unfold joinN
    split
    · rename_i h
      obtain ⟨j1, j2, j3⟩ := (joinB_iff _ _ _).1 h
      have a1 := (hasN_iff _ _).1 j1
      have a2 := (hasN_iff _ _).1 j2
      unfold totN
      rw [List.filter_map, List.length_map]
      refine Nat.le_trans (Nat.le_of_eq (congrArg List.length (List.filter_congr (fun c _ => ?_)))) (Nat.le_succ _)
      simp only [Function.comp]
      split
      · rename_i e; rw [e]; simp; omega
      · rfl
    · omega
  · omega
/-- What an act costs, beside what it turns of the potential. -/
theorem fb_amort {A : NS} {G : FG} (I : FbI A G) (ok : A.Ok) (a : AC) {m : Int} (hz : (totN A : Int) + 1 ≤ m) (hm : m ≤ 4611686018427387904) :
    ((stepF A a G).2 : Int) + trN 65537 (stepF A a G).1 + 2 * marks A.cs.length (stepF A a G).1 ≤ trN 65537 G + 2 * marks A.cs.length G + 4 * bitsOf m + 6 := by
  have hb := (bitsOf_bd m).1
  have hN : A.hs.length ≤ 65537 := ok.h1
  have idle : ((0 : Nat) : Int) + trN 65537 G + 2 * marks A.cs.length G ≤ trN 65537 G + 2 * marks A.cs.length G + 4 * bitsOf m + 6 := by omega
  have hl : ∀ h : Int, (lenN A h : Int) ≤ m := fun h => by have := len_tot A h; omega
  have ext : ∀ (q : Int), ((fextQ A q G : Nat) : Int) + trN 65537 (fextG A q G) + 2 * marks A.cs.length (fextG A q G) ≤ trN 65537 G + 2 * marks A.cs.length G + 4 * bitsOf m + 6 := fun q => by
    unfold fextQ fextG
    cases hmn : minN A q with
    | none => exact idle
    | some x =>
      obtain ⟨h, s, rfl, h1, hlh, hR, hp⟩ := fb_some I ok hmn
      simp only [Int.toNat_natCast, hR, List.tail_cons]
      obtain ⟨_, _, _, _, _, I4, c1, c2, c3, c4, _, _, c5⟩ := ext_fb I ok hR
      have hx := I.min_some hR
      have hd := deg_bits I.ff ok hx.2.2.1 hx.2.2.2.2 h1 (hl h) hm
      have ht := tr_one (N := 65537) (q := h) (by omega) c4
      have hdl := drop_len A (x : Int)
      have hr : ((ext4 A h x (kl (G.K x) ++ s) G).1.R h).length ≤ (2 * bitsOf m).toNat + 1 := by
        have := distinct_le (2 * bitsOf m).toNat (((ext4 A h x (kl (G.K x) ++ s) G).1.R h).map (fun z => ((ext4 A h x (kl (G.K x) ++ s) G).1.K z).length)) (List.pairwise_map.2 c3) (fun d hd => by
          obtain ⟨z, hzm, rfl⟩ := List.mem_map.1 hd
          have o := I4.out hzm
          have hl4 : (lenN (dropN A (x : Int)) (h : Int) : Int) ≤ m := by
            have := len_tot (dropN A (x : Int)) (h : Int)
            have := tot_drop A (x : Int)
            omega
          have := deg_bits I4.ff (dropN_ok ok x) o.2.1 o.2.2.2.1 o.1 hl4 hm
          omega)
        rwa [List.length_map] at this
      have hmk : marks A.cs.length (ext4 A h x (kl (G.K x) ++ s) G).1 ≤ marks A.cs.length G := marks_mono (fun z hzt => by
        rw [c5] at hzt
        have h3 := tid_mr (ltN A) _ _ z hzt
        have h4 : (prtL (x :: (kl (G.K x) ++ s)) (raiseG G x)).mr z = true := h3
        rw [(prtL_same _ _).2.1, raise_mr G (I.ff.free x hx.2.2.1 hx.2.2.2.1)] at h4
        split at h4
        · cases h4
        · exact h4)
      have hRl : (G.R h).length = s.length + 1 := by rw [hR]; rfl
      generalize ((ext4 A h x (kl (G.K x) ++ s) G).1.R h).length = r4 at *
      generalize trN 65537 (ext4 A h x (kl (G.K x) ++ s) G).1 = t4 at *
      generalize marks A.cs.length (ext4 A h x (kl (G.K x) ++ s) G).1 = m4 at *
      omega
  unfold stepF
  split
  · split
    · rename_i hB
      obtain ⟨h, x, e1, e2⟩ := put_nat hB
      rw [e1, e2] at hB ⊢
      obtain ⟨_, c1, c2, c3, h1, _⟩ := ins_fb I ok a.k a.s hB
      simp only [Int.toNat_natCast]
      have hq : h < 65537 := by have := (hasN_iff _ _).1 ((putB_iff _ _ _).1 hB).1; omega
      have ht := tr_one (N := 65537) hq c2
      have hmk : marks A.cs.length (insG (putN A h x a.k a.s) h x G) = marks A.cs.length G := by unfold marks; rw [c3]
      have hQ : rootQ h G ≤ 1 := by unfold rootQ; split <;> omega
      rw [hmk]
      omega
    · exact idle
  split
  · exact idle
  split
  · exact ext a.h
  split
  · split
    · rename_i hB
      obtain ⟨x, e2⟩ := in_nat (low_in hB)
      rw [e2] at hB ⊢
      obtain ⟨hx, hx0⟩ := (inN_nat _ _).1 (low_in hB)
      obtain ⟨h, hh⟩ : ∃ h : Nat, (A.c x).i = h := ⟨(A.c x).i.toNat, by omega⟩
      have h1 : 1 ≤ h := by omega
      simp only [Int.toNat_natCast, hh]
      obtain ⟨_, c1, c2, c3, c4⟩ := dec_fb I hB hx hh h1
      have hq : h < 65537 := by have := ok.nat x hx; omega
      have ht := tr_one (N := 65537) hq c1
      have hQ : decQ (lowN A x a.k a.s) h x G ≤ 2 := by unfold decQ; split <;> split <;> omega
      omega
    · exact idle
  split
  · split
    · rename_i hB
      obtain ⟨x, e2⟩ := in_nat hB
      rw [e2] at hB ⊢
      obtain ⟨hx, hx0⟩ := (inN_nat _ _).1 hB
      obtain ⟨h, hh⟩ : ∃ h : Nat, (A.c x).i = h := ⟨(A.c x).i.toNat, by omega⟩
      have h1 : 1 ≤ h := by omega
      simp only [Int.toNat_natCast]
      unfold fdelG fdelQ
      simp only [hh, Int.toNat_natCast]
      obtain ⟨t, s, hR⟩ : ∃ t s, G.R h = t :: s := by
        cases hRR : G.R h with
        | nil =>
          have h2 := I.min_none hRR
          have h3 := (minN_none (A := A) (h := (h : Int)) (by omega)).1 h2
          have : 0 < lenN A (h : Int) := lenN_pos.2 ⟨x, hx, hh, by omega⟩
          omega
        | cons t s => exact ⟨t, s, rfl⟩
      by_cases htx : t = x
      · subst htx
        rw [if_pos (by rw [hR]; rfl), if_pos (by rw [hR]; rfl)]
        exact ext h
      · have hne : ¬ hdI (G.R h) = (x : Int) := by rw [hR]; intro e; exact htx (by have e2 : (t : Int) = (x : Int) := e; omega)
        rw [if_neg hne, if_neg hne]
        obtain ⟨_, f1, f2, ⟨s', hR1⟩, d4, ux, d5, d6, d7⟩ := del1_fb I hR hx hh htx
        obtain ⟨_, _, e4, e5, e6⟩ := del_fb ⟨f1, f2⟩ ok hR1 hx ux hh htx
        have hd := deg_bits f1 ok hx hh h1 (hl h) hm
        have hq : h < 65537 := by have := ok.nat x hx; omega
        have ht := tr_one (N := 65537) (G := G) (G' := delG2 h x (looseG A.cs.length h x G)) hq (fun g hg => (e5 g hg).trans (d4 g hg))
        generalize trN 65537 (delG2 h x (looseG A.cs.length h x G)) = t4 at *
        generalize marks A.cs.length (delG2 h x (looseG A.cs.length h x G)) = m4 at *
        generalize ((delG2 h x (looseG A.cs.length h x G)).R h).length = r4 at *
        generalize ((looseG A.cs.length h x G).R h).length = r2 at *
        generalize marks A.cs.length (looseG A.cs.length h x G) = m2 at *
        omega
    · exact idle
  split
  · split
    · rename_i hB
      obtain ⟨x, y, e1, e2⟩ := join_nat hB
      rw [e1, e2] at hB ⊢
      simp only [Int.toNat_natCast]
      obtain ⟨_, c1, c2, c3, c4, hab, _⟩ := mel_fb I ok hB
      obtain ⟨j1, j2, j3⟩ := (joinB_iff _ _ _).1 hB
      have a1 := (hasN_iff _ _).1 j1
      have a2 := (hasN_iff _ _).1 j2
      have hmk : marks A.cs.length (melG (joinN A x y) x y G) = marks A.cs.length G := by unfold marks; rw [c4]
      have hQ : melQ x y G ≤ 1 := by unfold melQ rootQ; split; omega; split <;> omega
      have ht1 := tr_one (N := 65537) (q := x) (G := G) (G' := { G with R := putF G.R x ((melG (joinN A x y) x y G).R x) }) (by omega) (fun g hg => putF_ne _ _ hg)
      have ht2 := tr_one (N := 65537) (q := y) (G := { G with R := putF G.R x ((melG (joinN A x y) x y G).R x) }) (G' := melG (joinN A x y) x y G) (by omega) (fun g hg => by
        show _ = putF G.R x _ g
        by_cases e : g = x
        · rw [e, putF_at]
        · rw [putF_ne _ _ e]; exact c3 g e hg)
      have e3 : ({ G with R := putF G.R x ((melG (joinN A x y) x y G).R x) } : FG).R x = (melG (joinN A x y) x y G).R x := putF_at _ _ _
      have e4 : ({ G with R := putF G.R x ((melG (joinN A x y) x y G).R x) } : FG).R y = G.R y := putF_ne _ _ (Ne.symm hab)
      rw [e3] at ht1
      rw [e4, c2] at ht2
      simp only [List.length_nil] at ht2
      rw [hmk]
      omega
    · exact idle
  · exact idle
def fbInv (i : Nat) (A : NS) (st : Nat) (G : FG) : Prop := (st : Int) + trN 65537 G + 2 * marks A.cs.length G ≤ 16 * (i : Int) * (2 + bitsOf (i : Int)) ∧ totN A ≤ i ∧ i ≤ 1000
theorem fb_inv0 (n : Nat) : fbInv 0 (NS.new n) 0 FG.none := by
  unfold fbInv
  have h1 : trN 65537 FG.none = 0 := fsum_zero _
  have h2 : marks (NS.new n).cs.length FG.none = 0 := by
    unfold marks
    rw [List.length_eq_zero_iff, List.filter_eq_nil_iff]
    intro a _
    simp [FG.none]
  have h3 : totN (NS.new n) = 0 := by
    unfold totN
    rw [List.length_eq_zero_iff, List.filter_eq_nil_iff]
    intro c hc
    have : c = Cl.z := by unfold NS.new at hc; simp at hc; exact hc.2
    rw [this]; decide
  rw [h1, h2, h3]
  exact ⟨by simp, by omega, by omega⟩
theorem doN_len' (A : NS) (a : AC) : (doN A a).cs.length = A.cs.length := doN_len A a
theorem fb_cost (W : World) (p : Nat) (F : List Nat) (A : NS) (st : Nat) (g : nestFb.G) (a : AC) (i : Nat) (h : nestFb.at_ W p F A st g) (ha : a.Ok) (hi : i < 1000) (hv : fbInv i A st g) : fbInv (i + 1) (doN A a) (satS st (nestFb.cost A a g)) (nestFb.next A a g) := by
  have hK : FbK W p F A st g := h
  obtain ⟨v1, v2, v3⟩ := hv
  have hm := fb_amort hK.2 hK.ok a (m := (i : Int) + 1) (by omega) (by omega)
  have hs : satS st (nestFb.cost A a g) ≤ st + nestFb.cost A a g := by unfold satS; omega
  have hc : nestFb.cost A a g = (stepF A a g).2 := rfl
  have hx : nestFb.next A a g = (stepF A a g).1 := rfl
  have hb := fbits_step i (by omega)
  have hb0 := (bitsOf_bd (i : Int)).1
  have ht := tot_do (A := A) a
  unfold fbInv
  rw [hx, doN_len]
  have e1 : (((i + 1 : Nat)) : Int) = (i : Int) + 1 := by omega
  rw [e1]
  have h1 : 16 * (i : Int) * (2 + bitsOf (i : Int)) ≤ 16 * (i : Int) * (2 + bitsOf ((i : Int) + 1)) := Int.mul_le_mul_of_nonneg_left (by omega) (by omega)
  have h2 : 16 * ((i : Int) + 1) * (2 + bitsOf ((i : Int) + 1)) = 16 * (i : Int) * (2 + bitsOf ((i : Int) + 1)) + 16 * (2 + bitsOf ((i : Int) + 1)) := by rw [show 16 * ((i : Int) + 1) = 16 * (i : Int) + 16 by omega, Int.add_mul]
  refine ⟨?_, by omega, by omega⟩
  rw [h2]
  generalize 16 * (i : Int) * (2 + bitsOf (i : Int)) = z1 at *
  generalize 16 * (i : Int) * (2 + bitsOf ((i : Int) + 1)) = z2 at *
  omega
theorem fb_le (i : Nat) (A : NS) (st : Nat) (g : nestFb.G) (hv : fbInv i A st g) : (st : Int) ≤ whole 5 0 (i : Int) := by
  obtain ⟨v1, v2, v3⟩ := hv
  rw [whole_y (by decide) (by decide)]
  have hn : near (i : Int) = i := by unfold near; rw [if_neg (by omega), if_neg (by omega)]
  rw [hn]
  omega
theorem config16 (w : World) : Calls Try.prog 41 #[] w fun e w' => e = .returned (.agg #[.int .i64 5, .int .i64 0]) ∧ Upd [] w w' := by
  go_enter Try.func41, Try.ntmps41
  go_wp2
  exact bodyPost_ret (v := .agg #[.int .i64 5, .int .i64 0]) (by simp [results, Try.results41, go_sem]) rfl ⟨rfl, by (repeat (first | assumption | exact Upd.refl _ _ | refine Upd.alloc ?_ _ | refine Upd.drew ?_ | refine Upd.drewN ?_ _ | refine Upd.setCell ?_ ?_ _ | focus (left; simp; done) | focus (right; simp; done) | focus (right; simp; omega)))⟩
end Go.Proofs.Ytighgbdijagolaa
