/-
  Binomial heaps: what each call costs is no more than there may be (plain). Conditions: those of each lemma.
-/
import Derived.Test.YtighgbdijagolaaBnAlive
import Derived.Test.YtighgbdijagolaaLimits
set_option linter.unusedVariables false
set_option linter.unusedSimpArgs false
namespace Go.Proofs.Ytighgbdijagolaa
open Go Go.RowKit

theorem bits_pow : ∀ (r : Nat) (m : Int), (2 : Int) ^ r ≤ m → m ≤ 4611686018427387904 → (r : Int) + 1 ≤ bitsOf m
  | 0, m, h, h2 => by
    have h0 : (1 : Int) ≤ m := by simpa using h
    rw [bitsOf_half (by omega) (by omega)]
    have := (bitsOf_bd (m / 2)).1
    omega
  | r + 1, m, h, h2 => by
    have hp : (2 : Int) ^ (r + 1) = 2 ^ r * 2 := by rw [Int.pow_succ]
    have hq : (1 : Int) ≤ 2 ^ r := by
      have : (0 : Int) < 2 ^ r := Int.pow_pos (by decide)
      omega
    rw [bitsOf_half (by omega) (by omega)]
    have := bits_pow r (m / 2) (by omega) (by omega)
    omega
theorem bits_nat {r : Nat} {m : Int} (h : ((2 ^ r : Nat) : Int) ≤ m) (h2 : m ≤ 4611686018427387904) : (r : Int) + 1 ≤ bitsOf m := by
  refine bits_pow r m ?_ h2
  have h3 : ((2 ^ r : Nat) : Int) = (2 : Int) ^ r := by push_cast; rfl
  omega
theorem last_ge : ∀ (l : List Nat) (b : Nat), l.Pairwise (· < ·) → (∀ d, d ∈ l → b ≤ d) → l ≠ [] → ∃ d, d ∈ l ∧ b + l.length ≤ d + 1
  | [], _, _, _, h => absurd rfl h
  | d :: t, b, hs, hb, _ => by
    rw [List.pairwise_cons] at hs
    have hd := hb d (by simp)
    by_cases ht : t = []
    · subst ht; exact ⟨d, by simp, by simp; omega⟩
    · obtain ⟨e, he, h2⟩ := last_ge t (b + 1) hs.2 (fun x hx => by have := hs.1 x hx; omega) ht
      exact ⟨e, List.mem_cons_of_mem _ he, by simp only [List.length_cons]; omega⟩
theorem wt_ge {n : Nat} {F : CF} {l : List Int} {x : Int} (h : x ∈ l) : 2 ^ (degF n F x).toNat ≤ wt n F l := by
  induction l with
  | nil => cases h
  | cons y t ih =>
    have e : wt n F (y :: t) = 2 ^ (degF n F y).toNat + wt n F t := by unfold wt; simp
    rw [e]
    rcases List.mem_cons.1 h with rfl | h
    · exact Nat.le_add_right _ _
    · exact Nat.le_trans (ih h) (Nat.le_add_left _ _)
theorem row_deg {n : Nat} {F : CF} {l : List Int} {m : Int} {x : Nat} (hx : x < n) (h : (x : Int) ∈ l) (hw : (wt n F l : Int) ≤ m) (hm : m ≤ 4611686018427387904) : ((F.k x).length : Int) + 1 ≤ bitsOf m := by
  have := wt_ge (n := n) (F := F) h
  rw [degF_nat _ _ hx, Int.toNat_natCast] at this
  exact bits_nat (by omega) hm
theorem row_len {n : Nat} {F : CF} {l : List Int} {m : Int} (hr : RowF n F l) (hw : (wt n F l : Int) ≤ m) (hm : m ≤ 4611686018427387904) : (l.length : Int) ≤ bitsOf m := by
  by_cases h : l = []
  · subst h
    have := (bitsOf_bd m).1
    simp; omega
  · have hp : (l.map (fun x => (degF n F x).toNat)).Pairwise (· < ·) := by
      rw [List.pairwise_map]
      exact hr.2.imp (fun {a b} hab => by have := degF_nn n F a; omega)
    obtain ⟨d, hd, h2⟩ := last_ge _ 0 hp (fun d _ => Nat.zero_le _) (by simpa using h)
    rw [List.length_map] at h2
    obtain ⟨x, hx, rfl⟩ := List.mem_map.1 hd
    have h3 := wt_ge (n := n) (F := F) hx
    have h4 := bits_nat (r := (degF n F x).toNat) (m := m) (by omega) hm
    omega
/-- Each slot's degree is no greater than that of a root of its heap. -/
theorem bn_topd {A : NS} {G : BG} (B : BnI A G) : ∀ (m y : Nat), A.cs.length ≤ m + (G.F.k y).length → y < A.cs.length → 0 < (A.c y).i → ∃ T, T < A.cs.length ∧ G.F.u T = -1 ∧ (A.c T).i = (A.c y).i ∧ (G.F.k y).length ≤ (G.F.k T).length
  | m, y, hm, hy, hh => by
    rcases B.fh.f.up y hy with h1 | ⟨p, hp, h1, h2⟩
    · exact ⟨y, hy, h1, rfl, Nat.le_refl _⟩
    · have hd := B.fh.f.udeg hy h1
      have hl := B.fh.f.len hp
      have ho : (A.c y).i = (A.c p).i ∧ 0 < (A.c y).i := B.fh.home y p hy h1
      match m, hm with
      | 0, hm => omega
      | m + 1, hm =>
        obtain ⟨T, t1, t2, t3, t4⟩ := bn_topd B m p (by omega) hp (by omega)
        exact ⟨T, t1, t2, by rw [t3, ho.1], by omega⟩
theorem bn_degs {A : NS} {G : BG} (B : BnI A G) {h : Nat} (h1 : 1 ≤ h) {m : Int} (hm : (lenN A (h : Int) : Int) ≤ m) (hm2 : m ≤ 4611686018427387904) {y : Nat} (hy : y < A.cs.length) (hh : (A.c y).i = h) : ((G.F.k y).length : Int) + 1 ≤ bitsOf m := by
  obtain ⟨T, t1, t2, t3, t4⟩ := bn_topd B A.cs.length y (by omega) hy (by omega)
  have hT : (T : Int) ∈ G.R h := (B.rh.mem h T).2 ⟨h1, t1, t2, by show (A.c T).i = _; omega⟩
  have := row_deg (m := m) t1 hT (by rw [B.w h h1]; exact hm) hm2
  omega
theorem bn_rows {A : NS} {G : BG} (B : BnI A G) {h : Nat} (h1 : 1 ≤ h) {m : Int} (hm : (lenN A (h : Int) : Int) ≤ m) (hm2 : m ≤ 4611686018427387904) : ((G.R h).length : Int) ≤ bitsOf m :=
  row_len (B.rh.row h) (by rw [B.w h h1]; exact hm) hm2
theorem limit3 {m : Int} (h0 : 0 ≤ m) (h1 : m ≤ 1099511627776) : limit 3 0 m = 4 * (2 + bitsOf m) := by
  rw [limit_e (by decide) (by decide) (by decide)]
  have : near m = m := by unfold near; rw [if_neg (by omega), if_neg (by omega)]
  rw [this]
theorem limit3_pos {m : Int} : (0 : Int) ≤ limit 3 0 m := by
  rw [limit_e (by decide) (by decide) (by decide)]
  have := (bitsOf_bd (near m)).1
  omega
theorem minC_le {A : NS} {G : BG} (B : BnI A G) (ok : A.Ok) (q : Int) {m : Int} (hm : (lenN A q : Int) ≤ m) (hm2 : m ≤ 4611686018427387904) : (minC A G q : Int) ≤ bitsOf m := by
  have hb := (bitsOf_bd m).1
  unfold minC
  cases hh : hasN A q with
  | false => rw [if_neg (by simp)]; omega
  | true =>
    rw [if_pos rfl]
    have := (hasN_iff _ _).1 hh
    obtain ⟨h, rfl⟩ : ∃ h : Nat, q = h := ⟨q.toNat, by omega⟩
    rw [Int.toNat_natCast]
    have := bn_rows B (h := h) (by omega) hm hm2
    omega
theorem takeQ_le {A : NS} {G : BG} {x h : Nat} (X : BnX A G x) (ok : A.Ok) (hx : x < A.cs.length) (hr : G.F.u x = -1) (hin : 0 < (A.c x).i) (hh : (A.c x).i = h) {m : Int} (hm : (lenN A (h : Int) : Int) ≤ m) (hm2 : m ≤ 4611686018427387904) : (takeQ A h x G : Int) ≤ 2 * bitsOf m := by
  obtain ⟨_, T2, mx, _⟩ := take_bn X ok hx hr hin hh
  have h1 := row_len (m := m) (X.rh.row h) (by rw [X.w h (by omega)]; exact hm) hm2
  have h2 := row_deg (m := m) hx mx (by rw [X.w h (by omega)]; exact hm) hm2
  omega
theorem bn_cost (W : World) (p : Nat) (F : List Nat) (A : NS) (st : Nat) (g : nestBn.G) (a : AC) (h : nestBn.at_ W p F A st g) (ha : a.Ok) : (nestBn.cost A a g : Int) ≤ limit 3 0 (sizeX A a + sizeY A a + 1) := by
  have ok := nestBn.ok h
  obtain ⟨z1, z2, z3, z4⟩ := size_bd ok a
  have I : BnI A g := h.2
  rw [limit3 (by omega) (by omega)]
  have hb := (bitsOf_bd (sizeX A a + sizeY A a + 1)).1
  show ((stepB A a g).2 : Int) ≤ _
  unfold stepB
  split
  · rename_i hk
    split
    · rename_i hB
      obtain ⟨q, y, e1, e2⟩ := put_nat hB
      have e3 : sizeX A a = lenN A (q : Int) := by unfold sizeX; rw [if_neg (by omega), if_neg (by omega), e1]
      have h1 := (hasN_iff _ _).1 ((putB_iff _ _ _).1 hB).1
      rw [e1, e2] at hB ⊢
      have hq := (put_bn (h := q) (x := y) a.k a.s I ok hB).2.1
      rw [Int.toNat_natCast, Int.toNat_natCast]
      have hr := bn_rows I (h := q) (m := sizeX A a + sizeY A a + 1) (by omega) (by omega) (by omega)
      show ((putQ _ q y g : Nat) : Int) ≤ _
      omega
    · show ((0 : Nat) : Int) ≤ _; omega
  · split
    · rename_i hk
      have e3 : sizeX A a = lenN A a.h := by unfold sizeX; rw [if_neg (by omega), if_neg (by omega)]
      have := minC_le I ok a.h (m := sizeX A a + sizeY A a + 1) (by omega) (by omega)
      show ((minC A g a.h : Nat) : Int) ≤ _
      omega
    · split
      · rename_i hk
        have e3 : sizeX A a = lenN A a.h := by unfold sizeX; rw [if_neg (by omega), if_neg (by omega)]
        have hmc := minC_le I ok a.h (m := sizeX A a + sizeY A a + 1) (by omega) (by omega)
        show ((extC A a.h g : Nat) : Int) ≤ _
        unfold extC
        cases hm : minN A a.h with
        | none => simp only; omega
        | some m =>
          obtain ⟨k, e1, hk1, hh, m1, m2, m3⟩ := bn_first I ok hm
          simp only
          rw [e1, Int.toNat_natCast]
          rw [e1] at e3 hmc
          have := takeQ_le (h := k) (I.x m1) ok m1 m2 (by omega) m3 (m := sizeX A a + sizeY A a + 1) (by omega) (by omega)
          omega
      · split
        · rename_i hk
          split
          · rename_i hB
            have hi := low_in hB
            obtain ⟨y, e2⟩ := in_nat hi
            rw [e2] at hi hB ⊢
            obtain ⟨hy, hyi⟩ := (inN_nat _ _).1 hi
            obtain ⟨q, hq⟩ : ∃ q : Nat, (A.c y).i = q := ⟨(A.c y).i.toNat, by omega⟩
            have e3 : sizeX A a = lenN A (q : Int) := by unfold sizeX; rw [if_neg (by omega), if_pos ⟨Or.inl hk, by rw [e2]; exact hi⟩, e2, Int.toNat_natCast, hq]
            rw [Int.toNat_natCast]
            obtain ⟨X, -⟩ := low_start I hB hy
            have hn := low_len A (y : Int) a.k a.s
            have hli := fun z => low_i hB hy z
            have hb0 := (bitsOf_bd (sizeX A a + sizeY A a + 1)).1
            obtain ⟨D, hD⟩ : ∃ D : Nat, bitsOf (sizeX A a + sizeY A a + 1) = D := ⟨(bitsOf (sizeX A a + sizeY A a + 1)).toNat, by omega⟩
            have hc := liftL_cost (hp := fun z => decide (lt3 (lowN A y a.k a.s) y z)) (ct := 1) (A := lowN A y a.k a.s) (x := y) (by omega) (D := D) (lowN A y a.k a.s).cs.length X (fun z hz hzi => by
              rw [hli, hli] at hzi
              have := bn_degs I (h := q) (m := sizeX A a + sizeY A a + 1) (by omega) (by omega) (by omega) (y := z) (by omega) (by omega)
              omega)
            show (((decL (lowN A y a.k a.s) y g).2 : Nat) : Int) ≤ _
            have hc2 : (decL (lowN A y a.k a.s) y g).2 + 1 * (g.F.k y).length ≤ 1 * D := hc
            omega
          · show ((0 : Nat) : Int) ≤ _; omega
        · split
          · rename_i hk
            split
            · rename_i hi
              obtain ⟨y, e2⟩ := in_nat hi
              rw [e2] at hi ⊢
              obtain ⟨hy, hyi⟩ := (inN_nat _ _).1 hi
              obtain ⟨q, hq⟩ : ∃ q : Nat, (A.c y).i = q := ⟨(A.c y).i.toNat, by omega⟩
              have e3 : sizeX A a = lenN A (q : Int) := by unfold sizeX; rw [if_neg (by omega), if_pos ⟨Or.inr hk, by rw [e2]; exact hi⟩, e2, Int.toNat_natCast, hq]
              rw [Int.toNat_natCast]
              obtain ⟨X1, hr1⟩ := del_top I hy
              have hc := liftL_cost (hp := fun _ => true) (ct := 0) (A := A) (x := y) hy (D := 65536) A.cs.length (I.x hy) (fun z hz hzi => by have := I.fh.f.len hz; have := ok.c1; omega)
              have hc2 : (delL A y g).2 + 0 * (g.F.k y).length ≤ 0 * 65536 := hc
              have ht := takeQ_le (h := q) X1 ok hy hr1 hyi hq (m := sizeX A a + sizeY A a + 1) (by omega) (by omega)
              show ((delQ A y g : Nat) : Int) ≤ _
              unfold delQ
              rw [hq, Int.toNat_natCast]
              omega
            · show ((0 : Nat) : Int) ≤ _; omega
          · split
            · rename_i hk
              split
              · rename_i hB
                obtain ⟨q, y, e1, e2⟩ := join_nat hB
                have e3 : sizeX A a = lenN A (q : Int) := by unfold sizeX; rw [if_pos hk, e1]
                have e4 : sizeY A a = lenN A (y : Int) := by unfold sizeY; rw [if_pos hk, e2]
                obtain ⟨j1, j2, j3⟩ := (joinB_iff _ _ _).1 hB
                have a1 := (hasN_iff _ _).1 j1
                have a2 := (hasN_iff _ _).1 j2
                rw [e1, e2] at hB ⊢
                rw [Int.toNat_natCast, Int.toNat_natCast]
                have hq := (meld_bn (a := q) (b := y) I ok hB).2.1
                have r1 := bn_rows I (h := q) (m := sizeX A a + sizeY A a + 1) (by omega) (by omega) (by omega)
                have r2 := bn_rows I (h := y) (m := sizeX A a + sizeY A a + 1) (by omega) (by omega) (by omega)
                show ((meldQ _ q y g : Nat) : Int) ≤ _
                omega
              · show ((0 : Nat) : Int) ≤ _; omega
            · show ((0 : Nat) : Int) ≤ _; omega
theorem config13 (w : World) : Calls Try.prog 32 #[] w fun e w' => e = .returned (.agg #[.int .i64 3, .int .i64 0]) ∧ Upd [] w w' := by
  go_enter Try.func32, Try.ntmps32
  go_wp2
  exact bodyPost_ret (v := .agg #[.int .i64 3, .int .i64 0]) (by simp [results, Try.results32, go_sem]) rfl ⟨rfl, by (repeat (first | assumption | exact Upd.refl _ _ | refine Upd.alloc ?_ _ | refine Upd.drew ?_ | refine Upd.drewN ?_ _ | refine Upd.setCell ?_ ?_ _ | focus (left; simp; done) | focus (right; simp; done) | focus (right; simp; omega)))⟩
end Go.Proofs.Ytighgbdijagolaa
