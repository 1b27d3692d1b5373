/-
  Fibonacci heaps, plainly: how many slots are below one; how many children there may be; all children and roots together. No program in sight. Conditions: those of each lemma.
-/
import Derived.Test.YtighgbdijagolaaGfb
import Derived.Test.YtighgbdijagolaaGaugeC
set_option linter.unusedVariables false
set_option linter.unusedSimpArgs false
namespace Go.Proofs.Ytighgbdijagolaa

def fbN : Nat → Nat
  | 0 => 0
  | 1 => 1
  | n + 2 => fbN (n + 1) + fbN n
theorem fbN_le : ∀ n, fbN n ≤ fbN (n + 1)
  | 0 => by decide
  | 1 => by decide
  | n + 2 => by
    have h1 := fbN_le n
    have h2 : fbN (n + 1) ≤ fbN (n + 2) := fbN_le (n + 1)
    show fbN (n + 1) + fbN n ≤ fbN (n + 2) + fbN (n + 1)
    omega
theorem fbN_mono {a b : Nat} (h : a ≤ b) : fbN a ≤ fbN b := by
  induction h with
  | refl => exact Nat.le_refl _
  | step _ ih => exact Nat.le_trans ih (fbN_le _)
theorem fbN_pow : ∀ k, 2 ^ k ≤ fbN (2 * k + 1)
  | 0 => by decide
  | k + 1 => by
    have ih := fbN_pow k
    have h1 : fbN (2 * (k + 1) + 1) = fbN (2 * k + 2) + fbN (2 * k + 1) := rfl
    have h2 := fbN_le (2 * k + 1)
    rw [h1, Nat.pow_succ]
    have h3 : fbN (2 * k + 1 + 1) = fbN (2 * k + 2) := rfl
    omega
theorem fbits_pow : ∀ (r : Nat) (m : Int), (2 : Int) ^ r ≤ m → m ≤ 4611686018427387904 → (r : Int) + 1 ≤ bitsOf m
  | 0, m, h, hm => by
    have : (1 : Int) ≤ m := by simpa using h
    rw [bitsOf_half (by omega) (by omega)]
    have := (bitsOf_bd (m / 2)).1
    omega
  | r + 1, m, h, hm => by
    have h2 : (2 : Int) ^ r * 2 ≤ m := by rw [← Int.pow_succ]; exact h
    have hp : (0 : Int) < 2 ^ r := Int.pow_pos (by omega)
    rw [bitsOf_half (by omega) (by omega)]
    have := fbits_pow r (m / 2) (by omega) (by omega)
    omega
/-- Where few are below each number, the sum is no less than that of the least ones. -/
theorem sum_few {g : Nat → Nat} (hg : ∀ a b, a ≤ b → g a ≤ g b) (v : Nat → Nat) : ∀ (k : Nat) (l : List Nat), l.length = k → (∀ d, (l.filter (fun c => decide (v c < d))).length ≤ d) → ((List.range k).map g).sum ≤ (l.map (fun c => g (v c))).sum
  | 0, l, hl, _ => by simp
  | k + 1, l, hl, hf => by
    obtain ⟨c, hc, hv⟩ : ∃ c, c ∈ l ∧ k ≤ v c := by
      apply Classical.byContradiction
      intro hn
      have : l.filter (fun c => decide (v c < k)) = l := List.filter_eq_self.2 (fun c hc => by
        have : ¬ k ≤ v c := fun h => hn ⟨c, hc, h⟩
        simpa using this)
      have h2 := hf k
      rw [this] at h2
      omega
    obtain ⟨a, b, rfl⟩ := List.append_of_mem hc
    have ih := sum_few hg v k (a ++ b) (by simp at hl ⊢; omega) (fun d => by
      have := hf d
      simp only [List.filter_append, List.length_append, List.filter_cons] at this ⊢
      split at this
      · simp only [List.length_cons] at this; omega
      · exact this)
    rw [List.range_succ, List.map_append, List.sum_append]
    simp only [List.map_cons, List.map_nil, List.sum_cons, List.sum_nil, List.map_append, List.sum_append] at ih ⊢
    have := hg k (v c) hv
    omega
theorem fbN_sum : ∀ k, ((List.range k).map (fun i => fbN (i - 1 + 2))).sum + 1 = fbN (k + 2)
  | 0 => by decide
  | k + 1 => by
    have ih := fbN_sum k
    rw [List.range_succ, List.map_append, List.sum_append]
    simp only [List.map_cons, List.map_nil, List.sum_cons, List.sum_nil]
    cases k with
    | zero => decide
    | succ k =>
      have h1 : fbN (k + 1 + 1 + 2) = fbN (k + 1 + 2) + fbN (k + 1 + 1) := rfl
      rw [h1]
      simp only [Nat.add_sub_cancel]
      have h2 : fbN (k + 2) = fbN (k + 1 + 1) := rfl
      omega
/-- What is below a slot, itself first. -/
def dsc (K : Nat → List Nat) : Nat → Nat → List Nat
  | 0, _ => []
  | f + 1, x => x :: (K x).flatMap (dsc K f)
theorem nodup_sub : ∀ (l m : List Nat), l.Nodup → (∀ x, x ∈ l → x ∈ m) → l.length ≤ m.length
  | [], m, _, _ => Nat.zero_le _
  | x :: t, m, hn, h => by
    rw [List.nodup_cons] at hn
    have hx := h x (by simp)
    have := nodup_sub t (m.erase x) hn.2 (fun y hy => (List.mem_erase_of_ne (fun e => hn.1 (by rw [← e]; exact hy))).2 (h y (by simp [hy])))
    rw [List.length_erase_of_mem hx] at this
    have : 0 < m.length := List.length_pos_of_mem hx
    simp only [List.length_cons]
    omega
/-- The slots of a heap. -/
def slotsN (A : NS) (h : Nat) : List Nat := (List.range A.cs.length).filter (fun y => decide ((A.c y).i = h))
theorem mem_slots {A : NS} {h y : Nat} : y ∈ slotsN A h ↔ y < A.cs.length ∧ (A.c y).i = h := by unfold slotsN; simp
theorem slots_nodup (A : NS) (h : Nat) : (slotsN A h).Nodup := List.nodup_range.filter _
theorem slots_len {A : NS} {h : Nat} (h1 : 1 ≤ h) : (slotsN A h).length = lenN A h := by
  unfold slotsN lenN lenL
  have : A.cs = (List.range A.cs.length).map A.c := by
    apply List.ext_getElem (by simp)
    intro i a b
    simp [NS.c, List.getD_eq_getElem?_getD, List.getElem?_eq_getElem a]
  conv => rhs; rw [this]
  rw [List.filter_map, List.length_map]
  congr 1
  refine List.filter_congr (fun y _ => ?_)
  simp only [Function.comp]
  rw [show decide ((0 : Int) < (h : Int)) = true from by simp; omega, Bool.and_true]
section
variable {A : NS} {G : FG}
/-- How many slots are ahead of one. -/
def rkN (A : NS) (x : Nat) : Nat := ((List.range A.cs.length).filter (fun z => decide (lt3 A z x))).length
theorem rk_lt {p y : Nat} (hp : p < A.cs.length) (h : lt3 A p y) : rkN A p < rkN A y := by
  unfold rkN
  have hs : ∀ z, z ∈ p :: (List.range A.cs.length).filter (fun z => decide (lt3 A z p)) → z ∈ (List.range A.cs.length).filter (fun z => decide (lt3 A z y)) := fun z hz => by
    simp only [List.mem_cons, List.mem_filter, List.mem_range, decide_eq_true_eq] at hz ⊢
    rcases hz with rfl | ⟨h1, h2⟩
    · exact ⟨hp, h⟩
    · exact ⟨h1, lt3_trans h2 h⟩
  have := nodup_sub _ _ (List.nodup_cons.2 ⟨fun hm => by
    simp only [List.mem_filter, List.mem_range, decide_eq_true_eq] at hm
    exact lt3_irr hm.2, List.nodup_range.filter _⟩) hs
  simp only [List.length_cons] at this
  omega
theorem rk_le (x : Nat) : rkN A x ≤ A.cs.length := by unfold rkN; exact Nat.le_trans (List.length_filter_le _ _) (by simp)
variable {hom : Nat → Int}
theorem dsc_fib (H : FF A.cs.length G hom (lt3 A) (fun _ => 0)) : ∀ (f x : Nat), x < A.cs.length → A.cs.length < f + rkN A x → fbN ((G.K x).length + 2) ≤ (dsc G.K f x).length
  | 0, x, hx, hf => by have := rk_le (A := A) x; omega
  | f + 1, x, hx, hf => by
    show _ ≤ (x :: (G.K x).flatMap (dsc G.K f)).length
    rw [List.length_cons, List.length_flatMap]
    have h1 : ((G.K x).map (fun c => fbN ((G.K c).length + (if G.mr c then 1 else 0) - 1 + 2))).sum ≤ ((G.K x).map (fun c => (dsc G.K f c).length)).sum := by
      have : ∀ l : List Nat, (∀ c, c ∈ l → fbN ((G.K c).length + (if G.mr c then 1 else 0) - 1 + 2) ≤ (dsc G.K f c).length) → (l.map (fun c => fbN ((G.K c).length + (if G.mr c then 1 else 0) - 1 + 2))).sum ≤ (l.map (fun c => (dsc G.K f c).length)).sum := fun l => by
        induction l with
        | nil => intro _; simp
        | cons c t ih =>
          intro h
          have := ih (fun c hc => h c (by simp [hc]))
          have := h c (by simp)
          simp only [List.map_cons, List.sum_cons]
          omega
      refine this _ (fun c hc => ?_)
      obtain ⟨k1, k2⟩ := H.kid x c hx hc
      have hr := rk_lt hx (H.ord c x k1 k2)
      refine Nat.le_trans (fbN_mono ?_) (dsc_fib H f c k1 (by omega))
      split <;> omega
    have h2 := sum_few (g := fun i => fbN (i - 1 + 2)) (fun a b hab => fbN_mono (by omega)) (fun c => (G.K c).length + (if G.mr c then 1 else 0)) (G.K x).length (G.K x) rfl (fun d => by
      have := H.cnt x d hx
      unfold few at this
      simpa using this)
    have h3 := fbN_sum (G.K x).length
    have h4 : (List.map (fun a => (dsc G.K f a).length) (G.K x)).sum = ((G.K x).map (fun c => (dsc G.K f c).length)).sum := rfl
    omega
theorem dsc_mem (H : FF A.cs.length G hom (lt3 A) (fun _ => 0)) : ∀ (f x y : Nat), x < A.cs.length → y ∈ dsc G.K f x → y < A.cs.length ∧ hom y = hom x ∧ (y = x ∨ lt3 A x y) ∧ (y = x ∨ ∃ (p f' : Nat), G.up y = p ∧ p ∈ dsc G.K f' x)
  | 0, x, y, hx, hy => by cases hy
  | f + 1, x, y, hx, hy => by
    have hy' : y ∈ x :: (G.K x).flatMap (dsc G.K f) := hy
    rcases List.mem_cons.1 hy' with rfl | hm
    · exact ⟨hx, rfl, Or.inl rfl, Or.inl rfl⟩
    · obtain ⟨c, hc, hyc⟩ := List.mem_flatMap.1 hm
      obtain ⟨k1, k2⟩ := H.kid x c hx hc
      have ho := H.ord c x k1 k2
      have hh := (H.home c x k1 k2).1
      obtain ⟨a1, a2, a3, a4⟩ := dsc_mem H f c y k1 hyc
      refine ⟨a1, a2.trans hh, Or.inr ?_, Or.inr ?_⟩
      · rcases a3 with rfl | a3
        · exact ho
        · exact lt3_trans ho a3
      · rcases a4 with rfl | ⟨p, f', b1, b2⟩
        · exact ⟨x, 1, k2, by simp [dsc]⟩
        · refine ⟨p, f' + 1, b1, ?_⟩
          show p ∈ x :: (G.K x).flatMap (dsc G.K f')
          exact List.mem_cons_of_mem _ (List.mem_flatMap.2 ⟨c, hc, b2⟩)
/-- What is below two slots with one above is not below both. -/
theorem dsc_one (H : FF A.cs.length G hom (lt3 A) (fun _ => 0)) {c c' p : Nat} (hc : c < A.cs.length) (hc' : c' < A.cs.length) (uc : G.up c = p) (uc' : G.up c' = p) : ∀ (m y f f' : Nat), rkN A y < m → y ∈ dsc G.K f c → y ∈ dsc G.K f' c' → c = c'
  | 0, y, f, f', hm, _, _ => by omega
  | m + 1, y, f, f', hm, h1, h2 => by
    obtain ⟨a1, _, a3, a4⟩ := dsc_mem H f c y hc h1
    obtain ⟨_, _, b3, b4⟩ := dsc_mem H f' c' y hc' h2
    have hp := H.above hc uc
    have oc := H.ord c p hc uc
    have oc' := H.ord c' p hc' uc'
    rcases a4 with rfl | ⟨q, g, a5, a6⟩
    · rcases b4 with rfl | ⟨q, g, b5, b6⟩
      · rfl
      · -- y = c is below c': what is above it is p, which is below c' then
        obtain rfl : q = p := by omega
        have := (dsc_mem H g c' q hc' b6).2.2.1
        rcases this with rfl | h
        · exact absurd oc' lt3_irr
        · exact absurd oc' (lt3_asym h)
    · rcases b4 with rfl | ⟨q', g', b5, b6⟩
      · obtain rfl : q = p := by omega
        have := (dsc_mem H g c q hc a6).2.2.1
        rcases this with rfl | h
        · exact absurd oc lt3_irr
        · exact absurd oc (lt3_asym h)
      · obtain rfl : q = q' := by omega
        have hq := (dsc_mem H g c q hc a6).1
        have := rk_lt hq (H.ord y q a1 a5)
        exact dsc_one H hc hc' uc uc' m q g g' (by omega) a6 b6
theorem dsc_nodup (H : FF A.cs.length G hom (lt3 A) (fun _ => 0)) : ∀ (f x : Nat), x < A.cs.length → (dsc G.K f x).Nodup
  | 0, x, hx => List.nodup_nil
  | f + 1, x, hx => by
    show (x :: (G.K x).flatMap (dsc G.K f)).Nodup
    rw [List.nodup_cons]
    constructor
    · intro hm
      obtain ⟨c, hc, hyc⟩ := List.mem_flatMap.1 hm
      obtain ⟨k1, k2⟩ := H.kid x c hx hc
      have ho := H.ord c x k1 k2
      rcases (dsc_mem H f c x k1 hyc).2.2.1 with e | h
      · subst e; exact lt3_irr ho
      · exact lt3_asym h ho
    · have nd := (H.ring x hx).nd
      rw [List.nodup_iff_pairwise_ne, List.pairwise_flatMap]
      refine ⟨fun c hc => List.nodup_iff_pairwise_ne.1 (dsc_nodup H f c (H.kid x c hx hc).1), (List.nodup_iff_pairwise_ne.1 nd).imp_of_mem (fun {a b} ha hb hab y hy z hz e => ?_)⟩
      subst e
      obtain ⟨a1, a2⟩ := H.kid x a hx ha
      obtain ⟨b1, b2⟩ := H.kid x b hx hb
      exact hab (dsc_one H a1 b1 a2 b2 (rkN A y + 1) y f f (by omega) hy hz)
/-- No slot has more children than twice the binary digits of how many are in its heap. -/
theorem deg_bits (H : FF A.cs.length G (fun y => (A.c y).i) (lt3 A) (fun _ => 0)) (ok : A.Ok) {x h : Nat} (hx : x < A.cs.length) (hh : (A.c x).i = h) (h1 : 1 ≤ h) {m : Int} (hm : (lenN A (h : Int) : Int) ≤ m) (hm2 : m ≤ 4611686018427387904) : ((G.K x).length : Int) ≤ 2 * bitsOf m := by
  have d1 := dsc_fib H (A.cs.length + 1) x hx (by omega)
  have d2 := nodup_sub _ (slotsN A h) (dsc_nodup H (A.cs.length + 1) x hx) (fun y hy => by
    obtain ⟨a1, a2, _⟩ := dsc_mem H _ x y hx hy
    have a2' : (A.c y).i = (A.c x).i := a2
    exact mem_slots.2 ⟨a1, by omega⟩)
  rw [slots_len h1] at d2
  have hb := (bitsOf_bd m).1
  apply Classical.byContradiction
  intro hn
  obtain ⟨b, hbb⟩ : ∃ b : Nat, bitsOf m = b := ⟨(bitsOf m).toNat, by omega⟩
  rw [hbb] at hn
  have h3 : fbN (2 * (b + 1) + 1) ≤ fbN ((G.K x).length + 2) := fbN_mono (by omega)
  have h4 := fbN_pow (b + 1)
  have h5 : ((2 ^ (b + 1) : Nat) : Int) ≤ m := by omega
  have h6 := fbits_pow (b + 1) m (by rw [Int.natCast_pow] at h5; exact h5) hm2
  omega
/-- All children of a heap's slots and its roots are its slots. -/
theorem deg_sum (I : FbI A G) {h : Nat} (h1 : 1 ≤ h) : ((slotsN A h).map (fun x => (G.K x).length)).sum + (G.R h).length = lenN A (h : Int) := by
  rw [← slots_len h1]
  obtain ⟨r1, r2, _⟩ := I.fr.all h
  have hl : (G.R h ++ (slotsN A h).flatMap G.K).length = ((slotsN A h).map (fun x => (G.K x).length)).sum + (G.R h).length := by
    rw [List.length_append, List.length_flatMap]
    omega
  rw [← hl]
  have hmem : ∀ y, y ∈ G.R h ++ (slotsN A h).flatMap G.K ↔ y ∈ slotsN A h := fun y => by
    rw [List.mem_append, List.mem_flatMap, mem_slots]
    constructor
    · rintro (hy | ⟨x, hx, hy⟩)
      · exact ⟨(I.out hy).2.1, (I.out hy).2.2.2.1⟩
      · obtain ⟨x1, x2⟩ := mem_slots.1 hx
        obtain ⟨k1, k2⟩ := I.ff.kid x y x1 hy
        have : (A.c y).i = (A.c x).i := (I.ff.home y x k1 k2).1
        exact ⟨k1, by omega⟩
    · rintro ⟨hy, hh⟩
      rcases I.ff.upK y hy with e | ⟨p, hp, e, hk⟩
      · exact Or.inl ((r2 y).2 ⟨h1, hy, e, hh⟩)
      · have : (A.c y).i = (A.c p).i := (I.ff.home y p hy e).1
        exact Or.inr ⟨p, mem_slots.2 ⟨hp, by omega⟩, hk⟩
  have hnd : (G.R h ++ (slotsN A h).flatMap G.K).Nodup := by
    rw [List.nodup_append]
    refine ⟨r1.nd, ?_, fun a ha b hb e => ?_⟩
    · rw [List.nodup_iff_pairwise_ne, List.pairwise_flatMap]
      refine ⟨fun c hc => List.nodup_iff_pairwise_ne.1 (I.ff.ring c (mem_slots.1 hc).1).nd, (List.nodup_iff_pairwise_ne.1 (slots_nodup A h)).imp_of_mem (fun {a b} ha hb hab y hy z hz e => ?_)⟩
      subst e
      have u1 := (I.ff.kid a y (mem_slots.1 ha).1 hy).2
      have u2 := (I.ff.kid b y (mem_slots.1 hb).1 hz).2
      omega
    · subst e
      obtain ⟨x, hx, hy⟩ := List.mem_flatMap.1 hb
      have u1 := (I.ff.kid x a (mem_slots.1 hx).1 hy).2
      have u2 := (I.out ha).2.2.1
      omega
  exact Nat.le_antisymm (nodup_sub _ _ hnd (fun y hy => (hmem y).1 hy)) (nodup_sub _ _ (slots_nodup A h) (fun y hy => (hmem y).2 hy))
/-- A heap's roots. -/
theorem roots_len (I : FbI A G) {h : Nat} (h1 : 1 ≤ h) : (G.R h).length ≤ lenN A (h : Int) := by
  have := deg_sum I h1
  omega
theorem roots_pos (I : FbI A G) {h : Nat} (h1 : 1 ≤ h) : 0 < (G.R h).length ↔ 0 < lenN A (h : Int) := by
  constructor
  · intro h; have := roots_len I h1; omega
  · intro h
    cases hR : G.R _ with
    | nil =>
      have := (minN_none (A := A) (by omega)).1 (I.min_none hR)
      omega
    | cons t s => simp
/-- Numbers below a bound, each another one. -/
theorem distinct_le : ∀ (m : Nat) (l : List Nat), l.Pairwise (· ≠ ·) → (∀ d, d ∈ l → d ≤ m) → l.length ≤ m + 1 := fun m l hp hl => nodup_bound (m + 1) l (List.nodup_iff_pairwise_ne.2 hp) (fun x hx => Nat.lt_succ_of_le (hl x hx))
end
end Go.Proofs.Ytighgbdijagolaa
