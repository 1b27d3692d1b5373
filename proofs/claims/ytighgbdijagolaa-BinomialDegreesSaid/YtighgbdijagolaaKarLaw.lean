/-
  Carry, in the words of its plain law. Conditions: those of each lemma.
-/
import Derived.Test.YtighgbdijagolaaKar10
import Derived.Test.YtighgbdijagolaaKarPl2
set_option linter.unusedVariables false
set_option linter.unusedSimpArgs false
namespace Go.Proofs.Ytighgbdijagolaa
open Go Go.RowKit

/-- A row of roots, of rising degrees. -/
def RowF (n : Nat) (F : CF) (l : List Int) : Prop := (∀ x, x ∈ l → 0 ≤ x ∧ x < n ∧ F.u x.toNat = -1) ∧ l.Pairwise (fun x y => degF n F x < degF n F y)
theorem rootF_iff (n : Nat) (F : CF) (x : Int) : rootF n F x = true ↔ 0 ≤ x ∧ x < n ∧ F.u x.toNat = -1 := by
  unfold rootF
  simp only [Bool.and_eq_true, decide_eq_true_eq, beq_iff_eq]
  exact ⟨fun h => ⟨h.1.1, h.1.2, h.2⟩, fun h => ⟨⟨h.1, h.2.1⟩, h.2.2⟩⟩
theorem getD_mem {l : List Int} {i : Nat} (h : i < l.length) : l.getD i 0 = l[i] := by simp [List.getD_eq_getElem?_getD, h]
theorem rowB_iff (n : Nat) (S : CS) (l : List Int) : rowB n S l = true ↔ RowF n S.f l := by
  unfold rowB rowTo rowOk
  simp only [root_f, deg_f]
  rw [List.all_eq_true]
  simp only [List.mem_range, Bool.and_eq_true, Bool.or_eq_true, beq_iff_eq, decide_eq_true_eq]
  constructor
  · intro h
    refine ⟨fun x hx => ?_, ?_⟩
    · obtain ⟨i, hi, rfl⟩ := List.getElem_of_mem hx
      have := (h i hi).1
      rw [getD_mem hi] at this
      exact (rootF_iff n S.f _).1 this
    · rw [List.pairwise_iff_getElem]
      have key : ∀ (d i : Nat) (hi : i < l.length) (hj : i + d + 1 < l.length), degF n S.f l[i] < degF n S.f l[i + d + 1] := fun d => by
        induction d with
        | zero =>
          intro i hi hj
          rcases (h (i + 1) hj).2 with h2 | h2
          · omega
          · rw [Nat.add_sub_cancel, getD_mem hi, getD_mem hj] at h2
            exact of_decide_eq_true h2
        | succ d ih =>
          intro i hi hj
          have h1 := ih i hi (by omega)
          rcases (h (i + d + 1 + 1) (by omega)).2 with h2 | h2
          · omega
          · rw [Nat.add_sub_cancel, getD_mem (show i + d + 1 < l.length by omega), getD_mem (show i + d + 1 + 1 < l.length by omega)] at h2
            exact Int.lt_trans h1 (of_decide_eq_true h2)
      intro i j hi hj hij
      have := key (j - i - 1) i hi (by omega)
      simpa [show i + (j - i - 1) + 1 = j by omega] using this
  · rintro ⟨h1, h2⟩ i hi
    refine ⟨?_, ?_⟩
    · rw [getD_mem hi]
      exact (rootF_iff n S.f _).2 (h1 _ (List.getElem_mem hi))
    · rcases Nat.eq_zero_or_pos i with h0 | h0
      · exact Or.inl h0
      · rw [getD_mem hi, getD_mem (show i - 1 < l.length by omega)]
        exact Or.inr (decide_eq_true ((List.pairwise_iff_getElem.1 h2) (i - 1) i (by omega) hi (by omega)))
theorem RowF.nodup {n : Nat} {F : CF} {l : List Int} (h : RowF n F l) : l.Nodup := h.2.imp (fun {a b} hab e => by subst e; omega)
theorem any_false {A B : List Int} : A.any (fun x => decide (x ∈ B)) = false ↔ ∀ x, x ∈ A → x ∉ B := by
  rw [List.any_eq_false]
  simp
theorem g_start {n : Nat} {F : CF} {A B : List Int} {q : Nat} (f : FOk n F) (hA : RowF n F A) (hB : RowF n F B) (hd : ∀ x, x ∈ A → x ∉ B) : G n 0 0 0 0 ⟨F, A, B, [], [], q⟩ := by
  have d0 : ∀ x, 0 ≤ degF n F x := fun x => by unfold degF; split <;> omega
  refine ⟨f, fun x hx => ?_, ?_, hA.2, fun x _ => by simpa using d0 x, hB.2, fun x _ => by simpa using d0 x, fun x hx => (by cases hx), List.Pairwise.nil, fun x hx => (by cases hx)⟩
  · unfold CC.L at hx
    simp only [List.append_nil, List.mem_append] at hx
    rcases hx with hx | hx
    · exact hA.1 x hx
    · exact hB.1 x hx
  · unfold CC.L
    simp only [List.append_nil]
    rw [List.nodup_append]
    exact ⟨hA.nodup, hB.nodup, fun x hx y hy e => by subst e; exact hd x hx hy⟩
def CC.done (C : CC) : Prop := C.A = [] ∧ C.B = [] ∧ C.N = []
instance (C : CC) : Decidable C.done := by unfold CC.done; exact inferInstance
theorem step_done {lt : Int → Int → Bool} {n k : Nat} {C : CC} (h : C.done) : stepC lt n k C = C := by
  obtain ⟨F, A, B, N, O, q⟩ := C
  obtain ⟨h1, h2, h3⟩ := h
  simp only at h1 h2 h3
  subst h1 h2 h3
  rfl
theorem run_done {lt : Int → Int → Bool} {n k : Nat} {C0 : CC} (h : (runC lt n k C0).done) : ∀ j, runC lt n (k + j) C0 = runC lt n k C0
  | 0 => rfl
  | j + 1 => by
    have ih := run_done h j
    rw [Nat.add_succ, runC, ih, step_done h]
theorem run_uniq {lt : Int → Int → Bool} {n k m : Nat} {C0 : CC} (hk : (runC lt n k C0).done) (hm : (runC lt n m C0).done) : runC lt n k C0 = runC lt n m C0 := by
  rcases Nat.le_total k m with h | h
  · have := run_done hk (m - k)
    rw [show k + (m - k) = m by omega] at this
    exact this.symm
  · have := run_done hm (k - m)
    rw [show m + (k - m) = k by omega] at this
    exact this
/-- What Carry leaves: the forest, and the row. -/
def CarryTo (lt : Int → Int → Bool) (n : Nat) (C0 : CC) (F : CF) (O : List Int) (q : Nat) : Prop := ∃ k, runC lt n k C0 = ⟨F, [], [], [], O, q⟩
theorem CarryTo.eq {lt : Int → Int → Bool} {n : Nat} {C0 : CC} {F : CF} {O : List Int} {q : Nat} (h : CarryTo lt n C0 F O q) {m : Nat} (hm : (runC lt n m C0).done) : runC lt n m C0 = ⟨F, [], [], [], O, q⟩ := by
  obtain ⟨k, hk⟩ := h
  rw [← hk]
  exact run_uniq hm (by rw [hk]; exact ⟨rfl, rfl, rfl⟩)

/-- A forest and an order beside it. -/
structure FL (O : OrdK) (w : World) (bt ba lo n : Nat) (S : CS) (q : Nat) : Prop where
  f : ForestAt w bt ba lo n S
  l : O.at_ w q
  a : Apart O bt ba n S
  t : bt < w.heap.size
  ok : FOk n S.f
theorem carry_law (O : OrdK) (bt ba lo n : Nat) (S : CS) (va vb : Value) (A B : List Int) (q : Nat) (w : World) (h : FL O w bt ba lo n S q)
    (ha : SlI w (O.wr ++ ba :: S.blk n) va A) (hb : SlI w (O.wr ++ ba :: S.blk n) vb B) (hA : RowF n S.f A) (hB : RowF n S.f B) (hd : ∀ x, x ∈ A → x ∉ B) (hq : q ≤ 900000) (hdA : ∀ x, x ∈ A → O.dom x) (hdB : ∀ x, x ∈ B → O.dom x) :
    Calls Try.prog 95 #[.pointer (some ⟨bt, 0, none⟩), .iface O.ty (.pointer (some ⟨O.p, 0, none⟩)), va, vb] w fun e w' =>
      ∃ S' vo X q', e = .returned (.tuple #[vo, .bool true]) ∧ FL O w' bt ba lo n S' q' ∧ CarryTo O.lt n ⟨S.f, A, B, [], [], q⟩ S'.f X q' ∧ G n 0 0 0 0 ⟨S.f, A, B, [], [], q⟩ ∧ OwnOff w' w.heap.size vo X ∧ SlI w' (O.wr ++ ba :: S'.blk n) vo X ∧ Upd (O.wr ++ ba :: S.blk n) w w' ∧ (∀ g, g ∈ S'.blk n → g ∈ S.blk n ∨ w.heap.size ≤ g) ∧ (∀ g, vo.ownBlock = some g → g ∉ S'.blk n) := by
  have g0 := g_start (q := q) h.ok hA hB hd
  refine (carry_yes O bt ba lo n S va vb A B q w h.f h.l h.a h.t ha hb ((rowB_iff n S A).2 hA) ((rowB_iff n S B).2 hB) (any_false.2 hd) (g_ok O.asym (fun x hx => by
    have e : CC.L ⟨S.f, A, B, [], [], q⟩ = A ++ B := by unfold CC.L; simp
    rw [e] at hx
    rcases List.mem_append.1 hx with hx | hx
    · exact hdA x hx
    · exact hdB x hx) g0 rfl h.f.le hq)).mono ?_
  rintro e w' ⟨k, vn, va', vb', vo, rfl, hM, e1, e2, e3⟩
  have gk := (g_run (lt := O.lt) g0 rfl k).1
  generalize hC : runC O.lt n k ⟨S.f, A, B, [], [], q⟩ = C at *
  obtain ⟨F, A1, B1, N1, O1, q1⟩ := C
  simp only at e1 e2 e3
  subst e1 e2 e3
  obtain ⟨S', hS, hF, hAp, h4, h5, h6⟩ := hM.forest
  simp only at hS
  subst hS
  have hba := hM.old _ hM.in0.2
  have hlt2 := hF.lt2
  have hblk : ∀ g, g ∈ S'.blk n → g ∈ S.blk n ∨ w.heap.size ≤ g := fun g hg => by
    rcases h4 g hg with h' | h'
    · rcases List.mem_append.1 h' with h' | h'
      · exact absurd (O.sub _ h') (hAp.blk g hg)
      · rcases List.mem_cons.1 h' with rfl | h'
        · have := (hF.blk_lo hg).1
          omega
        · exact Or.inl h'
    · exact Or.inr (by omega)
  refine ⟨S', vo, O1, q1, rfl, ⟨hF, hM.les, hAp, Nat.lt_of_lt_of_le h.t hM.upd.size, gk.f⟩, ⟨k, hC⟩, g0, hM.out.mono (by omega), ?_, hM.upd, hblk, h6⟩
  obtain ⟨a, cap, rfl, h1, h2, h3⟩ := hM.out.shape
  refine ⟨a, cap, rfl, h1, h2, fun j u hj => ?_⟩
  obtain ⟨g, off, rfl, hc⟩ := h3 j u hj
  have hg := hM.out.lt g rfl
  refine ⟨g, off, rfl, hg.2, fun hm => ?_, hc⟩
  rcases List.mem_append.1 hm with hm | hm
  · have := hM.k0 _ (O.sub _ hm); omega
  · rcases List.mem_cons.1 hm with rfl | hm
    · omega
    · exact h6 g rfl hm
/-- What Carry leaves, all told. -/
structure Carried (lt : Int → Int → Bool) (n : Nat) (F : CF) (A B : List Int) (q : Nat) (F' : CF) (O : List Int) (q' : Nat) : Prop where
  row : RowF n F' O
  ok : FOk n F'
  cnt : q' + O.length = q + (A.length + B.length)
  sub : ∀ x, x ∈ O → x ∈ A ∨ x ∈ B
  out : ∀ x : Nat, (x : Int) ∉ A → (x : Int) ∉ B → F'.u x = F.u x ∧ F'.k x = F.k x
  wt : wt n F' O = wt n F A + wt n F B
  nl : ∀ y p : Nat, y < n → F'.u y = p → F.u y = p ∨ (((y : Int) ∈ A ∨ (y : Int) ∈ B) ∧ ((p : Int) ∈ A ∨ (p : Int) ∈ B) ∧ y ≠ p ∧ lt y p = false)
  ro : ∀ y : Nat, ((y : Int) ∈ A ∨ (y : Int) ∈ B) → (y : Int) ∈ O ∨ ∃ p : Nat, p < n ∧ F'.u y = p
theorem carried {lt : Int → Int → Bool} (has : ∀ a b, lt a b = true → lt b a = false) {n : Nat} {F : CF} {A B : List Int} {q : Nat} {F' : CF} {O : List Int} {q' : Nat} (g : G n 0 0 0 0 ⟨F, A, B, [], [], q⟩) (h : CarryTo lt n ⟨F, A, B, [], [], q⟩ F' O q') : Carried lt n F A B q F' O q' := by
  obtain ⟨k, hk⟩ := h
  have g1 := g_run (lt := lt) g rfl k
  have r := ri_run has g rfl k
  rw [hk] at g1 r
  obtain ⟨g1, _, g2⟩ := g1
  have eL : CC.L ⟨F', [], [], [], O, q'⟩ = O := by unfold CC.L; simp
  have eL0 : CC.L ⟨F, A, B, [], [], q⟩ = A ++ B := by unfold CC.L; simp
  have s := r.sub
  have o := r.out
  have w := r.wt
  rw [eL] at s w g2
  rw [eL0] at s o w g2
  refine ⟨⟨fun x hx => g1.rt x (by rw [eL]; exact hx), g1.o1⟩, g1.f, by simpa using g2, fun x hx => by simpa using s x hx, fun x h1 h2 => o x (by simp; exact ⟨h1, h2⟩), ?_, fun y p hy hu => by have := r.nl y p hy hu; rw [eL0] at this; simpa using this, fun y hy => by have := r.ro y (by rw [eL0]; simpa using hy); rw [eL] at this; exact this⟩
  rw [w]
  unfold wt
  simp

theorem wt_div (c : Nat) : ∀ l : List Nat, (∀ d, d ∈ l → c ≤ d) → ∃ X, (l.map (2 ^ ·)).sum = 2 ^ c * X
  | [], _ => ⟨0, by simp⟩
  | d :: l, h => by
    obtain ⟨X, hX⟩ := wt_div c l (fun d hd => h d (by simp [hd]))
    have hd := h d (by simp)
    refine ⟨2 ^ (d - c) + X, ?_⟩
    simp only [List.map_cons, List.sum_cons]
    rw [hX, Nat.mul_add, ← Nat.pow_add, show c + (d - c) = d by omega]
/-- The binary digits of a number, and a rising list of their places. -/
theorem bits_odd {b M : Nat} {l : List Nat} (hs : l.Pairwise (· < ·)) (hb : ∀ d, d ∈ l → b ≤ d) (hw : (l.map (2 ^ ·)).sum = 2 ^ b * M) (hM : M % 2 = 1) : ∃ t, l = b :: t ∧ (∀ d, d ∈ t → b + 1 ≤ d) ∧ (t.map (2 ^ ·)).sum = 2 ^ (b + 1) * (M / 2) := by
  have h2 : 0 < 2 ^ b := Nat.two_pow_pos b
  cases l with
  | nil =>
    simp only [List.map_nil, List.sum_nil] at hw
    have := Nat.mul_pos h2 (show 0 < M by omega)
    omega
  | cons d t =>
    rw [List.pairwise_cons] at hs
    have hd := hb d (by simp)
    by_cases e : d = b
    · subst e
      have ht : ∀ x, x ∈ t → d + 1 ≤ x := fun x hx => hs.1 x hx
      refine ⟨t, rfl, ht, ?_⟩
      simp only [List.map_cons, List.sum_cons] at hw
      obtain ⟨X, hX⟩ := wt_div (d + 1) t ht
      rw [hX] at hw ⊢
      have : 2 ^ d * (1 + 2 * X) = 2 ^ d * M := by rw [← hw, Nat.mul_add, Nat.pow_succ, Nat.mul_one, Nat.mul_assoc]
      have := Nat.eq_of_mul_eq_mul_left h2 this
      rw [show M / 2 = X by omega]
    · obtain ⟨X, hX⟩ := wt_div (b + 1) (d :: t) (fun x hx => by
        rcases List.mem_cons.1 hx with rfl | hx
        · omega
        · have := hs.1 x hx; omega)
      rw [hX] at hw
      have : 2 ^ b * (2 * X) = 2 ^ b * M := by rw [← hw, Nat.pow_succ, Nat.mul_assoc]
      have := Nat.eq_of_mul_eq_mul_left h2 this
      omega
theorem bits_even {b M : Nat} {l : List Nat} (hs : l.Pairwise (· < ·)) (hb : ∀ d, d ∈ l → b ≤ d) (hw : (l.map (2 ^ ·)).sum = 2 ^ b * M) (hM : M % 2 = 0) : (∀ d, d ∈ l → b + 1 ≤ d) ∧ (l.map (2 ^ ·)).sum = 2 ^ (b + 1) * (M / 2) := by
  have h2 : 0 < 2 ^ b := Nat.two_pow_pos b
  refine ⟨?_, by rw [hw, Nat.pow_succ, Nat.mul_assoc, show 2 * (M / 2) = M by omega]⟩
  cases l with
  | nil => exact fun d hd => (by cases hd)
  | cons d t =>
    rw [List.pairwise_cons] at hs
    have hd := hb d (by simp)
    have hdb : d ≠ b := fun e => by
      subst e
      simp only [List.map_cons, List.sum_cons] at hw
      obtain ⟨X, hX⟩ := wt_div (d + 1) t (fun x hx => hs.1 x hx)
      rw [hX] at hw
      have : 2 ^ d * (1 + 2 * X) = 2 ^ d * M := by rw [← hw, Nat.mul_add, Nat.pow_succ, Nat.mul_one, Nat.mul_assoc]
      have := Nat.eq_of_mul_eq_mul_left h2 this
      omega
    intro x hx
    rcases List.mem_cons.1 hx with rfl | hx
    · omega
    · have := hs.1 x hx; omega
theorem bits_zero {b : Nat} {l : List Nat} (hw : (l.map (2 ^ ·)).sum = 2 ^ b * 0) : l = [] := by
  cases l with
  | nil => rfl
  | cons d t =>
    simp only [List.map_cons, List.sum_cons] at hw
    have : 0 < 2 ^ d := Nat.two_pow_pos d
    omega
end Go.Proofs.Ytighgbdijagolaa
