/-
  Carry, in the words of its plain law. Conditions: those of each lemma.
-/
import Derived.Test.YtdgohhkgmfjhaaaCarry10
import Derived.Test.YtdgohhkgmfjhaaaCarryPl
set_option linter.unusedVariables false
set_option linter.unusedSimpArgs false
namespace Go.Proofs.Ytdgohhkgmfjhaaa
open Go Go.RowKit

/-- A row of roots, of rising degrees. -/
def RowF (n : Nat) (F : CF) (l : List Int) : Prop := (∀ x, x ∈ l → 0 ≤ x ∧ x < n ∧ F.u x.toNat = -1) ∧ l.Pairwise (fun x y => degF n F x < degF n F y)
theorem rootF_iff (n : Nat) (F : CF) (x : Int) : rootF n F x = true ↔ 0 ≤ x ∧ x < n ∧ F.u x.toNat = -1 := by
  unfold rootF
  simp only [Bool.and_eq_true, decide_eq_true_eq, beq_iff_eq]
  exact ⟨fun h => ⟨h.1.1, h.1.2, h.2⟩, fun h => ⟨⟨h.1, h.2.1⟩, h.2.2⟩⟩
theorem getD_mem {l : List Int} {i : Nat} (h : i < l.length) : l.getD i 0 = l[i] := by simp [List.getD_eq_getElem?_getD, h]
theorem rowB_iff (n : Nat) (S : CS) (l : List Int) : rowB n S l = true ↔ RowF n S.f l := by
  unfold rowB rowTo rowOk
  simp only [root_f, deg_f]
  rw [List.all_eq_true]
  simp only [List.mem_range, Bool.and_eq_true, Bool.or_eq_true, beq_iff_eq, decide_eq_true_eq]
  constructor
  · intro h
    refine ⟨fun x hx => ?_, ?_⟩
    · obtain ⟨i, hi, rfl⟩ := List.getElem_of_mem hx
      have := (h i hi).1
      rw [getD_mem hi] at this
      exact (rootF_iff n S.f _).1 this
    · rw [List.pairwise_iff_getElem]
      have key : ∀ (d i : Nat) (hi : i < l.length) (hj : i + d + 1 < l.length), degF n S.f l[i] < degF n S.f l[i + d + 1] := fun d => by
        induction d with
        | zero =>
          intro i hi hj
          rcases (h (i + 1) hj).2 with h2 | h2
          · omega
          · rw [Nat.add_sub_cancel, getD_mem hi, getD_mem hj] at h2
            exact of_decide_eq_true h2
        | succ d ih =>
          intro i hi hj
          have h1 := ih i hi (by omega)
          rcases (h (i + d + 1 + 1) (by omega)).2 with h2 | h2
          · omega
          · rw [Nat.add_sub_cancel, getD_mem (show i + d + 1 < l.length by omega), getD_mem (show i + d + 1 + 1 < l.length by omega)] at h2
            exact Int.lt_trans h1 (of_decide_eq_true h2)
      intro i j hi hj hij
      have := key (j - i - 1) i hi (by omega)
      simpa [show i + (j - i - 1) + 1 = j by omega] using this
  · rintro ⟨h1, h2⟩ i hi
    refine ⟨?_, ?_⟩
    · rw [getD_mem hi]
      exact (rootF_iff n S.f _).2 (h1 _ (List.getElem_mem hi))
    · rcases Nat.eq_zero_or_pos i with h0 | h0
      · exact Or.inl h0
      · rw [getD_mem hi, getD_mem (show i - 1 < l.length by omega)]
        exact Or.inr (decide_eq_true ((List.pairwise_iff_getElem.1 h2) (i - 1) i (by omega) hi (by omega)))
theorem RowF.nodup {n : Nat} {F : CF} {l : List Int} (h : RowF n F l) : l.Nodup := h.2.imp (fun {a b} hab e => by subst e; omega)
theorem any_false {A B : List Int} : A.any (fun x => decide (x ∈ B)) = false ↔ ∀ x, x ∈ A → x ∉ B := by
  rw [List.any_eq_false]
  simp
theorem g_start {n : Nat} {F : CF} {A B : List Int} {q : Nat} (f : FOk n F) (hA : RowF n F A) (hB : RowF n F B) (hd : ∀ x, x ∈ A → x ∉ B) : G n 0 0 0 0 ⟨F, A, B, [], [], q⟩ := by
  have d0 : ∀ x, 0 ≤ degF n F x := fun x => by unfold degF; split <;> omega
  refine ⟨f, fun x hx => ?_, ?_, hA.2, fun x _ => by simpa using d0 x, hB.2, fun x _ => by simpa using d0 x, fun x hx => (by cases hx), List.Pairwise.nil, fun x hx => (by cases hx)⟩
  · unfold CC.L at hx
    simp only [List.append_nil, List.mem_append] at hx
    rcases hx with hx | hx
    · exact hA.1 x hx
    · exact hB.1 x hx
  · unfold CC.L
    simp only [List.append_nil]
    rw [List.nodup_append]
    exact ⟨hA.nodup, hB.nodup, fun x hx y hy e => by subst e; exact hd x hx hy⟩
def CC.done (C : CC) : Prop := C.A = [] ∧ C.B = [] ∧ C.N = []
instance (C : CC) : Decidable C.done := by unfold CC.done; exact inferInstance
theorem step_done {zs : List Int} {n k : Nat} {C : CC} (h : C.done) : stepC zs n k C = C := by
  obtain ⟨F, A, B, N, O, q⟩ := C
  obtain ⟨h1, h2, h3⟩ := h
  simp only at h1 h2 h3
  subst h1 h2 h3
  rfl
theorem run_done {zs : List Int} {n k : Nat} {C0 : CC} (h : (runC zs n k C0).done) : ∀ j, runC zs n (k + j) C0 = runC zs n k C0
  | 0 => rfl
  | j + 1 => by
    have ih := run_done h j
    rw [Nat.add_succ, runC, ih, step_done h]
theorem run_uniq {zs : List Int} {n k m : Nat} {C0 : CC} (hk : (runC zs n k C0).done) (hm : (runC zs n m C0).done) : runC zs n k C0 = runC zs n m C0 := by
  rcases Nat.le_total k m with h | h
  · have := run_done hk (m - k)
    rw [show k + (m - k) = m by omega] at this
    exact this.symm
  · have := run_done hm (k - m)
    rw [show m + (k - m) = k by omega] at this
    exact this
/-- What Carry leaves: the forest, and the row. -/
def CarryTo (zs : List Int) (n : Nat) (C0 : CC) (F : CF) (O : List Int) (q : Nat) : Prop := ∃ k, runC zs n k C0 = ⟨F, [], [], [], O, q⟩
theorem CarryTo.eq {zs : List Int} {n : Nat} {C0 : CC} {F : CF} {O : List Int} {q : Nat} (h : CarryTo zs n C0 F O q) {m : Nat} (hm : (runC zs n m C0).done) : runC zs n m C0 = ⟨F, [], [], [], O, q⟩ := by
  obtain ⟨k, hk⟩ := h
  rw [← hk]
  exact run_uniq hm (by rw [hk]; exact ⟨rfl, rfl, rfl⟩)

/-- A forest and an order beside it. -/
structure FL (w : World) (bt ba lo n kl bo : Nat) (S : CS) (zs : List Int) (vk : Value) (q : Nat) : Prop where
  f : ForestAt w bt ba lo n S
  l : LesserAt w kl bo vk zs q
  a : Apart kl bo bt ba lo n S
  t : bt < w.heap.size
  ok : FOk n S.f
theorem carry_law (bt ba lo n kl bo : Nat) (S : CS) (zs : List Int) (vk va vb : Value) (A B : List Int) (q : Nat) (w : World) (h : FL w bt ba lo n kl bo S zs vk q)
    (ha : SlI w (bo :: ba :: S.blk n) va A) (hb : SlI w (bo :: ba :: S.blk n) vb B) (hA : RowF n S.f A) (hB : RowF n S.f B) (hd : ∀ x, x ∈ A → x ∉ B) (hq : q ≤ 900000) :
    Calls Try.prog 15 #[.pointer (some ⟨bt, 0, none⟩), .iface 35 (.pointer (some ⟨bo, 0, none⟩)), va, vb] w fun e w' =>
      ∃ S' vo O q', e = .returned (.tuple #[vo, .bool true]) ∧ FL w' bt ba lo n kl bo S' zs vk q' ∧ CarryTo zs n ⟨S.f, A, B, [], [], q⟩ S'.f O q' ∧ G n 0 0 0 0 ⟨S.f, A, B, [], [], q⟩ ∧ OwnOff w' w.heap.size vo O ∧ SlI w' (bo :: ba :: S'.blk n) vo O ∧ Upd (bo :: ba :: S.blk n) w w' ∧ (∀ g, g ∈ S'.blk n → g ∈ S.blk n ∨ w.heap.size ≤ g) := by
  have g0 := g_start (q := q) h.ok hA hB hd
  refine (carry_yes bt ba lo n kl bo S zs vk va vb A B q w h.f h.l h.a h.t ha hb ((rowB_iff n S A).2 hA) ((rowB_iff n S B).2 hB) (any_false.2 hd) (g_ok g0 rfl h.f.le hq)).mono ?_
  rintro e w' ⟨k, vn, va', vb', vo, rfl, hM, e1, e2, e3⟩
  have gk := (g_run (zs := zs) g0 rfl k).1
  generalize hC : runC zs n k ⟨S.f, A, B, [], [], q⟩ = C at *
  obtain ⟨F, A1, B1, N1, O1, q1⟩ := C
  simp only at e1 e2 e3
  subst e1 e2 e3
  obtain ⟨S', hS, hF, hAp, h4, h5, h6⟩ := hM.forest
  simp only at hS
  subst hS
  have hbo := hM.old _ hM.in0.1
  have hba := hM.old _ hM.in0.2
  have hblk : ∀ g, g ∈ S'.blk n → g ∈ S.blk n ∨ w.heap.size ≤ g := fun g hg => by
    rcases h4 g hg with h' | h'
    · rcases List.mem_cons.1 h' with rfl | h'
      · exact absurd hg hAp.b3
      · rcases List.mem_cons.1 h' with rfl | h'
        · have := (hF.blk_lo hg).1
          have := hF.lt2
          omega
        · exact Or.inl h'
    · exact Or.inr (by omega)
  refine ⟨S', vo, O1, q1, rfl, ⟨hF, hM.les, hAp, Nat.lt_of_lt_of_le h.t hM.upd.size, gk.f⟩, ⟨k, hC⟩, g0, hM.out.mono (by omega), ?_, hM.upd, hblk⟩
  obtain ⟨a, cap, rfl, h1, h2, h3⟩ := hM.out.shape
  refine ⟨a, cap, rfl, h1, h2, fun j u hj => ?_⟩
  obtain ⟨g, off, rfl, hc⟩ := h3 j u hj
  have hg := hM.out.lt g rfl
  refine ⟨g, off, rfl, hg.2, fun hm => ?_, hc⟩
  rcases List.mem_cons.1 hm with rfl | hm
  · omega
  · rcases List.mem_cons.1 hm with rfl | hm
    · omega
    · exact h6 g rfl hm
end Go.Proofs.Ytdgohhkgmfjhaaa
