/-
  Binomial heaps: what their memory holds, and what turns of it. Conditions: those of each lemma.
-/
import Derived.Test.YtighgbdijagolaaGbp
import Derived.Test.YtighgbdijagolaaNestB
set_option linter.unusedVariables false
set_option linter.unusedSimpArgs false
namespace Go.Proofs.Ytighgbdijagolaa
open Go Go.RowKit

theorem bn_via_ahead (p c : Nat) : ∀ W : World, W.cell? ⟨p, 0, none⟩ = some (.pointer (some ⟨c, 0, none⟩)) → (method 282 23 (.pointer (some ⟨p, 0, none⟩)) "Ahead").run Try.prog W = .ok (104, .pointer (some ⟨c, 0, none⟩)) W := (by intro W h; unfold method; have hm : ∃ m, (Array.find? (fun x => x.name == "Ahead") Try.t23.methods) = some m ∧ m.path.toList = [⟨32, 0, true⟩] ∧ m.func = some (104, true) ∧ m.path.isEmpty = false := ⟨(Array.find? (fun x => x.name == "Ahead") Try.t23.methods).get!, by kernel_rfl, by kernel_rfl, by kernel_rfl, by kernel_rfl⟩; obtain ⟨m, h1, h2, h3, h4⟩ := hm; go_simp; simp only [follow, Place.get]; go_simp; (try unfold receiverAt); (try simp only [Place.get]); (try go_simp))
/-- A nest's slots as an order: how often it was asked, beside what was counted before. -/
def bnO (A : NS) (p c : Nat) (F : List Nat) (st : Nat) : OrdK where
  ty := 23
  p := p
  rd := p :: c :: F
  wr := [c]
  lt := aheadN A
  dom := fun x => inN A x = true
  at_ := fun w q => p < w.heap.size ∧ p ∉ c :: F ∧ w.cell? ⟨p, 0, none⟩ = some (.pointer (some ⟨c, 0, none⟩)) ∧ CellsAt w c F A (satS st q)
  sub := fun x hx => by simp at hx; subst hx; simp
  low := fun {w q} h x hx => by
    obtain ⟨h1, h2, h3, h4⟩ := h
    rcases List.mem_cons.1 hx with rfl | hx
    · exact h1
    · rcases List.mem_cons.1 hx with rfl | hx
      · exact h4.lt _ h4.mem
      · exact h4.lt _ hx
  upd := fun {w w' S q} h hu hS => by
    obtain ⟨h1, h2, h3, h4⟩ := h
    exact ⟨Nat.lt_of_lt_of_le h1 hu.size, h2, hu.kept h3 (fun hm => hS _ hm (by simp)), h4.upd hu (fun x hx hm => hS x hx (by simp [hm]))⟩
  asym := aheadN_asym A
  ahead := fun {w q} x y h hx hy hq => by
    obtain ⟨h1, h2, h3, h4⟩ := h
    obtain ⟨a, rfl⟩ := in_nat hx
    obtain ⟨b, rfl⟩ := in_nat hy
    refine mth_via 104 (fun _ _ => by kernel_rfl) h3 (bn_via_ahead p c) (fun W hW => ?_)
    refine (cahead_yes (h4.upd0 hW) a b hx hy).mono ?_
    rintro e w' ⟨rfl, hC, hu⟩
    refine ⟨by rw [ahead_nat, hx, hy]; simp, ⟨Nat.lt_of_lt_of_le h1 (Nat.le_trans hW.size hu.size), h2, hu.kept (hW.was h3) (fun hm => h2 (by simp at hm; simp [hm])), by rw [← satS_add]; exact hC⟩, hu⟩

structure BB where
  n0 : Nat
  c : Nat
  bt : Nat
  ba : Nat
/-- The memory of a nest of binomial heaps: the cells, the forest, of each heap the slice that its row of roots lies in. -/
structure BnM (w : World) (B : BB) (F : List Nat) (gr cr lo : Nat) (A : NS) (st : Nat) (S : CS) (vs : List Value) (R : Nat → List Int) : Prop where
  head : RowAt w B.n0 32 3 (fun j => [Value.pointer (some ⟨B.c, 0, none⟩), .pointer (some ⟨B.bt, 0, none⟩), .slice (some ⟨gr, 0, none⟩) vs.length cr].getD j undef)
  cells : CellsAt w B.c F A st
  cubes : ForestAt w B.bt B.ba lo A.cs.length S
  rows : w.ownsRow 0 63 1 (.slice (some ⟨gr, 0, none⟩) vs.length cr) vs.length vs
  len : vs.length = A.hs.length
  each : ∀ h, h < vs.length → OwnOff w 0 (vs.getD h undef) (R h)
  d1 : B.n0 ∉ F ∧ B.bt ∉ F ∧ B.ba ∉ F ∧ gr ∉ F
  d2 : B.n0 ≠ B.bt ∧ B.n0 ≠ B.ba ∧ B.n0 ≠ gr ∧ B.bt ≠ gr ∧ B.ba ≠ gr
  d3 : ∀ g, g ∈ S.blk A.cs.length → g ≠ B.n0 ∧ g ≠ gr ∧ g ∉ F
  d4 : ∀ h g, h < vs.length → (vs.getD h undef).ownBlock = some g → g ≠ B.n0 ∧ g ≠ B.bt ∧ g ≠ B.ba ∧ g ≠ gr ∧ g ∉ F ∧ g ∉ S.blk A.cs.length
  d5 : ∀ h k g, h < vs.length → k < vs.length → h ≠ k → (vs.getD h undef).ownBlock = some g → (vs.getD k undef).ownBlock ≠ some g
def rblk (vs : List Value) : List Nat := vs.filterMap Value.ownBlock
theorem mem_rblk {vs : List Value} {g : Nat} : g ∈ rblk vs ↔ ∃ h, h < vs.length ∧ (vs.getD h undef).ownBlock = some g := by
  unfold rblk
  rw [List.mem_filterMap]
  constructor
  · rintro ⟨v, hv, e⟩
    obtain ⟨i, hi, rfl⟩ := List.getElem_of_mem hv
    exact ⟨i, hi, by simpa [List.getD_eq_getElem?_getD, hi] using e⟩
  · rintro ⟨i, hi, e⟩
    exact ⟨vs[i], List.getElem_mem hi, by simpa [List.getD_eq_getElem?_getD, hi] using e⟩
def BB.blk (B : BB) (F : List Nat) (gr n : Nat) (S : CS) (vs : List Value) : List Nat := B.n0 :: B.bt :: B.ba :: gr :: (F ++ (S.blk n ++ rblk vs))
theorem getDv_set (vs : List Value) (h k : Nat) (v : Value) : (vs.set h v).getD k undef = if k = h ∧ h < vs.length then v else vs.getD k undef := by
  simp only [List.getD_eq_getElem?_getD, List.getElem?_set]
  by_cases e : h = k
  · subst e
    by_cases hl : h < vs.length
    · simp [hl]
    · simp [hl]
  · rw [if_neg e, if_neg (fun h' => e h'.1.symm)]
section
variable {w : World} {B : BB} {F : List Nat} {gr cr lo : Nat} {A : NS} {st : Nat} {S : CS} {vs : List Value} {R : Nat → List Int}
theorem BnM.gr_lt (h : BnM w B F gr cr lo A st S vs R) : gr < w.heap.size := (h.rows.lt gr rfl).2
theorem BnM.row_lt (h : BnM w B F gr cr lo A st S vs R) {q g : Nat} (hq : q < vs.length) (e : (vs.getD q undef).ownBlock = some g) : g < w.heap.size := ((h.each q hq).lt g e).2
theorem BnM.lt (h : BnM w B F gr cr lo A st S vs R) : ∀ x, x ∈ B.blk F gr A.cs.length S vs → x < w.heap.size := by
  intro x hx
  have h1 := h.head.lt
  have h2 := h.cubes.head.lt
  have h3 := h.cubes.row.lt
  have h4 := h.gr_lt
  simp only [BB.blk, List.mem_cons, List.mem_append] at hx
  rcases hx with rfl | rfl | rfl | rfl | hx | hx | hx
  · exact h1
  · exact h2
  · exact h3
  · exact h4
  · exact h.cells.lt x hx
  · exact (h.cubes.blk_lo hx).2
  · obtain ⟨q, hq, e⟩ := mem_rblk.1 hx
    exact h.row_lt hq e
theorem BnM.h0 (h : BnM w B F gr cr lo A st S vs R) : w.cell? ⟨B.n0, 0, none⟩ = some (.pointer (some ⟨B.c, 0, none⟩)) := h.head.cellAt 0 (by omega) rfl
theorem BnM.h1 (h : BnM w B F gr cr lo A st S vs R) : w.cell? ⟨B.n0, 1, none⟩ = some (.pointer (some ⟨B.bt, 0, none⟩)) := h.head.cellAt 1 (by omega) rfl
theorem BnM.h2 (h : BnM w B F gr cr lo A st S vs R) : w.cell? ⟨B.n0, 2, none⟩ = some (.slice (some ⟨gr, 0, none⟩) vs.length cr) := h.head.cellAt 2 (by omega) rfl
theorem BnM.rowc (h : BnM w B F gr cr lo A st S vs R) {q : Nat} (hq : q < vs.length) : w.cell? ⟨gr, q, none⟩ = some (vs.getD q undef) := by
  rw [h.rows.cellAt q (by omega)]
  simp [List.getD_eq_getElem?_getD, hq]
theorem BnM.rowf (h : BnM w B F gr cr lo A st S vs R) (q : Nat) : w.frozen? ⟨gr, q, none⟩ = false := h.rows.frozenAt q
theorem BnM.vlen (h : BnM w B F gr cr lo A st S vs R) : vs.length ≤ 65537 := by rw [h.len]; exact h.cells.ok.h1
theorem BnM.cap (h : BnM w B F gr cr lo A st S vs R) : vs.length ≤ cr ∧ cr ≤ 9223372036854775807 := by
  rcases h.rows.2 with ⟨h1, _⟩ | ⟨g', cap', cur, h1, _, _, h2, h3, _⟩
  · cases h1
  · cases h1; unfold maxLen at h3; exact ⟨h2, h3⟩
theorem BnM.cn (h : BnM w B F gr cr lo A st S vs R) : B.n0 ≠ B.c ∧ gr ≠ B.c ∧ B.bt ≠ B.c ∧ B.ba ≠ B.c := by
  have hm := h.cells.mem
  exact ⟨fun e => h.d1.1 (e ▸ hm), fun e => h.d1.2.2.2 (e ▸ hm), fun e => h.d1.2.1 (e ▸ hm), fun e => h.d1.2.2.1 (e ▸ hm)⟩
/-- Whatever turned lies elsewhere. -/
theorem BnM.upd {w' : World} {G : List Nat} (h : BnM w B F gr cr lo A st S vs R) (hu : Upd G w w') (hG : ∀ x, x ∈ G → x ∉ B.blk F gr A.cs.length S vs) : BnM w' B F gr cr lo A st S vs R := by
  have k : ∀ x, x ∈ B.blk F gr A.cs.length S vs → x ∉ G := fun x hx hg => hG x hg hx
  refine ⟨h.head.upd hu (k _ (by simp [BB.blk])), h.cells.upd hu (fun x hx hm => hG x hx (by simp [BB.blk, hm])), h.cubes.upd hu (k _ (by simp [BB.blk])) (k _ (by simp [BB.blk])) (fun g hg => k _ (by simp [BB.blk, hg])), owns_upd h.rows hu (fun g hg => by simp [Value.ownBlock] at hg; subst hg; exact k _ (by simp [BB.blk])), h.len, fun q hq => (h.each q hq).upd hu (fun g hg => k _ ?_), h.d1, h.d2, h.d3, h.d4, h.d5⟩
  simp only [BB.blk, List.mem_cons, List.mem_append]
  exact Or.inr (Or.inr (Or.inr (Or.inr (Or.inr (Or.inr (mem_rblk.2 ⟨q, hq, hg⟩))))))
theorem BnM.upd0 {w' : World} (h : BnM w B F gr cr lo A st S vs R) (hu : Upd [] w w') : BnM w' B F gr cr lo A st S vs R := h.upd hu (by simp)
/-- The cells turned. -/
theorem BnM.setC {w' : World} {F' : List Nat} {A' : NS} {st' : Nat} (h : BnM w B F gr cr lo A st S vs R) (hu : Upd F w w') (hC : CellsAt w' B.c F' A' st') (hF : ∀ x, x ∈ F' → x ∈ F ∨ w.heap.size ≤ x) (e1 : A'.cs.length = A.cs.length) (e2 : A'.hs.length = A.hs.length) : BnM w' B F' gr cr lo A' st' S vs R := by
  have f := h.d1
  have g := h.lt
  have hf : ∀ x, x < w.heap.size → x ∉ F → x ∉ F' := fun x hx hn hm => by rcases hF x hm with h' | h'; exact hn h'; omega
  have l0 := g B.n0 (by simp [BB.blk]); have l1 := g B.bt (by simp [BB.blk]); have l2 := g B.ba (by simp [BB.blk]); have l4 := g gr (by simp [BB.blk])
  refine ⟨h.head.upd hu f.1, hC, by rw [e1]; exact h.cubes.upd hu f.2.1 f.2.2.1 (fun x hx => (h.d3 x hx).2.2), owns_upd h.rows hu (fun g hg => by simp [Value.ownBlock] at hg; subst hg; exact f.2.2.2), by rw [e2]; exact h.len,
    fun q hq => (h.each q hq).upd hu (fun g hg => (h.d4 q g hq hg).2.2.2.2.1), ⟨hf _ l0 f.1, hf _ l1 f.2.1, hf _ l2 f.2.2.1, hf _ l4 f.2.2.2⟩, h.d2, fun x hx => ?_, fun q x hq hx => ?_, h.d5⟩
  · rw [e1] at hx
    have := h.d3 x hx
    exact ⟨this.1, this.2.1, hf x (h.cubes.blk_lo hx).2 this.2.2⟩
  · have := h.d4 q x hq hx
    rw [e1]
    exact ⟨this.1, this.2.1, this.2.2.1, this.2.2.2.1, hf x (h.row_lt hq hx) this.2.2.2.2.1, this.2.2.2.2.2⟩
/-- The forest turned, and it was counted. -/
theorem BnM.setF {w' : World} {S' : CS} {st' : Nat} (h : BnM w B F gr cr lo A st S vs R) (hu : Upd (B.c :: B.ba :: S.blk A.cs.length) w w') (hC : CellsAt w' B.c F A st') (hS : ForestAt w' B.bt B.ba lo A.cs.length S') (hb : ∀ g, g ∈ S'.blk A.cs.length → g ∈ S.blk A.cs.length ∨ w.heap.size ≤ g) : BnM w' B F gr cr lo A st' S' vs R := by
  have hcn := h.cn
  have g := h.lt
  have l0 := g B.n0 (by simp [BB.blk]); have l4 := g gr (by simp [BB.blk])
  have k : ∀ x, x ≠ B.c → x ≠ B.ba → x ∉ S.blk A.cs.length → x ∉ B.c :: B.ba :: S.blk A.cs.length := fun x h1 h2 h3 hm => by
    simp only [List.mem_cons] at hm
    rcases hm with hm | hm | hm
    · exact h1 hm
    · exact h2 hm
    · exact h3 hm
  have hrow : ∀ q x, q < vs.length → (vs.getD q undef).ownBlock = some x → x ∉ B.c :: B.ba :: S.blk A.cs.length := fun q x hq hx => by
    have := h.d4 q x hq hx
    exact k x (fun e => this.2.2.2.2.1 (e ▸ h.cells.mem)) this.2.2.1 this.2.2.2.2.2
  refine ⟨h.head.upd hu (k _ hcn.1 h.d2.2.1 (fun hm => (h.d3 _ hm).1 rfl)), hC, hS, owns_upd h.rows hu (fun x hx => by simp [Value.ownBlock] at hx; subst hx; exact k _ hcn.2.1 (Ne.symm h.d2.2.2.2.2) (fun hm => (h.d3 _ hm).2.1 rfl)), h.len, fun q hq => (h.each q hq).upd hu (fun x hx => hrow q x hq hx), h.d1, h.d2, fun x hx => ?_, fun q x hq hx => ?_, h.d5⟩
  · rcases hb x hx with h' | h'
    · exact h.d3 x h'
    · exact ⟨by omega, by omega, fun hm => by have := h.cells.lt x hm; omega⟩
  · have := h.d4 q x hq hx
    refine ⟨this.1, this.2.1, this.2.2.1, this.2.2.2.1, this.2.2.2.2.1, fun hm => ?_⟩
    rcases hb x hm with h' | h'
    · exact this.2.2.2.2.2 h'
    · have := h.row_lt hq hx; omega
/-- A heap has another row; what turned beside it was the old one. -/
theorem BnM.setVG {w1 : World} {K : List Nat} (h : BnM w B F gr cr lo A st S vs R) (q : Nat) (hq : q < vs.length) (hu1 : Upd K w w1) (hK : ∀ g, g ∈ K → (vs.getD q undef).ownBlock = some g) (v : Value) (X : List Int) (hv : OwnOff w1 0 v X)
    (hg : ∀ g, v.ownBlock = some g → (g ≠ B.n0 ∧ g ≠ B.bt ∧ g ≠ B.ba ∧ g ≠ gr ∧ g ∉ F ∧ g ∉ S.blk A.cs.length) ∧ ∀ k, k < vs.length → k ≠ q → (vs.getD k undef).ownBlock ≠ some g) :
    BnM (w1.setCell ⟨gr, q, none⟩ v) B F gr cr lo A st S (vs.set q v) (setR R q X) := by
  have hu : Upd [gr] w1 (w1.setCell ⟨gr, q, none⟩ v) := by (repeat (first | assumption | exact Upd.refl _ _ | refine Upd.alloc ?_ _ | refine Upd.drew ?_ | refine Upd.drewN ?_ _ | refine Upd.setCell ?_ ?_ _ | focus (left; simp; done) | focus (right; simp; done) | focus (right; simp; omega)))
  have kk : ∀ g, g ∈ K → g ≠ B.n0 ∧ g ≠ B.bt ∧ g ≠ B.ba ∧ g ≠ gr ∧ g ∉ F ∧ g ∉ S.blk A.cs.length := fun g hg => h.d4 q g hq (hK g hg)
  have e : ∀ k, k < vs.length → (vs.set q v).getD k undef = if k = q then v else vs.getD k undef := fun k hk => by
    rw [getDv_set]
    by_cases e : k = q
    · rw [if_pos ⟨e, hq⟩, if_pos e]
    · rw [if_neg (fun h => e h.1), if_neg e]
  refine ⟨by rw [List.length_set]; exact (h.head.upd hu1 (fun hm => (kk _ hm).1 rfl)).upd hu (by simp; exact h.d2.2.2.1), (h.cells.upd hu1 (fun x hx => (kk x hx).2.2.2.2.1)).upd hu (fun x hx hm => by simp at hx; subst hx; exact h.d1.2.2.2 hm),
    (h.cubes.upd hu1 (fun hm => (kk _ hm).2.1 rfl) (fun hm => (kk _ hm).2.2.1 rfl) (fun g hg hm => (kk g hm).2.2.2.2.2 hg)).upd hu (by simp; exact h.d2.2.2.2.1) (by simp; exact h.d2.2.2.2.2) (fun x hx hm => by simp at hm; exact (h.d3 x hx).2.1 hm),
    by rw [List.length_set]; exact own_set (owns_upd h.rows hu1 (fun g hg hm => by simp [Value.ownBlock] at hg; subst hg; exact (kk _ hm).2.2.2.1 rfl)) q v, by rw [List.length_set]; exact h.len, fun k hk => ?_, h.d1, h.d2, h.d3, fun k g hk e2 => ?_, fun k j g hk hj hne e2 => ?_⟩
  · rw [List.length_set] at hk
    rw [e k hk]
    unfold setR
    by_cases ek : k = q
    · rw [if_pos ek, if_pos ek]
      exact hv.upd hu (fun g hg2 hm => by simp at hm; exact (hg g hg2).1.2.2.2.1 hm)
    · rw [if_neg ek, if_neg ek]
      exact ((h.each k hk).upd hu1 (fun g hg2 hm => h.d5 k q g hk hq ek hg2 (hK g hm))).upd hu (fun g hg2 hm => by simp at hm; exact (h.d4 k g hk hg2).2.2.2.1 hm)
  · rw [List.length_set] at hk
    rw [e k hk] at e2
    split at e2
    · exact (hg g e2).1
    · exact h.d4 k g hk e2
  · rw [List.length_set] at hk hj
    rw [e k hk] at e2
    rw [e j hj]
    split at e2
    · rename_i ek
      rw [if_neg (fun ej => hne (by omega))]
      exact (hg g e2).2 j hj (fun ej => hne (by omega))
    · rename_i ek
      split
      · rename_i ej
        intro e3
        exact (hg g e3).2 k hk ek e2
      · exact h.d5 k j g hk hj hne e2
theorem BnM.setV (h : BnM w B F gr cr lo A st S vs R) (q : Nat) (hq : q < vs.length) (v : Value) (X : List Int) (hv : OwnOff w 0 v X)
    (hg : ∀ g, v.ownBlock = some g → (g ≠ B.n0 ∧ g ≠ B.bt ∧ g ≠ B.ba ∧ g ≠ gr ∧ g ∉ F ∧ g ∉ S.blk A.cs.length) ∧ ∀ k, k < vs.length → k ≠ q → (vs.getD k undef).ownBlock ≠ some g) :
    BnM (w.setCell ⟨gr, q, none⟩ v) B F gr cr lo A st S (vs.set q v) (setR R q X) := h.setVG (K := []) q hq (Upd.refl _ _) (by simp) v X hv hg
theorem BnM.setVD {w1 : World} (h : BnM w B F gr cr lo A st S vs R) (q : Nat) (hq : q < vs.length) (hu : Upd (vs.getD q undef).ownBlock.toList w w1) (v : Value) (X : List Int) (hv : OwnOff w1 0 v X) (he : v.ownBlock = (vs.getD q undef).ownBlock) :
    BnM (w1.setCell ⟨gr, q, none⟩ v) B F gr cr lo A st S (vs.set q v) (setR R q X) :=
  h.setVG q hq hu (fun g hg => by simpa using hg) v X hv (fun g hg => ⟨h.d4 q g hq (by rw [← he]; exact hg), fun k hk hne e => h.d5 k q g hk hq hne e (by rw [← he]; exact hg)⟩)
end
end Go.Proofs.Ytighgbdijagolaa
