/-
  The memory of Carry, and what a round does to it. Conditions: those of each lemma.
-/
import Derived.Test.YtighgbdijagolaaKar7
set_option linter.unusedVariables false
set_option linter.unusedSimpArgs false
namespace Go.Proofs.Ytighgbdijagolaa
open Go Go.RowKit

theorem SlI.shape {w : World} {F : List Nat} {v : Value} {xs : List Int} (h : SlI w F v xs) : ∃ a cap, v = .slice a xs.length cap ∧ cap ≤ 9223372036854775807 := by
  obtain ⟨a, cap, rfl, _, h2, _⟩ := h
  exact ⟨a, cap, rfl, h2⟩

structure KM (O : OrdK) (w0 w : World) (bt ba lo n : Nat) (F0 : List Nat) (va vb vn vo : Value) (C : CC) : Prop where
  forest : ∃ S : CS, S.f = C.F ∧ ForestAt w bt ba lo n S ∧ Apart O bt ba n S ∧ (∀ g, g ∈ S.blk n → g ∈ F0 ∨ w0.heap.size < g) ∧ (∀ g, vn.ownBlock = some g → g ∉ S.blk n) ∧ (∀ g, vo.ownBlock = some g → g ∉ S.blk n)
  les : O.at_ w C.q
  a : SlI w0 F0 va C.A
  b : SlI w0 F0 vb C.B
  box : RowAt w w0.heap.size 63 1 (fun _ => vb)
  now : OwnOff w (w0.heap.size + 1) vn C.N
  out : OwnOff w (w0.heap.size + 1) vo C.O
  sep : ∀ g, vn.ownBlock = some g → vo.ownBlock ≠ some g
  upd : Upd F0 w0 w
  old : ∀ g, g ∈ F0 → g < w0.heap.size
  in0 : (∀ x, x ∈ O.wr → x ∈ F0) ∧ ba ∈ F0
  t0 : bt < w0.heap.size
  k0 : ∀ x, x ∈ O.rd → x < w0.heap.size
theorem KM.drewN {w0 w : World} {O : OrdK} {bt ba lo n : Nat} {F0 : List Nat} {va vb vn vo : Value} {C : CC} (h : KM O w0 w bt ba lo n F0 va vb vn vo C) (W : World) (hu : Upd [] w W) : KM O w0 W bt ba lo n F0 va vb vn vo C := by
  obtain ⟨S, h1, h2, h3⟩ := h.forest
  exact ⟨⟨S, h1, h2.upd0 hu, h3⟩, O.upd h.les hu (by simp), h.a, h.b, h.box.upd hu (by simp), h.now.upd hu (by simp), h.out.upd hu (by simp), h.sep, h.upd.then hu, h.old, h.in0, h.t0, h.k0⟩
theorem SlI.head {w : World} {F : List Nat} {a : Option Addr} {n c : Nat} {x : Int} {xs : List Int} (h : SlI w F (.slice a n c) (x :: xs)) : ∃ g off, a = some ⟨g, off, none⟩ ∧ g < w.heap.size ∧ g ∉ F ∧ w.cell? ⟨g, off, none⟩ = some (.int .i64 x) := by
  obtain ⟨a', cap, he, _, _, h3⟩ := h
  obtain ⟨g, off, rfl, hg, hF, hc⟩ := h3 0 x rfl
  cases he
  exact ⟨g, off, rfl, hg, hF, by rw [Nat.add_zero] at hc; exact hc⟩
theorem KM.deg {w0 w : World} {O : OrdK} {bt ba lo n : Nat} {F0 : List Nat} {va vb vn vo : Value} {C : CC} (h : KM O w0 w bt ba lo n F0 va vb vn vo C) (x : Int) :
    Calls Try.prog 57 #[.pointer (some ⟨bt, 0, none⟩), .int .i64 x] w fun e w' => e = .returned (.int .i64 (degF n C.F x)) ∧ w' = w := by
  obtain ⟨S, h1, h2, _⟩ := h.forest
  have := degree_any bt ba lo n S x w h2
  rw [deg_f, h1] at this
  exact this
/-- What was there before the call and is no block of the forest or the order is as it was, whatever of the call's own turns. -/
theorem KM.far {w0 w : World} {O : OrdK} {bt ba lo n : Nat} {F0 : List Nat} {va vb vn vo : Value} {C : CC} (h : KM O w0 w bt ba lo n F0 va vb vn vo C) {g off : Nat} {u : Value} (hg : g < w0.heap.size) (hF : g ∉ F0) (hc : w0.cell? ⟨g, off, none⟩ = some u) {G : List Nat} {W : World} (hu : Upd G w W) (hG : ∀ x, x ∈ G → w0.heap.size ≤ x) :
    W.cell? ⟨g, off, none⟩ = some u := by
  rw [hu.cell (Nat.lt_of_lt_of_le hg h.upd.size) (fun hm => by have := hG _ hm; simp at this; omega), h.upd.cell hg hF]
  exact hc
/-- Something of the call's own turned: what is carried. -/
theorem KM.nowTo {w0 w : World} {O : OrdK} {bt ba lo n : Nat} {F0 : List Nat} {va vb vn vo : Value} {C : CC} (h : KM O w0 w bt ba lo n F0 va vb vn vo C) {W : World} {vn' : Value} {N' : List Int}
    (hu : Upd vn.ownBlock.toList w W) (ho : OwnOff W (w0.heap.size + 1) vn' N') (hb : ∀ g, vn'.ownBlock = some g → vn.ownBlock = some g ∨ w.heap.size ≤ g) : KM O w0 W bt ba lo n F0 va vb vn' vo { C with N := N' } := by
  obtain ⟨S, h1, h2, h3, h4, h5, h6⟩ := h.forest
  have hn : ∀ g, g ∈ vn.ownBlock.toList → w0.heap.size < g ∧ g ∉ S.blk n ∧ vo.ownBlock ≠ some g := fun g hg => by
    have hg' : vn.ownBlock = some g := by simpa using hg
    exact ⟨by have := (h.now.lt g hg').1; omega, h5 g hg', h.sep g hg'⟩
  have hbt := h.t0
  have hba := h.old ba h.in0.2
  have hk := h.k0
  have hsz := h.upd.size
  refine ⟨⟨S, h1, h2.upd hu (fun hm => by have := hn _ hm; omega) (fun hm => by have := hn _ hm; omega) (fun g hg hm => (hn g hm).2.1 hg), h3, h4, fun g hg hm => ?_, h6⟩, O.upd h.les hu (fun g hg hm => by have := hn g hg; have := hk g hm; omega), h.a, h.b, h.box.upd hu (fun hm => by have := hn _ hm; omega), ho,
    h.out.upd hu (fun g hg hm => (hn g hm).2.2 hg), fun g hg he => ?_, h.upd.joined hu (fun g hg => Or.inr (by have := hn g hg; omega)), h.old, h.in0, h.t0, h.k0⟩
  · rcases hb g hg with h' | h'
    · exact h5 g h' hm
    · have := (h2.blk_lo hm).2; omega
  · rcases hb g hg with h' | h'
    · exact h.sep g h' he
    · have := (h.out.lt g he).2; omega
/-- Something of the call's own turned: what is out. -/
theorem KM.outTo {w0 w : World} {O : OrdK} {bt ba lo n : Nat} {F0 : List Nat} {va vb vn vo : Value} {C : CC} (h : KM O w0 w bt ba lo n F0 va vb vn vo C) {W : World} {vo' : Value} {O' : List Int}
    (hu : Upd vo.ownBlock.toList w W) (ho : OwnOff W (w0.heap.size + 1) vo' O') (hb : ∀ g, vo'.ownBlock = some g → vo.ownBlock = some g ∨ w.heap.size ≤ g) : KM O w0 W bt ba lo n F0 va vb vn vo' { C with O := O' } := by
  obtain ⟨S, h1, h2, h3, h4, h5, h6⟩ := h.forest
  have hn : ∀ g, g ∈ vo.ownBlock.toList → w0.heap.size < g ∧ g ∉ S.blk n ∧ vn.ownBlock ≠ some g := fun g hg => by
    have hg' : vo.ownBlock = some g := by simpa using hg
    exact ⟨by have := (h.out.lt g hg').1; omega, h6 g hg', fun e => h.sep g e hg'⟩
  have hbt := h.t0
  have hba := h.old ba h.in0.2
  have hk := h.k0
  have hsz := h.upd.size
  refine ⟨⟨S, h1, h2.upd hu (fun hm => by have := hn _ hm; omega) (fun hm => by have := hn _ hm; omega) (fun g hg hm => (hn g hm).2.1 hg), h3, h4, h5, fun g hg hm => ?_⟩, O.upd h.les hu (fun g hg hm => by have := hn g hg; have := hk g hm; omega), h.a, h.b, h.box.upd hu (fun hm => by have := hn _ hm; omega),
    h.now.upd hu (fun g hg hm => (hn g hm).2.2 hg), ho, fun g hg he => ?_, h.upd.joined hu (fun g hg => Or.inr (by have := hn g hg; omega)), h.old, h.in0, h.t0, h.k0⟩
  · rcases hb g hg with h' | h'
    · exact h6 g h' hm
    · have := (h2.blk_lo hm).2; omega
  · rcases hb g he with h' | h'
    · exact h.sep g hg h'
    · have := (h.now.lt g hg).2; omega
theorem KM.aTo {w0 w : World} {O : OrdK} {bt ba lo n : Nat} {F0 : List Nat} {va vb vn vo va' : Value} {C : CC} (h : KM O w0 w bt ba lo n F0 va vb vn vo C) {A' : List Int} (ha : SlI w0 F0 va' A') : KM O w0 w bt ba lo n F0 va' vb vn vo { C with A := A' } :=
  ⟨h.forest, h.les, ha, h.b, h.box, h.now, h.out, h.sep, h.upd, h.old, h.in0, h.t0, h.k0⟩
theorem KM.bTo {w0 w : World} {O : OrdK} {bt ba lo n : Nat} {F0 : List Nat} {va vb vn vo vb' : Value} {C : CC} (h : KM O w0 w bt ba lo n F0 va vb vn vo C) {B' : List Int} (hb : SlI w0 F0 vb' B') :
    KM O w0 (w.setCell ⟨w0.heap.size, 0, none⟩ vb') bt ba lo n F0 va vb' vn vo { C with B := B' } := by
  obtain ⟨S, h1, h2, h3, h4, h5, h6⟩ := h.forest
  have hu : Upd [w0.heap.size] w (w.setCell ⟨w0.heap.size, 0, none⟩ vb') := (Upd.refl _ _).setCell (Or.inl (by simp)) _
  have hbt := h.t0
  have hba := h.old ba h.in0.2
  have hk := h.k0
  refine ⟨⟨S, h1, h2.upd hu (by simp; omega) (by simp; omega) (fun g hg hm => ?_), h3, h4, h5, h6⟩, O.upd h.les hu (fun g hg hm => by have := hk g hm; simp at hg; omega), h.a, hb, (h.box.set 0 vb').ext (fun j hj => by simp; omega), h.now.upd hu (fun g hg hm => ?_), h.out.upd hu (fun g hg hm => ?_), h.sep, h.upd.joined hu (fun g hg => Or.inr (by simp at hg; omega)), h.old, h.in0, h.t0, h.k0⟩
  · simp at hm; subst hm
    rcases h4 _ hg with h' | h'
    · have := h.old _ h'; omega
    · omega
  · have := (h.now.lt g hg).1; simp at hm; omega
  · have := (h.out.lt g hg).1; simp at hm; omega
theorem KM.joinTo {w0 w : World} {O : OrdK} {bt ba lo n : Nat} {F0 : List Nat} {va vb vn vo : Value} {C : CC} (h : KM O w0 w bt ba lo n F0 va vb vn vo C) {S : CS} (hS : S.f = C.F) (h2 : ForestAt w bt ba lo n S) (h3 : Apart O bt ba n S)
    (h4 : ∀ g, g ∈ S.blk n → g ∈ F0 ∨ w0.heap.size < g) (h6 : ∀ g, vo.ownBlock = some g → g ∉ S.blk n) {W : World} {v : Value} {a b : Nat} (hF : ForestAt W bt ba lo n (linkS S v a b)) (hL : O.at_ W (C.q + 1)) (hu : Upd (O.wr ++ ba :: S.blk n) w W)
    (hg : ∀ g, g ∈ (linkS S v a b).blk n → g ∈ S.blk n ∨ w.heap.size ≤ g) :
    KM O w0 (W.alloc (.cells #[.int .i64 (a : Int)] 3)) bt ba lo n F0 va vb (.slice (some ⟨W.heap.size, 0, none⟩) 1 1) vo { C with F := linkF C.F a b, N := [(a : Int)], q := C.q + 1 } := by
  have hbt := h.t0
  have hba := h.old ba h.in0.2
  have hk := h.k0
  have hbx := h.box.lt
  have hsz := hu.size
  have hm : ∀ g, g ∈ O.wr ++ ba :: S.blk n → g ∈ F0 ∨ w0.heap.size < g := fun g hg => by
    rcases List.mem_append.1 hg with hg | hg
    · exact Or.inl (h.in0.1 _ hg)
    · rcases List.mem_cons.1 hg with rfl | hg
      · exact Or.inl h.in0.2
      · exact h4 g hg
  have hvo : ∀ g, vo.ownBlock = some g → g ∉ O.wr ++ ba :: S.blk n := fun g hg hm => by
    have := (h.out.lt g hg).1
    rcases List.mem_append.1 hm with hm | hm
    · have := hk _ (O.sub _ hm); omega
    · rcases List.mem_cons.1 hm with rfl | hm
      · omega
      · exact h6 g hg hm
  have ha : Upd [] W (W.alloc (.cells #[.int .i64 (a : Int)] 3)) := (Upd.refl _ _).alloc _
  have hb : w0.heap.size ∉ O.wr ++ ba :: S.blk n := fun hm2 => by
    rcases hm _ hm2 with h' | h'
    · have := h.old _ h'; omega
    · omega
  refine ⟨⟨linkS S v a b, by rw [link_f, hS], hF.upd0 ha, ⟨h3.bt, h3.ba, fun g hg1 hm => ?_⟩, fun g hgm => ?_, fun g hg1 hgm => ?_, fun g hg1 hgm => ?_⟩, O.upd hL ha (by simp), h.a, h.b, (h.box.upd hu hb).upd ha (by simp), OwnOff.lit W _ a (by omega),
    (h.out.upd hu hvo).upd ha (by simp), fun g hg1 hg2 => ?_, (h.upd.joined hu (fun g hg => by rcases hm g hg with h' | h'; exact Or.inl h'; exact Or.inr (by omega))).then ha, h.old, h.in0, h.t0, h.k0⟩
  · rcases hg _ hg1 with h' | h'
    · exact h3.blk g h' hm
    · have := hk _ hm; omega
  · rcases hg g hgm with h' | h'
    · exact h4 g h'
    · exact Or.inr (by omega)
  · simp [Value.ownBlock] at hg1
    have := (hF.blk_lo hgm).2
    omega
  · rcases hg g hgm with h' | h'
    · exact h6 g hg1 h'
    · have := (h.out.lt g hg1).2; omega
  · simp [Value.ownBlock] at hg1
    have := (h.out.lt g hg2).2
    omega
end Go.Proofs.Ytighgbdijagolaa
