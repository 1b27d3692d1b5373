/-
  Binomial heaps: Nest.row, Nest.add. Conditions: those of each lemma.
-/
import Derived.Test.YtighgbdijagolaaBn
import Derived.Deep.RegionHeldLaw
import Derived.Deep.RegionLaw
set_option linter.unusedVariables false
set_option linter.unusedSimpArgs false
namespace Go.Proofs.Ytighgbdijagolaa
open Go Go.RowKit

theorem OwnOff.sl {w : World} {base : Nat} {F : List Nat} {v : Value} {xs : List Int} (h : OwnOff w base v xs) (hF : ∀ g, v.ownBlock = some g → g ∉ F) : SlI w F v xs := by
  obtain ⟨a, cap, rfl, h1, h2, h3⟩ := h.shape
  refine ⟨a, cap, rfl, h1, h2, fun j u hj => ?_⟩
  obtain ⟨g, off, rfl, hc⟩ := h3 j u hj
  exact ⟨g, off, rfl, (h.lt g rfl).2, hF g rfl, hc⟩
section
variable {w : World} {B : BB} {F : List Nat} {gr cr lo : Nat} {A : NS} {st : Nat} {S : CS} {vs : List Value} {R : Nat → List Int}
theorem BnM.shape (h : BnM w B F gr cr lo A st S vs R) {q : Nat} (hq : q < vs.length) : ∃ a cap, vs.getD q undef = .slice a (R q).length cap ∧ (R q).length ≤ cap ∧ cap ≤ 9223372036854775807 := by
  obtain ⟨a, cap, e, h1, h2, _⟩ := (h.each q hq).shape
  exact ⟨a, cap, e, h1, h2⟩
theorem BnM.hq (h : BnM w B F gr cr lo A st S vs R) {q : Int} (hh : hasN A q = true) : ∃ k : Nat, q = k ∧ 1 ≤ k ∧ k < vs.length := by
  have := (hasN_iff _ _).1 hh
  have e := h.len
  exact ⟨q.toNat, by omega, by omega, by omega⟩
theorem brow_yes (M : BnM w B F gr cr lo A st S vs R) (q : Nat) (hh : hasN A q = true) {a : Option Addr} {n cap : Nat} (hv : vs.getD q undef = .slice a n cap) :
    Calls Try.prog 56 #[.pointer (some ⟨B.n0, 0, none⟩), .int .i64 (q : Int)] w fun e w' => e = .returned (.slice a n cap) ∧ w' = w := by
  have k := chas_any M.cells (q : Int)
  rw [hh] at k
  have h0 := M.h0
  have h2 := M.h2
  obtain ⟨q', e, _, hq⟩ := M.hq hh
  obtain rfl : q = q' := by omega
  have d := M.rowc hq
  rw [hv] at d
  have hib1 : (0 : Int) ≤ (q : Int) := by omega
  have hib2 : (q : Int) < (vs.length : Int) := by omega
  clear M hh hv e
  go_enter Try.func56, Try.ntmps56
  go_wp2_with ((go_at_call 20; (with_reducible refine (k).mono ?_); rintro e w9 ⟨rfl, hw9⟩; rw [hw9]; clear hw9 w9))
  go_ret
  exact ⟨rfl, rfl⟩
theorem brow_no (M : BnM w B F gr cr lo A st S vs R) (q : Int) (hh : hasN A q = false) :
    Calls Try.prog 56 #[.pointer (some ⟨B.n0, 0, none⟩), .int .i64 q] w fun e w' => e = .returned (.slice none 0 0) ∧ w' = w := by
  have k := chas_any M.cells q
  rw [hh] at k
  have h0 := M.h0
  clear M hh
  go_enter Try.func56, Try.ntmps56
  go_wp2_with ((go_at_call 20; (with_reducible refine (k).mono ?_); rintro e w9 ⟨rfl, hw9⟩; rw [hw9]; clear hw9 w9))
  go_ret
  exact ⟨rfl, rfl⟩
theorem BnM.ord (M : BnM w B F gr cr lo A st S vs R) : (bnO A B.n0 B.c F st).at_ w 0 := by
  have h := M.cells.st62
  refine ⟨M.head.lt, ?_, M.h0, by rw [satS_zero h]; exact M.cells⟩
  simp only [List.mem_cons, not_or]
  exact ⟨M.cn.1, M.d1.1⟩
theorem BnM.apart (M : BnM w B F gr cr lo A st S vs R) : Apart (bnO A B.n0 B.c F st) B.bt B.ba A.cs.length S := by
  have hc := M.cn
  refine ⟨?_, ?_, fun g hg => ?_⟩
  · show B.bt ∉ B.n0 :: B.c :: F
    simp only [List.mem_cons, not_or]
    exact ⟨Ne.symm M.d2.1, hc.2.2.1, M.d1.2.1⟩
  · show B.ba ∉ B.n0 :: B.c :: F
    simp only [List.mem_cons, not_or]
    exact ⟨Ne.symm M.d2.2.1, hc.2.2.2, M.d1.2.2.1⟩
  · show g ∉ B.n0 :: B.c :: F
    have := M.d3 g hg
    simp only [List.mem_cons, not_or]
    exact ⟨this.1, fun e => this.2.2 (e ▸ M.cells.mem), this.2.2⟩
/-- What Carry does to a nest's forest. -/
theorem bcarry_any (M : BnM w B F gr cr lo A st S vs R) (ok : FOk A.cs.length S.f) {va vl : Value} {X L : List Int} (hva : SlI w (B.c :: B.ba :: S.blk A.cs.length) va X) (hvl : SlI w (B.c :: B.ba :: S.blk A.cs.length) vl L)
    (hA : RowF A.cs.length S.f X) (hB : RowF A.cs.length S.f L) (hd : ∀ x, x ∈ X → x ∉ L) (hin : ∀ z, z ∈ X ∨ z ∈ L → inN A z = true) :
    Calls Try.prog 95 #[.pointer (some ⟨B.bt, 0, none⟩), .iface 23 (.pointer (some ⟨B.n0, 0, none⟩)), va, vl] w fun e w' =>
      ∃ S' vo, e = .returned (.tuple #[vo, .bool true]) ∧ S'.f = (carC (aheadN A) A.cs.length S.f X L).F ∧ BnM w' B F gr cr lo A (satS st (carC (aheadN A) A.cs.length S.f X L).q) S' vs R ∧ OwnOff w' w.heap.size vo (carC (aheadN A) A.cs.length S.f X L).O ∧
        Upd (B.c :: B.ba :: S.blk A.cs.length) w w' ∧ (∀ g, g ∈ S'.blk A.cs.length → g ∈ S.blk A.cs.length ∨ w.heap.size ≤ g) ∧ (∀ g, vo.ownBlock = some g → g ∉ S'.blk A.cs.length) ∧ ∃ a n cap, vo = .slice a n cap := by
  refine (carry_law (bnO A B.n0 B.c F st) B.bt B.ba lo A.cs.length S va vl X L 0 w ⟨M.cubes, M.ord, M.apart, M.cubes.head.lt, ok⟩ hva hvl hA hB hd (Nat.zero_le _) (fun x hx => hin x (Or.inl hx)) (fun x hx => hin x (Or.inr hx))).mono ?_
  rintro e w' ⟨S', vo, O, q', rfl, hFL, hTo, hG, hO, hS, hu, hb, hx⟩
  obtain ⟨e1, e2, e3⟩ := car_to hG (aheadN_asym A) M.cubes.le hTo
  have e1 : (carC (aheadN A) A.cs.length S.f X L).F = S'.f := e1
  have e2 : (carC (aheadN A) A.cs.length S.f X L).O = O := e2
  have e3 : (carC (aheadN A) A.cs.length S.f X L).q = q' := e3
  rw [e1, e2, e3]
  obtain ⟨a, cap, e4, _⟩ := hO.shape
  exact ⟨S', vo, rfl, rfl, M.setF hu hFL.l.2.2.2 hFL.f hb, hO, hu, hb, hx, a, _, cap, e4⟩
set_option maxHeartbeats 2000000 in
/-- Roots come to those of a heap. -/
theorem badd_any (M : BnM w B F gr cr lo A st S vs R) (ok : FOk A.cs.length S.f) (q : Nat) (hq : q < vs.length) {vl : Value} {L : List Int} (hvl : SlI w (B.c :: B.ba :: S.blk A.cs.length) vl L)
    (hA : RowF A.cs.length S.f (R q)) (hB : RowF A.cs.length S.f L) (hd : ∀ x, x ∈ R q → x ∉ L) (hin : ∀ z, z ∈ R q ∨ z ∈ L → inN A z = true) :
    Calls Try.prog 70 #[.pointer (some ⟨B.n0, 0, none⟩), .int .i64 (q : Int), vl] w fun e w' =>
      ∃ S' vo, e = .returned (.tuple #[]) ∧ S'.f = (carC (aheadN A) A.cs.length S.f (R q) L).F ∧ BnM w' B F gr cr lo A (satS st (carC (aheadN A) A.cs.length S.f (R q) L).q) S' (vs.set q vo) (setR R q (carC (aheadN A) A.cs.length S.f (R q) L).O) ∧
        Upd (B.c :: B.ba :: gr :: S.blk A.cs.length) w w' ∧ (∀ g, g ∈ S'.blk A.cs.length → g ∈ S.blk A.cs.length ∨ w.heap.size ≤ g) ∧ (∀ g, vo.ownBlock = some g → w.heap.size ≤ g) := by
  have hrow : SlI w (B.c :: B.ba :: S.blk A.cs.length) (vs.getD q undef) (R q) := (M.each q hq).sl (fun g hg hm => by
    have := M.d4 q g hq hg
    simp only [List.mem_cons] at hm
    rcases hm with e | e | e
    · exact this.2.2.2.2.1 (e ▸ M.cells.mem)
    · exact this.2.2.1 e
    · exact this.2.2.2.2.2 e)
  have kc := fun W (hW : Upd [] w W) => bcarry_any (M.upd0 hW) ok (hrow.upd hW (by simp)) (hvl.upd hW (by simp)) hA hB hd hin
  obtain ⟨a, cap, hv, _⟩ := M.shape hq
  obtain ⟨a2, cap2, hv2, _⟩ := hvl
  subst hv2
  rw [hv] at kc
  have h1 := M.h1
  have h2 := M.h2
  have d := M.rowc hq
  rw [hv] at d
  have df := M.rowf q
  have hcn := M.cn
  have nn : ∀ x, x ≠ B.c → x ≠ B.ba → x ∉ S.blk A.cs.length → x ∉ B.c :: B.ba :: S.blk A.cs.length := fun x h1 h2 h3 hm => by
    simp only [List.mem_cons] at hm
    rcases hm with hm | hm | hm
    · exact h1 hm
    · exact h2 hm
    · exact h3 hm
  have n0 : B.n0 ∉ B.c :: B.ba :: S.blk A.cs.length := nn _ hcn.1 M.d2.2.1 (fun hm => (M.d3 _ hm).1 rfl)
  have ng : gr ∉ B.c :: B.ba :: S.blk A.cs.length := nn _ hcn.2.1 (Ne.symm M.d2.2.2.2.2) (fun hm => (M.d3 _ hm).2.1 rfl)
  have r1 : ∀ W, Upd (B.c :: B.ba :: S.blk A.cs.length) w W → W.cell? ⟨B.n0, 1, none⟩ = some (.pointer (some ⟨B.bt, 0, none⟩)) := fun W hW => hW.kept h1 n0
  have r2 : ∀ W, Upd (B.c :: B.ba :: S.blk A.cs.length) w W → W.cell? ⟨B.n0, 2, none⟩ = some (.slice (some ⟨gr, 0, none⟩) vs.length cr) := fun W hW => hW.kept h2 n0
  have r3 : ∀ W, Upd (B.c :: B.ba :: S.blk A.cs.length) w W → W.cell? ⟨gr, q, none⟩ = some (.slice a (R q).length cap) ∧ W.frozen? ⟨gr, q, none⟩ = false := fun W hW => ⟨hW.kept d ng, hW.keptF d ng df⟩
  have hib1 : (0 : Int) ≤ (q : Int) := by omega
  have hib2 : (q : Int) < (vs.length : Int) := by omega
  have hgl := M.gr_lt
  have HM := Lib.hid M
  have hvl2 := M.vlen
  clear M hrow hA hB hd hin hv hcn nn
  generalize hC : carC (aheadN A) A.cs.length S.f (R q) L = C at *
  generalize hrl : (R q).length = rl at *
  generalize hll : L.length = ll at *
  clear hC hrl hll
  go_enter Try.func70, Try.ntmps70
  go_wp2
  go_region_law
    (first
      | (go_simp; go_at_call 95; (with_reducible refine (kc _ (by (repeat (first | assumption | exact Upd.refl _ _ | refine Upd.alloc ?_ _ | refine Upd.drew ?_ | refine Upd.drewN ?_ _ | refine Upd.setCell ?_ ?_ _ | focus (left; simp; done) | focus (right; simp; done) | focus (right; simp; omega))))).mono ?_); rintro e w5 ⟨S5, vo, rfl, hS5, hM5, hO5, hu5a, hb5, hx5, a5, n5, c5, rfl⟩; (have hu5 : Upd (B.c :: B.ba :: S.blk A.cs.length) w w5 := Upd.trans (by (repeat (first | assumption | exact Upd.refl _ _ | refine Upd.alloc ?_ _ | refine Upd.drew ?_ | refine Upd.drewN ?_ _ | refine Upd.setCell ?_ ?_ _ | focus (left; simp; done) | focus (right; simp; done) | focus (right; simp; omega)))) hu5a); (have q1 := r1 _ hu5); (have q2 := r2 _ hu5); obtain ⟨q3, q4⟩ := r3 _ hu5))
  all_goals
    go_wp2
    go_end0
    refine ⟨S5, _, rfl, hS5, hM5.setV q hq _ C.O (hO5.mono (Nat.zero_le _)) (fun g hg => ?_), (hu5.mono (fun y hy => ?_)).setCell (Or.inl (by simp)) _, fun g hg => ?_, fun g hg => ?_⟩
    · have hgs := (hO5.lt g hg).1
      have ll := HM.out.lt
      have hw : w.heap.size ≤ g := hgs
      refine ⟨⟨?_, ?_, ?_, ?_, fun hm => ?_, hx5 g hg⟩, fun k hk hne e => ?_⟩
      · have := ll B.n0 (by simp [BB.blk]); omega
      · have := ll B.bt (by simp [BB.blk]); omega
      · have := ll B.ba (by simp [BB.blk]); omega
      · omega
      · have := HM.out.cells.lt g hm; omega
      · have := HM.out.row_lt hk e; omega
    · simp only [List.mem_cons] at hy ⊢
      rcases hy with hy | hy | hy
      · exact Or.inl hy
      · exact Or.inr (Or.inl hy)
      · exact Or.inr (Or.inr (Or.inr hy))
    · exact hb5 g hg
    · exact (hO5.lt g hg).1
end
end Go.Proofs.Ytighgbdijagolaa
