/-
  Leftist heaps: Spine and Rank of a nest of the kind, and what they tell. Conditions: those of each lemma.
-/
import Derived.Test.YtechoojcgdjcdaaLfSp3
set_option linter.unusedVariables false
set_option linter.unusedSimpArgs false
namespace Go.Proofs.Ytechoojcgdjcdaa
open Go Go.RowKit

def rkV (A : NS) (g : Nat → BT) (x : Int) : Int := if inN A x then (rankT (g (A.c x.toNat).i.toNat) x.toNat : Int) else 0
def spL (A : NS) (g : Nat → BT) (q : Int) : List Nat := rsp (if hasN A q then g q.toNat else .nil)
section
variable {w : World} {p : Nat} {F : List Nat} {A : NS} {st : Nat} {g : Nat → BT}
theorem spineK_any (h : nestLf.at_ w p F A st g) (q : Int) :
    Calls Try.prog 26 #[.pointer (some ⟨p, 0, none⟩), .int .i64 q] w fun e w' => ∃ b v, e = .returned v ∧ w.heap.size ≤ b ∧ w'.ownsRow b 3 1 v (spL A g q).length (wayZ (spL A g q)) ∧ Upd [] w w' := by
  obtain ⟨B, F1, gt, ct, rfl, rfl, hL⟩ := h
  exact lspine_any hL q
theorem rankK_any (h : nestLf.at_ w p F A st g) (x : Int) :
    Calls Try.prog 30 #[.pointer (some ⟨p, 0, none⟩), .int .i64 x] w fun e w' => e = .returned (.int .i64 (rkV A g x)) ∧ nestLf.at_ w' p F A st g ∧ Upd F w w' := by
  obtain ⟨B, F1, gt, ct, rfl, rfl, hL⟩ := h
  unfold rkV
  cases hin : inN A x with
  | false =>
    rw [if_neg (by simp)]
    refine (lrank_no hL x hin).mono ?_
    rintro e w' ⟨rfl, rfl⟩
    exact ⟨rfl, ⟨B, F1, gt, ct, rfl, rfl, hL⟩, Upd.refl _ _⟩
  | true =>
    rw [if_pos rfl]
    obtain ⟨y, rfl⟩ := in_nat hin
    have hx : y ∈ (g (A.c y).i.toNat).nodes := by
      obtain ⟨S, rk, tops, hM, hI, -⟩ := hL
      have := (inN_nat _ _).1 hin
      exact (hI.mem _ y).2 ⟨by omega, this.1, by omega⟩
    rw [Int.toNat_natCast]
    refine (lrank_yes hL y _ hx).mono ?_
    rintro e w' ⟨rfl, hL2, hu⟩
    exact ⟨rfl, ⟨B, F1, gt, ct, rfl, rfl, hL2⟩, hu.mono (fun z hz => by simp only [LB.blk, List.mem_cons]; simp [hz])⟩
theorem rkV_pos (h : nestLf.at_ w p F A st g) (x : Int) : (0 < rkV A g x) ↔ inN A x = true := by
  obtain ⟨B, F1, gt, ct, rfl, rfl, S, rk, tops, hM, hI, hL, hR⟩ := h
  unfold rkV
  cases hin : inN A x with
  | false => simp
  | true =>
    obtain ⟨y, rfl⟩ := in_nat hin
    have hm := (inN_nat _ _).1 hin
    have hx : y ∈ (g (A.c y).i.toNat).nodes := (hI.mem _ y).2 ⟨by omega, hm.1, by omega⟩
    rw [Int.toNat_natCast, if_pos rfl]
    have := rankT_pos hx
    constructor
    · intro _; rfl
    · intro _; omega
/-- What the way to the right tells. -/
structure SpTold (A : NS) (g : Nat → BT) (q : Int) (l : List Nat) : Prop where
  some : (minN A q).isSome = decide (0 < l.length)
  first : 0 < l.length → slotV (minN A q) = ((l.getD 0 0 : Nat) : Int)
  bits : (l.length : Int) ≤ bitsOf (lenN A q : Int)
  rank : ∀ i, i < l.length → rkV A g ((l.getD i 0 : Nat) : Int) = (l.length : Int) - i
  ahead : ∀ i, i + 1 < l.length → aheadN A ((l.getD i 0 : Nat) : Int) ((l.getD (i + 1) 0 : Nat) : Int) = true
  small : l.length ≤ 65536
theorem sp_told (h : nestLf.at_ w p F A st g) (q : Int) : SpTold A g q (spL A g q) := by
  have ok := nestLf.ok h
  obtain ⟨B, F1, gt, ct, rfl, rfl, S, rk, tops, hM, hI, hL, hR⟩ := h
  unfold spL
  cases hq : hasN A q with
  | false =>
    have h0 : lenN A q = 0 := by
      rcases Nat.eq_zero_or_pos (lenN A q) with h' | h'
      · exact h'
      · obtain ⟨y, y1, y2, y3⟩ := lenN_pos.1 h'
        have := inN_has ok ((inN_nat A y).2 ⟨y1, by omega⟩)
        have e : (A.c y).i = q := y2
        rw [Int.toNat_natCast, e, hq] at this
        cases this
    have hm := minN_none_iff.2 h0
    have e1 : rsp (if false = true then g q.toNat else .nil) = [] := rfl
    rw [e1]
    exact ⟨by rw [hm]; rfl, fun h => by simp at h, by have := (bitsOf_bd (lenN A q : Int)).1; simp; omega, fun i h => by simp at h, fun i h => by simp at h, by simp⟩
  | true =>
    rw [if_pos rfl]
    have a1 := (hasN_iff _ _).1 hq
    obtain ⟨k, rfl⟩ : ∃ k : Nat, q = k := ⟨q.toNat, by omega⟩
    rw [Int.toNat_natCast]
    have hsz := tree_len hI k
    have hb := lenN_le ok (k : Int)
    have hmem : ∀ i, i < (rsp (g k)).length → inN A (((rsp (g k)).getD i 0 : Nat) : Int) = true ∧ (A.c ((rsp (g k)).getD i 0)).i = k := fun i hi => by
      have := (hI.mem k _).1 (rsp_mem hi)
      exact ⟨(inN_nat _ _).2 ⟨this.2.1, by omega⟩, this.2.2⟩
    have hrl := rsp_len (g k)
    have hc := ok.c1
    have hne : 0 < lenN A (k : Int) ↔ 0 < (rsp (g k)).length := by
      constructor
      · intro h'
        obtain ⟨m, m1, m2⟩ := hI.first h'
        cases e : g k with
        | nil => rw [e] at m1; have : (-1 : Int) = m := m1; omega
        | node x l r => simp [rsp]
      · intro h'
        omega
    refine ⟨?_, fun h' => ?_, rsp_bits (hL k) (by omega) (by omega), fun i hi => ?_, fun i hi => ?_, by omega⟩
    · rcases Nat.eq_zero_or_pos (lenN A (k : Int)) with h' | h'
      · rw [minN_none_iff.2 h']
        have : ¬ 0 < (rsp (g k)).length := fun h => by have := hne.2 h; omega
        simp only [Option.isSome_none]
        symm; simpa using this
      · obtain ⟨m, m1, m2⟩ := hI.first h'
        rw [m2]
        have := hne.1 h'
        simp only [Option.isSome_some]
        symm; simpa using this
    · obtain ⟨m, m1, m2⟩ := hI.first (hne.2 h')
      rw [m2, rsp_root (fun e => by rw [e] at h'; simp [rsp] at h'), m1]; rfl
    · obtain ⟨b1, b2⟩ := hmem i hi
      unfold rkV
      rw [if_pos b1, Int.toNat_natCast, b2, Int.toNat_natCast, rsp_rankT (hI.nd k) i hi]
      omega
    · obtain ⟨b1, -⟩ := hmem i (by omega)
      obtain ⟨c1, -⟩ := hmem (i + 1) hi
      unfold aheadN
      rw [b1, c1, Int.toNat_natCast, Int.toNat_natCast]
      simpa using rsp_ahead (hI.heap k) i hi
end
end Go.Proofs.Ytechoojcgdjcdaa
