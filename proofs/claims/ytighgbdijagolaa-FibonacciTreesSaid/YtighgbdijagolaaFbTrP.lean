/-
  Fibonacci heaps, plainly: how many trees there are behind each act. Conditions: those of each lemma.
-/
import Derived.Test.YtighgbdijagolaaFbAlive
import Derived.Test.YtighgbdijagolaaFbZ
set_option linter.unusedVariables false
set_option linter.unusedSimpArgs false
namespace Go.Proofs.Ytighgbdijagolaa

/-- The heap that an act is about. -/
def homeN (A : NS) (a : AC) : Int := if inN A a.x = true ∧ (a.kind = 4 ∨ a.kind = 5) then (A.c a.x.toNat).i else a.h
/-- Did it change the number of slots, or is a heap there no more? -/
def chN (A A' : NS) (q x : Int) : Bool := decide (lenN A' q ≠ lenN A q) || (hasN A x && !hasN A' x)
theorem chN_self (A : NS) (q x : Int) : chN A A q x = false := by unfold chN; cases hasN A x <;> simp
section
variable {A : NS} {G : FG}
theorem R_zero (I : FbI A G) : G.R 0 = [] := by
  cases e : G.R 0 with
  | nil => rfl
  | cons t s => have := (I.out (h := 0) (z := t) (by rw [e]; simp)).1; omega
theorem tree_now (I : FbI A G) (q : Int) : ((G.R q.toNat).length ≤ lenN A q) ∧ (0 < (G.R q.toNat).length ↔ 0 < lenN A q) := by
  by_cases h : 0 < q
  · have e : ((q.toNat : Nat) : Int) = q := by omega
    have h1 : 1 ≤ q.toNat := by omega
    have a := roots_len I h1
    have b := roots_pos I h1
    rw [e] at a b
    exact ⟨a, b⟩
  · rw [show q.toNat = 0 by omega, R_zero I, lenN_neg h]
    exact ⟨Nat.le_refl _, by simp⟩
theorem tree_put (I : FbI A G) (ok : A.Ok) {a : AC} (hk : a.kind = 1) (hc : chN A (doN A a) (homeN A a) a.x = true) : ((stepF A a G).1.R (homeN A a).toNat).length = (G.R (homeN A a).toNat).length + 1 := by
  have eh : homeN A a = a.h := by unfold homeN; rw [if_neg (by omega)]
  have ed : doN A a = putN A a.h a.x a.k a.s := by unfold doN; rw [if_neg (by omega), if_pos hk]
  rw [eh, ed] at hc
  rw [eh]
  unfold stepF
  rw [if_pos hk]
  cases hB : putB A a.h a.x with
  | false =>
    have e2 : putN A a.h a.x a.k a.s = A := by unfold putN; rw [hB]; rfl
    rw [e2, chN_self] at hc; cases hc
  | true =>
    rw [if_pos rfl]
    obtain ⟨h, x, e1, e2⟩ := put_nat hB
    rw [e1, e2] at hB ⊢
    simp only [Int.toNat_natCast]
    exact (ins_fb I ok a.k a.s hB).2.1
theorem tree_low (I : FbI A G) (ok : A.Ok) {a : AC} (hk : a.kind = 4) : (G.R (homeN A a).toNat).length ≤ ((stepF A a G).1.R (homeN A a).toNat).length := by
  unfold stepF
  rw [if_neg (by omega), if_neg (by omega), if_neg (by omega), if_pos hk]
  cases hB : lowB A a.x a.k a.s with
  | false => rw [if_neg (by simp)]; exact Nat.le_refl _
  | true =>
    rw [if_pos rfl]
    have hin := low_in hB
    have eh : homeN A a = (A.c a.x.toNat).i := by unfold homeN; rw [if_pos ⟨hin, Or.inl hk⟩]
    rw [eh]
    obtain ⟨x, e2⟩ := in_nat hin
    rw [e2] at hB ⊢
    obtain ⟨hx, hx0⟩ := (inN_nat _ _).1 (low_in hB)
    simp only [Int.toNat_natCast]
    obtain ⟨h, hh⟩ : ∃ h : Nat, (A.c x).i = h := ⟨(A.c x).i.toNat, by omega⟩
    rw [hh, Int.toNat_natCast]
    exact (dec_fb I hB hx hh (by omega)).2.2.1
theorem tree_meld (I : FbI A G) (ok : A.Ok) {a : AC} (hk : a.kind = 6) (hc : chN A (doN A a) (homeN A a) a.x = true) : ((stepF A a G).1.R (homeN A a).toNat).length = (G.R (homeN A a).toNat).length + (G.R a.x.toNat).length := by
  have eh : homeN A a = a.h := by unfold homeN; rw [if_neg (by omega)]
  have ed : doN A a = joinN A a.h a.x := by unfold doN; rw [if_neg (by omega), if_neg (by omega), if_neg (by omega), if_neg (by omega), if_neg (by omega), if_pos hk]
  rw [eh, ed] at hc
  rw [eh]
  unfold stepF
  rw [if_neg (by omega), if_neg (by omega), if_neg (by omega), if_neg (by omega), if_neg (by omega), if_pos hk]
  cases hB : joinB A a.h a.x with
  | false =>
    have e2 : joinN A a.h a.x = A := by unfold joinN; rw [hB]; rfl
    rw [e2, chN_self] at hc; cases hc
  | true =>
    rw [if_pos rfl]
    obtain ⟨h, x, e1, e2⟩ := join_nat hB
    rw [e1, e2] at hB ⊢
    simp only [Int.toNat_natCast]
    exact (mel_fb I ok hB).2.1
theorem tree_ext (I : FbI A G) (ok : A.Ok) {a : AC} (hk : a.kind = 3) (hc : chN A (doN A a) (homeN A a) a.x = true) : (((stepF A a G).1.R (homeN A a).toNat).length : Int) ≤ 2 * bitsOf (lenN (doN A a) (homeN A a) : Int) + 1 := by
  have eh : homeN A a = a.h := by unfold homeN; rw [if_neg (by omega)]
  have ed : doN A a = extN A a.h := by unfold doN; rw [if_neg (by omega), if_neg (by omega), if_pos hk]
  rw [eh, ed] at hc
  rw [eh, ed]
  unfold stepF
  rw [if_neg (by omega), if_neg (by omega), if_pos hk]
  cases hm : minN A a.h with
  | none =>
    have e2 : extN A a.h = A := by unfold extN; rw [hm]
    rw [e2, chN_self] at hc; cases hc
  | some x =>
    obtain ⟨h, s, e1, h1, hlh, hR, hp⟩ := fb_some I ok hm
    rw [e1] at hm ⊢
    have ee : extN A (h : Int) = dropN A x := by unfold extN; rw [hm]
    rw [ee]
    unfold fextG
    rw [hm]
    simp only [Int.toNat_natCast, hR, List.tail_cons]
    obtain ⟨_, _, _, _, _, I4, c1, c2, c3, c4, _, _, c5⟩ := ext_fb I ok hR
    have hb := (bitsOf_bd (lenN (dropN A (x : Int)) (h : Int) : Int)).1
    have hlb := lenN_le (dropN_ok ok (x : Int)) (h : Int)
    have := distinct_le (2 * bitsOf (lenN (dropN A (x : Int)) (h : Int) : Int)).toNat (((ext4 A h x (kl (G.K x) ++ s) G).1.R h).map (fun z => ((ext4 A h x (kl (G.K x) ++ s) G).1.K z).length)) (List.pairwise_map.2 c3) (fun d hd => by
      obtain ⟨z, hzm, rfl⟩ := List.mem_map.1 hd
      have o := I4.out hzm
      have := deg_bits I4.ff (dropN_ok ok x) o.2.1 o.2.2.2.1 o.1 (Int.le_refl _) (by omega)
      omega)
    rw [List.length_map] at this
    omega
end
end Go.Proofs.Ytighgbdijagolaa
