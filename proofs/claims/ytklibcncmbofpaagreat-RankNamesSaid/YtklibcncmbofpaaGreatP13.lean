/-
  Lemmas for RankNames: RkP, RkK, RkN, RkL, RkM, RkW, RkE, RkT. Conditions: those of each lemma.
-/
import Derived.WalkKit
import Derived.WalkSpells
import Derived.WalkLawsBesides
import Derived.BigQuiet
import Derived.Deep.RegionHeld3
import Derived.ProofKit
import Derived.OpenShut
import Derived.Lib.Hide
import Derived.Test.YtklibcncmbofpaaGreatProg
import Derived.Maps.AppendAt
import Derived.StillTailTactics
import Derived.Maps.OwnSet
import Derived.Maps.OwnOps
import Derived.Maps.RangeWalk
import Derived.Deep.RegionLaw
import Derived.Deep.DeepCutAuto
import Derived.DeepKeys4
import Derived.IntWalk
import Derived.Deep.Slices
import Derived.Deep.Strs
import Derived.Lib.Mul64
import Derived.Laws.Bits64b
import Derived.Lib.MinMax
import Derived.Shelf.Bits.Mul64
import Derived.Shelf.Slices.Reverse
import Derived.Shelf.Slices.Cells
import Derived.Ground.SlgnProg
import Derived.Shelf.SlicesE.Clone
import Derived.Test.YtklibcncmbofpaaGreatP01
import Derived.Test.YtklibcncmbofpaaGreatP02
import Derived.Test.YtklibcncmbofpaaGreatP03
import Derived.Test.YtklibcncmbofpaaGreatP04
import Derived.Test.YtklibcncmbofpaaGreatP05
set_option linter.unusedVariables false
set_option linter.unusedSimpArgs false
namespace Go.Proofs.YtklibcncmbofpaaGreat
open Go Go.RowKit
def ltK (ks : Nat → Int) (x y : Nat) : Prop := ks x < ks y ∨ (ks x = ks y ∧ x < y)
theorem ltK_trans {ks : Nat → Int} {x y z : Nat} (h : ltK ks x y) (h' : ltK ks y z) : ltK ks x z := by unfold ltK at *; omega
def insS (ks : Nat → Int) (i : Nat) : List Nat → List Nat
 | [] => [i]
 | x :: l => if ks i < ks x then i :: x :: l else x :: insS ks i l
def sortS (ks : Nat → Int) : Nat → List Nat
 | 0 => []
 | n + 1 => insS ks n (sortS ks n)
theorem insS_perm (ks : Nat → Int) (i : Nat) : ∀ l : List Nat, (insS ks i l).Perm (i :: l)
 | [] => List.Perm.refl _
 | x :: l => by
  unfold insS
  split
  ·exact List.Perm.refl _
  ·exact ((insS_perm ks i l).cons x).trans (List.Perm.swap i x l)
theorem sortS_perm (ks : Nat → Int) : ∀ n, (sortS ks n).Perm (List.range n)
 | 0 => List.Perm.refl _
 | n + 1 => by
  rw [List.range_succ]
  exact ((insS_perm ks n _).trans ((sortS_perm ks n).cons n)).trans (List.perm_append_comm (l₁ := [n]))
theorem sortS_mem {ks : Nat → Int} {n x : Nat} : x ∈ sortS ks n ↔ x < n := by rw [(sortS_perm ks n).mem_iff, List.mem_range]
theorem sortS_len (ks : Nat → Int) (n : Nat) : (sortS ks n).length = n := by rw [(sortS_perm ks n).length_eq, List.length_range]
theorem sortS_nodup (ks : Nat → Int) (n : Nat) : (sortS ks n).Nodup := (sortS_perm ks n).nodup_iff.2 List.nodup_range
theorem insS_sorted {ks : Nat → Int} {i : Nat} : ∀ {l : List Nat}, l.Pairwise (ltK ks) → (∀ x, x ∈ l → x < i) → (insS ks i l).Pairwise (ltK ks)
 | [], _, _ => by unfold insS; simp
 | x :: l, h, hl => by
  rw [List.pairwise_cons] at h
  unfold insS
  split
  ·rename_i hk
   rw [List.pairwise_cons, List.pairwise_cons]
   refine ⟨fun y hy => ?_, h.1, h.2⟩
   rcases List.mem_cons.1 hy with e | e
   ·subst e; exact Or.inl hk
   ·exact ltK_trans (Or.inl hk) (h.1 y e)
  ·rename_i hk
   rw [List.pairwise_cons]
   refine ⟨fun y hy => ?_, insS_sorted h.2 (fun y hy => hl y (List.mem_cons_of_mem _ hy))⟩
   rcases List.mem_cons.1 ((insS_perm ks i l).mem_iff.1 hy) with e | e
   ·subst e
    have := hl x (by simp)
    unfold ltK; omega
   ·exact h.1 y e
theorem sortS_sorted (ks : Nat → Int) : ∀ n, (sortS ks n).Pairwise (ltK ks)
 | 0 => List.Pairwise.nil
 | n + 1 => insS_sorted (sortS_sorted ks n) (fun x hx => sortS_mem.1 hx)
structure RkA (n : Nat) (ks : Nat → Int) (R : AR) (A : NS) (q j : Nat) : Prop where
 ok : R.Ok
 okA : A.Ok
 lA : A.cs.length = n
 lR : R.sl.length = n
 link : ∀ x : Nat, R.v x = inN A (x : Int)
 has : hasN A 1 = true
 next : R.next = j
 wait : R.wait = []
 qj : q = j
 jn : j ≤ n
 put : ∀ x, x < j → R.v x = true ∧ R.g x = 1 ∧ A.c x = ⟨1, ks x, (x : Int) + 1⟩
theorem RkA.step {n : Nat} {ks : Nat → Int} {R : AR} {A : NS} {q j : Nat} (h : RkA n ks R A q j) (hj : j < n) (hk : -9223372036854775808 ≤ ks j ∧ ks j ≤ 9223372036854775807) : ∃ R', takeR R = some (j, R') ∧ R.g j = 0 ∧ RkA n ks R' (putN A 1 (j : Int) (ks j) ((q : Int) + 1)) (q + 1) (j + 1) := by
 have hfr := h.ok.fresh j (by rw [h.next]; exact Nat.le_refl _)
 have hpk : pickR R = some (j, { R with next := j + 1 }) := by
  unfold pickR
  rw [h.wait]
  simp only [List.getLast?_nil]
  rw [if_neg (by rw [h.lR, h.next]; omega), h.next]
 obtain ⟨R', hR⟩ : ∃ R', R' = AR.put { R with next := j + 1 } j (R.g j + 1, true) := ⟨_, rfl⟩
 have htk : takeR R = some (j, R') := by unfold takeR; rw [hpk, hR]; rfl
 obtain ⟨t1, t2, t3, t4, t5, t6, t7⟩ := take_ok h.ok htk
 have hR'n : R'.next = j + 1 := by rw [hR]; rfl
 have hR'w : R'.wait = [] := by rw [hR]; exact h.wait
 have hR'g : ∀ y, R'.g y = if y = j then 1 else R.g y := fun y => by
  have e : R'.g y = (R.put j (R.g j + 1, true)).g y := by
   show (R'.sl.getD y (0, false)).1 = ((R.sl.set j (R.g j + 1, true)).getD y (0, false)).1
   rw [t5]
  rw [e, AR.g_put]
  by_cases e2 : y = j
  ·rw [if_pos ⟨e2, t2⟩, if_pos e2, hfr.1]
  ·rw [if_neg (fun h => e2 h.1), if_neg e2]
 have hBp : putB A 1 (j : Int) = true := by
  rw [putB_iff]
  refine ⟨h.has, (slotN_iff _ _).2 ⟨by omega, by rw [h.lA]; omega⟩, ?_⟩
  rw [← h.link]; exact hfr.2
 have hpc : ∀ y, (putN A 1 (j : Int) (ks j) ((q : Int) + 1)).c y = if y = j then ⟨1, ks j, (q : Int) + 1⟩ else A.c y := fun y => by
  unfold putN
  rw [if_pos hBp, c_with]
  by_cases e2 : y = j
  ·rw [if_pos ⟨by omega, by rw [h.lA]; omega⟩, if_pos e2]
  ·rw [if_neg (fun h => e2 (by omega)), if_neg e2]
 have hN4 : n ≤ 65536 := by have := h.okA.c1; have := h.lA; omega
 refine ⟨R', htk, hfr.1, t1, putN_ok h.okA _ _ _ _ ⟨hk.1, hk.2, by omega, by have := h.qj; omega⟩, by rw [putN_len]; exact h.lA, by rw [t5]; simp [h.lR], fun y => by rw [take_v h.ok htk, put_in hBp, h.link], by unfold putN; rw [if_pos hBp]; exact h.has, hR'n, hR'w, by rw [h.qj], hj, fun y hy => ?_⟩
 rw [take_v h.ok htk, hR'g, hpc]
 by_cases e : y = j
 ·subst e
  rw [if_pos rfl, if_pos rfl]
  exact ⟨by simp, rfl, by rw [h.qj]⟩
 ·have := h.put y (by omega)
  rw [if_neg e, if_neg e]
  exact ⟨by rw [this.1]; rfl, this.2⟩
structure RkT (n : Nat) (ks : Nat → Int) (R : AR) (A : NS) (t : Nat) : Prop where
 ok : R.Ok
 okA : A.Ok
 lA : A.cs.length = n
 lR : R.sl.length = n
 link : ∀ x : Nat, R.v x = inN A (x : Int)
 has : hasN A 1 = true
 lv : ∀ x, R.v x = true ↔ x ∈ (sortS ks n).drop t
 cl : ∀ x, x ∈ (sortS ks n).drop t → R.g x = 1 ∧ A.c x = ⟨1, ks x, (x : Int) + 1⟩
theorem RkA.all {n : Nat} {ks : Nat → Int} {R : AR} {A : NS} {q : Nat} (h : RkA n ks R A q n) : RkT n ks R A 0 := by
 refine ⟨h.ok, h.okA, h.lA, h.lR, h.link, h.has, fun x => ?_, fun x hx => ?_⟩
 ·rw [List.drop_zero, sortS_mem]
  constructor
  ·intro hv
   have := AR.v_lt hv
   rw [h.lR] at this; exact this
  ·exact fun hx => (h.put x hx).1
 ·rw [List.drop_zero, sortS_mem] at hx
  exact (h.put x hx).2
theorem RkT.step {n : Nat} {ks : Nat → Int} {R : AR} {A : NS} {t : Nat} (h : RkT n ks R A t) (ht : t < n) : ∃ x : Nat, (sortS ks n)[t]? = some x ∧ x < n ∧ minN A 1 = some x ∧ R.g x = 1 ∧ (A.c x).k = ks x ∧ RkT n ks (giveR R x) (dropN A (x : Int)) (t + 1) := by
 have hl : t < (sortS ks n).length := by rw [sortS_len]; exact ht
 obtain ⟨x, hx⟩ : ∃ x, (sortS ks n)[t] = x := ⟨_, rfl⟩
 have hd : (sortS ks n).drop t = x :: (sortS ks n).drop (t + 1) := by rw [List.drop_eq_getElem_cons hl, hx]
 have hs := (sortS_sorted ks n).sublist (List.drop_sublist t _)
 have hn := (sortS_nodup ks n).sublist (List.drop_sublist t _)
 rw [hd, List.pairwise_cons] at hs
 rw [hd, List.nodup_cons] at hn
 have hxm : x ∈ (sortS ks n).drop t := by rw [hd]; simp
 have hxn : x < n := sortS_mem.1 (List.mem_of_mem_drop hxm)
 have hv : R.v x = true := (h.lv x).2 hxm
 have hin : inN A (x : Int) = true := by rw [← h.link]; exact hv
 have hc := h.cl x hxm
 have hmin : minN A 1 = some x := by
  refine (minN_some (by omega)).2 ⟨((inN_nat _ _).1 hin).1, by rw [hc.2], fun y hy hyi => ?_⟩
  have hyv : R.v y = true := by
   rw [h.link]; exact (inN_nat _ _).2 ⟨hy, by rw [hyi]; omega⟩
  have hym := (h.lv y).1 hyv
  have hcy := h.cl y hym
  rw [hd] at hym
  rcases List.mem_cons.1 hym with e | e
  ·exact Or.inl e
  ·have := hs.1 y e
   refine Or.inr ?_
   unfold lt3
   rw [hc.2, hcy.2]
   unfold ltK at this
   simp only
   omega
 have eg : ∀ y, (giveR R x).g y = R.g y := fun y => by
  show (R.put x (R.g x, false)).g y = _
  rw [AR.g_put]
  split
  ·rename_i e; rw [e.1]
  ·rfl
 refine ⟨x, by rw [List.getElem?_eq_getElem hl, hx], hxn, hmin, hc.1, by rw [hc.2], (give_ok h.ok hv).1, dropN_ok h.okA _, by rw [drop_len]; exact h.lA, by rw [giveR_len]; exact h.lR, fun y => by rw [give_v hv, drop_in hin, h.link], by rw [show hasN (dropN A (x : Int)) 1 = hasN A 1 from by unfold hasN; rw [drop_hs]]; exact h.has, fun y => ?_, fun y hy => ?_⟩
 ·rw [give_v hv]
  simp only [Bool.and_eq_true, Bool.not_eq_true', decide_eq_false_iff_not]
  rw [h.lv, hd, List.mem_cons]
  constructor
  ·rintro ⟨h1 | h1, h2⟩
   ·exact absurd h1 h2
   ·exact h1
  ·exact fun h1 => ⟨Or.inr h1, fun e => hn.1 (by rw [← e]; exact h1)⟩
 ·have hym : y ∈ (sortS ks n).drop t := by rw [hd]; exact List.mem_cons_of_mem _ hy
  have hne : y ≠ x := fun e => hn.1 (by rw [← e]; exact hy)
  have hcy := h.cl y hym
  have hdc := drop_c hin y
  rw [if_neg hne] at hdc
  exact ⟨by rw [eg]; exact hcy.1, by rw [hdc]; exact hcy.2⟩
theorem rka_zero {n : Nat} (ks : Nat → Int) (hn : n ≤ 65536) : RkA n ks (AR.new n 4294967295) (mkN (NS.new n) 1) 0 0 := by
 have hm : mkN (NS.new n) 1 = makeN (NS.new n) := rfl
 rw [hm]
 refine ⟨AR.new_ok hn (by omega), makeN_ok (NS.new_ok n hn), by rw [makeN_len]; simp [NS.new], by simp [AR.new], fun x => by rw [makeN_in, new_v, new_in], ?_, rfl, rfl, rfl, Nat.zero_le _, fun x hx => by omega⟩
 unfold makeN NS.new hasN; simp
end Go.Proofs.YtklibcncmbofpaaGreat
namespace Go.Proofs.YtklibcncmbofpaaGreat
theorem filter_one {p q : Nat → Bool} {x : Nat} (hp : p x = false) (hq : q x = true) : ∀ {l : List Nat}, l.Nodup → (∀ y, y ∈ l → y ≠ x → q y = p y) → x ∈ l → (l.filter q).Perm (x :: l.filter p)
 | [], _, _, h => by cases h
 | a :: l, hn, he, hx => by
  rw [List.nodup_cons] at hn
  by_cases e : a = x
  ·subst e
   rw [List.filter_cons_of_pos (by simpa using hq), List.filter_cons_of_neg (by simp [hp])]
   rw [show l.filter q = l.filter p from List.filter_congr (fun y hy => he y (List.mem_cons_of_mem _ hy) (fun e => hn.1 (by rw [← e]; exact hy)))]
  ·have hx' : x ∈ l := (List.mem_cons.1 hx).resolve_left (fun h => e h.symm)
   have ih := filter_one hp hq hn.2 (fun y hy hne => he y (List.mem_cons_of_mem _ hy) hne) hx'
   have ha := he a (by simp) e
   cases hpa : p a with
   | true =>
    rw [List.filter_cons_of_pos (by rw [ha]; exact hpa), List.filter_cons_of_pos hpa]
    exact (ih.cons a).trans (List.Perm.swap x a _)
   | false =>
    rw [List.filter_cons_of_neg (by rw [ha, hpa]; simp), List.filter_cons_of_neg (by rw [hpa]; simp)]
    exact ih
def slotsN (A : NS) (h : Int) : List Nat := (List.range A.cs.length).filter (fun x => decide ((A.c x).i = h))
def keysN (A : NS) (h : Int) : List Int := (slotsN A h).map (fun x => (A.c x).k)
theorem slotsN_mem {A : NS} {h : Int} {x : Nat} : x ∈ slotsN A h ↔ x < A.cs.length ∧ (A.c x).i = h := by unfold slotsN; simp
theorem keysN_min {A : NS} {h : Int} (hh : 0 < h) {m : Nat} (hm : minN A h = some m) : (A.c m).k ∈ keysN A h ∧ ∀ y, y ∈ keysN A h → (A.c m).k ≤ y := by
 have hf := (minN_some hh).1 hm
 refine ⟨List.mem_map.2 ⟨m, slotsN_mem.2 ⟨hf.1, hf.2.1⟩, rfl⟩, fun y hy => ?_⟩
 obtain ⟨x, hx, rfl⟩ := List.mem_map.1 hy
 have h2 := slotsN_mem.1 hx
 rcases hf.2.2 x h2.1 h2.2 with e | e
 ·rw [e]; exact Int.le_refl _
 ·unfold lt3 at e; omega
theorem keysN_put {A : NS} {h x : Nat} {k s : Int} (hB : putB A h x = true) (ok : A.Ok) : (keysN (putN A h x k s) h).Perm (k :: keysN A h) ∧ ∀ g : Int, 0 < g → g ≠ h → keysN (putN A h x k s) g = keysN A g := by
 obtain ⟨b1, b2, b3⟩ := (putB_iff _ _ _).1 hB
 have b4 := (hasN_iff _ _).1 b1
 have hx : x < A.cs.length := by have := (slotN_iff _ _).1 b2; omega
 have h0 : (A.c x).i = 0 := by
  have := (ok.nat x hx).1
  have h3 : ¬ (0 < (A.c x).i) := fun h' => by rw [(inN_nat A x).2 ⟨hx, h'⟩] at b3; cases b3
  omega
 have hc : ∀ y, (putN A h x k s).c y = if y = x then ⟨h, k, s⟩ else A.c y := fun y => by
  unfold putN; rw [if_pos hB, Int.toNat_natCast, c_with]
  by_cases e : y = x
  ·rw [if_pos ⟨e, hx⟩, if_pos e]
  ·rw [if_neg (fun h => e h.1), if_neg e]
 have hl : (putN A h x k s).cs.length = A.cs.length := putN_len _ _ _ _ _
 constructor
 ·have h1 : (slotsN (putN A h x k s) h).Perm (x :: slotsN A h) := by
   unfold slotsN
   rw [hl]
   refine filter_one (by simp [h0]; omega) (by simp [hc]) List.nodup_range (fun y _ hy => by rw [hc, if_neg hy]) (by simpa using hx)
  have h2 := h1.map (fun y => ((putN A h x k s).c y).k)
  refine h2.trans ?_
  rw [List.map_cons, hc, if_pos rfl]
  refine List.Perm.cons k ?_
  unfold keysN
  rw [List.map_congr_left (fun y hy => by
   have := (slotsN_mem.1 hy).2
   show ((putN A h x k s).c y).k = (A.c y).k
   rw [hc, if_neg (fun e => by rw [e, h0] at this; omega)])]
 ·intro g hg hgh
  have h1 : slotsN (putN A h x k s) g = slotsN A g := by
   unfold slotsN
   rw [hl]
   refine List.filter_congr (fun y _ => ?_)
   rw [hc]
   by_cases e : y = x
   ·rw [if_pos e, e, h0]
    have e1 : ¬ (h : Int) = g := fun e => hgh e.symm
    have e2 : ¬ (0 : Int) = g := by omega
    simp [e1, e2]
   ·rw [if_neg e]
  unfold keysN
  rw [h1]
  exact List.map_congr_left (fun y hy => by
   have := (slotsN_mem.1 hy).2
   rw [hc, if_neg (fun e => by rw [e, h0] at this; omega)])
theorem keysN_drop {A : NS} {m : Nat} (hin : inN A (m : Int) = true) : (keysN A (A.c m).i).Perm ((A.c m).k :: keysN (dropN A (m : Int)) (A.c m).i) ∧ ∀ g : Int, 0 < g → g ≠ (A.c m).i → keysN (dropN A (m : Int)) g = keysN A g := by
 have hi := (inN_nat _ _).1 hin
 have hc := drop_c hin
 have hcm := hc m
 rw [if_pos rfl] at hcm
 have hne : ∀ y, y ≠ m → (dropN A (m : Int)).c y = A.c y := fun y e => by rw [hc, if_neg e]
 have h0 : ((dropN A (m : Int)).c m).i = 0 := by rw [hcm]; rfl
 have hl : (dropN A (m : Int)).cs.length = A.cs.length := drop_len _ _
 constructor
 ·have h1 : (slotsN A (A.c m).i).Perm (m :: slotsN (dropN A (m : Int)) (A.c m).i) := by
   unfold slotsN
   rw [hl]
   refine filter_one (by rw [h0]; simp; omega) (by simp) List.nodup_range (fun y _ hy => by rw [hne y hy]) (by simpa using hi.1)
  have h2 := h1.map (fun y => (A.c y).k)
  refine h2.trans ?_
  rw [List.map_cons]
  refine List.Perm.cons _ ?_
  unfold keysN
  rw [List.map_congr_left (fun y hy => by
   have := (slotsN_mem.1 hy).2
   show (A.c y).k = ((dropN A (m : Int)).c y).k
   rw [hne y (fun e => by rw [e, h0] at this; omega)])]
 ·intro g hg hgh
  have h1 : slotsN (dropN A (m : Int)) g = slotsN A g := by
   unfold slotsN
   rw [hl]
   refine List.filter_congr (fun y _ => ?_)
   by_cases e : y = m
   ·rw [e, h0]
    have e1 : ¬ (A.c m).i = g := fun e => hgh e.symm
    have e2 : ¬ (0 : Int) = g := by omega
    simp [e1, e2]
   ·rw [hne y e]
  unfold keysN
  rw [h1]
  exact List.map_congr_left (fun y hy => by
   have := (slotsN_mem.1 hy).2
   rw [hne y (fun e => by rw [e] at this; exact hgh this.symm)])
end Go.Proofs.YtklibcncmbofpaaGreat
namespace Go.Proofs.YtklibcncmbofpaaGreat
theorem eq_sorted {l m : List Int} (hl : l.Pairwise (· ≤ ·)) (hm : m.Pairwise (· ≤ ·)) (hp : l.Perm m) : l = m := by
 induction l generalizing m with
 | nil => exact (List.nil_perm.1 hp).symm
 | cons a l ih =>
  cases m with
  | nil => exact absurd hp.length_eq (by simp)
  | cons b m =>
   rw [List.pairwise_cons] at hl hm
   have h1 : b ≤ a := by
    rcases List.mem_cons.1 (hp.mem_iff.1 (show a ∈ a :: l by simp)) with e | e
    ·omega
    ·exact hm.1 a e
   have h2 : a ≤ b := by
    rcases List.mem_cons.1 (hp.mem_iff.2 (show b ∈ b :: m by simp)) with e | e
    ·omega
    ·exact hl.1 b e
   have e : a = b := by omega
   subst e
   rw [ih hl.2 hm.2 (List.Perm.cons_inv hp)]
theorem sort_ex (l : List Int) : ∃ m : List Int, m.Perm l ∧ m.Pairwise (· ≤ ·) := by
 refine ⟨l.mergeSort (fun a b => decide (a ≤ b)), List.mergeSort_perm _ _, ?_⟩
 have := List.pairwise_mergeSort (le := fun a b : Int => decide (a ≤ b)) (fun a b c h1 h2 => by simp at *; omega) (fun a b => by simp; omega) l
 exact this.imp (fun h => by simpa using h)
theorem med_place {S P Q : List Int} (hS : S.Pairwise (· ≤ ·)) (hp : S.Perm (P ++ Q)) (hPQ : ∀ a, a ∈ P → ∀ b, b ∈ Q → a ≤ b) {M : Int} (hM : M ∈ P) (hmax : ∀ a, a ∈ P → a ≤ M) : S[P.length - 1]? = some M := by
 obtain ⟨P', p1, p2⟩ := sort_ex P
 obtain ⟨Q', q1, q2⟩ := sort_ex Q
 have e : S = P' ++ Q' := eq_sorted hS (by
  rw [List.pairwise_append]
  exact ⟨p2, q2, fun a ha b hb => hPQ a (p1.mem_iff.1 ha) b (q1.mem_iff.1 hb)⟩) (hp.trans (p1.append q1).symm)
 have hl := p1.length_eq
 have hpos : 0 < P.length := List.length_pos_of_mem hM
 rw [e, List.getElem?_append_left (by omega)]
 have hlt : P.length - 1 < P'.length := by omega
 rw [List.getElem?_eq_getElem hlt]
 congr 1
 have h1 : P'[P.length - 1] ≤ M := hmax _ (p1.mem_iff.1 (List.getElem_mem hlt))
 obtain ⟨j, hj, hjM⟩ := List.getElem_of_mem (p1.mem_iff.2 hM)
 have h2 : P'[j] ≤ P'[P.length - 1] := by
  by_cases e : j = P.length - 1
  ·subst e; exact Int.le_refl _
  ·exact List.pairwise_iff_getElem.1 p2 j (P.length - 1) hj hlt (by omega)
 omega
theorem sortS_keys (kf : Nat → Int) (n : Nat) : ((sortS kf n).map kf).Pairwise (· ≤ ·) ∧ ((sortS kf n).map kf).Perm ((List.range n).map kf) := by
 refine ⟨?_, (sortS_perm kf n).map kf⟩
 rw [List.pairwise_map]
 exact (sortS_sorted kf n).imp (fun h => by unfold ltK at h; omega)
structure Halves (P Q K : List Int) (c : Nat) : Prop where
 perm : (P ++ Q).Perm K
 ord : ∀ a, a ∈ P → ∀ b, b ∈ Q → a ≤ b
 len : P.length = c
theorem Halves.push {P Q K P1 : List Int} {c : Nat} {k M : Int} (h : Halves P Q K c) (hp : (k :: P).Perm (M :: P1)) (hM : ∀ a, a ∈ k :: P → a ≤ M) : Halves P1 (M :: Q) (k :: K) c := by
 refine ⟨?_, fun a ha b hb => ?_, ?_⟩
 ·have h1 : (P1 ++ M :: Q).Perm (M :: P1 ++ Q) := List.perm_middle
  refine h1.trans ?_
  refine (hp.symm.append_right Q).trans ?_
  exact h.perm.cons k
 ·have ha' : a ∈ k :: P := hp.mem_iff.2 (List.mem_cons_of_mem _ ha)
  rcases List.mem_cons.1 hb with e | e
  ·rw [e]; exact hM a ha'
  ·rcases List.mem_cons.1 ha' with e2 | e2
   ·have hMm : M ∈ k :: P := hp.mem_iff.2 (by simp)
    rcases List.mem_cons.1 hMm with e3 | e3
    ·by_cases hkk : ∃ y, y ∈ P ∧ y = k
     ·obtain ⟨y, hy, e4⟩ := hkk
      rw [e2, ← e4]; exact h.ord y hy b e
     ·-- M = k, taken away: a = k would be one more k
      exfalso
      subst e3
      have := (List.perm_cons M).1 hp
      exact hkk ⟨a, this.mem_iff.2 ha, e2⟩
    ·have h5 := h.ord M e3 b e
     have h6 := hM a ha'
     omega
   ·exact h.ord a e2 b e
 ·have := hp.length_eq
  simp at this
  rw [← this]; exact h.len
theorem Halves.lift {P Q K Q1 : List Int} {c : Nat} {m : Int} (h : Halves P Q K c) (hp : Q.Perm (m :: Q1)) (hm : ∀ b, b ∈ Q → m ≤ b) : Halves (m :: P) Q1 K (c + 1) := by
 refine ⟨?_, fun a ha b hb => ?_, by simp [h.len]⟩
 ·have h1 : (P ++ m :: Q1).Perm (m :: P ++ Q1) := List.perm_middle
  exact h1.symm.trans ((hp.symm.append_left P).trans h.perm)
 ·have hbQ : b ∈ Q := hp.mem_iff.2 (List.mem_cons_of_mem _ hb)
  rcases List.mem_cons.1 ha with e | e
  ·rw [e]; exact hm b hbQ
  ·exact h.ord a e b hbQ
end Go.Proofs.YtklibcncmbofpaaGreat
namespace Go.Proofs.YtklibcncmbofpaaGreat
open Go Go.RowKit
theorem wpList_hput {w : World} {ops : Array Oper} {rest : List Oper} {o : Oper} {a : Act} {Q : Exit → Act → World → Prop} (hgd : o.guard = none) (m x v : Operand) (hop : o.op = Op.mapUpdate 82 m x v)
  (b c : Nat) (f : Int → Int → Option Int) (hm : a.eval m = .map (some b)) (h : MapH w b c f) (hc : c < 9223372036854775807) (k g z : Int) (hx : a.eval x = hV k g) (hv : a.eval v = .int .i64 z) (hk : -9223372036854775808 ≤ k ∧ k ≤ 9223372036854775807) (hg : 0 ≤ g ∧ g ≤ 4294967295) (hz : -9223372036854775808 ≤ z ∧ z ≤ 9223372036854775807)
  (hK : ∀ w', MapH w' b (c + 1) (fun y e => if y = k ∧ e = g then some z else f y e) → Upd [b] w w' → wpList Tryz.prog ops Q rest (a.put o.dst undef) w') : wpList Tryz.prog ops Q (o :: rest) a w :=
 wpList_plain hgd fun _ hK' => wp_hput m x v hop b c f hm h hc k g z hx hv hk hg hz fun w' h1 h2 => hK' _ _ (hK w' h1 h2)
def nzL (l : List Nat) : List Int := l.map (fun (x : Nat) => (x : Int))
theorem nzL_append (a b : List Nat) : nzL (a ++ b) = nzL a ++ nzL b := by unfold nzL; rw [List.map_append]
set_option maxHeartbeats 8000000 in
set_option maxRecDepth 10000 in
theorem least_yes {K : NestQ} (kd d : Int) (vk : Value) (ks : List Int) (k : Nat) (w : World) (hS : SlI w [] vk ks) (hb : ∀ x, x ∈ ks → -9223372036854775808 ≤ x ∧ x ≤ 9223372036854775807) (hc : chk kd d = 0) (hn : ks.length ≤ 65536) (hk : k ≤ ks.length) (ko : Opens K kd d ks.length) :
  Calls Tryz.prog 17 #[.agg #[.int .i64 kd, .int .i64 d], vk, .int .i64 (k : Int)] w fun e w' => ∃ ao co, e = .returned (.tuple #[.slice ao k co, .int .i64 0]) ∧ w'.ownsRow w.heap.size 3 1 (.slice ao k co) k (intsZ (nzL ((sortS (fun i => ks.getD i 0) ks.length).take k))) ∧ Upd [] w w' := by
 have kp : ∀ W : World, _ := fun W => rkopen_yes kd d ks.length 1 W hc hn (by omega) ko
 obtain ⟨a, cap, rfl, hcap1, hcap2, hcell⟩ := hS
 have hkb : ∀ j, j < ks.length → -9223372036854775808 ≤ ks.getD j 0 ∧ ks.getD j 0 ≤ 9223372036854775807 := fun j hj => by
  rw [List.getD_eq_getElem?_getD, List.getElem?_eq_getElem hj]
  exact hb _ (List.getElem_mem hj)
 have hrow : ∀ j, j < ks.length → ∃ g off, a = some ⟨g, off, none⟩ ∧ g < w.heap.size ∧ w.cell? ⟨g, off + j, none⟩ = some (.int .i64 (ks.getD j 0)) := fun j hj => by
  obtain ⟨g, off, h1, h2, _, h3⟩ := hcell j ks[j] (List.getElem?_eq_getElem hj)
  exact ⟨g, off, h1, h2, by rw [h3, List.getD_eq_getElem?_getD, List.getElem?_eq_getElem hj]; rfl⟩
 have HR := Lib.hid (And.intro hkb hrow)
 have hz := rka_zero (fun i => ks.getD i 0) hn
 clear hcell hb hkb hrow hc ko
 generalize hkf : (fun i => ks.getD i 0) = kf at *
 have HKF := Lib.hid hkf
 generalize hnn : ks.length = n at *
 have HZ := Lib.hid hz
 clear hz hkf hnn
 have hk0 : ¬ (k : Int) < 0 := by omega
 have hk1 : ¬ (k : Int) > (n : Int) := by omega
 have hkd0 : decide ((k : Int) < 0) = false := by first | (simp; done) | (simp; omega)
 have hkd1 : decide ((k : Int) > (n : Int)) = false := by simp; omega
 rw [show ((1 : Nat) : Int) = 1 from rfl] at kp
 have hkd2 : decide (n < k) = false := by simp; omega
 have hmm := @run_makeMap Tryz.prog
 go_enter Tryz.func17, Tryz.ntmps17
 go_wp2_with (first
  | ((go_at_call 39; (with_reducible refine (kp _).mono ?_)); rintro e w1 ⟨p, F, rfl, hP0, hu0, hF⟩)
  | fail)
 have hu1 : Upd [] w w1 := Upd.trans (by (repeat (first | assumption | exact Upd.refl _ _ | refine Upd.alloc ?_ _ | refine Upd.drew ?_ | refine Upd.drewN ?_ _ | refine Upd.setCell ?_ ?_ _ | focus (left; simp; done) | focus (right; simp; done) | focus (right; simp; omega)))) hu0
 have s1 := hu1.size
 have hPl := hP0.lt
 have hMp0 := MapH.made w1
 refine wp_nm (fun W => PqAt K W p F kd d (AR.new n 4294967295) (mkN (NS.new n) 1) 0 ∧ MapH W w1.heap.size 0 (fun _ _ => none) ∧ Upd [] w W) ⟨hP0.upd0 (by (repeat (first | assumption | exact Upd.refl _ _ | refine Upd.alloc ?_ _ | refine Upd.drew ?_ | refine Upd.drewN ?_ _ | refine Upd.setCell ?_ ?_ _ | focus (left; simp; done) | focus (right; simp; done) | focus (right; simp; omega)))), hMp0.upd (S := []) (by first | exact Upd.refl _ _ | (repeat (first | assumption | exact Upd.refl _ _ | refine Upd.alloc ?_ _ | refine Upd.drew ?_ | refine Upd.drewN ?_ _ | refine Upd.setCell ?_ ?_ _ | focus (left; simp; done) | focus (right; simp; done) | focus (right; simp; omega)))) (by simp), by (repeat (first | assumption | exact Upd.refl _ _ | refine Upd.alloc ?_ _ | refine Upd.drew ?_ | refine Upd.drewN ?_ _ | refine Upd.setCell ?_ ?_ _ | focus (left; simp; done) | focus (right; simp; done) | focus (right; simp; omega)))⟩ ?_
 rintro W ⟨hP, hMp, huW⟩
 have hb1 : w.heap.size ≤ w1.heap.size := by simpa using s1
 have HI := Lib.hid (And.intro hP (And.intro hMp (And.intro huW (And.intro hF hPl))))
 clear hP hMp huW hF hPl hu1 kp hmm s1 hP0 hMp0 hu0
 generalize w1.heap.size = b at *
 go_loopw [11, 12, 13, 14, 40] (fun v11 v12 v13 v14 v40 wr => ∃ (j : Nat) (F' : List Nat) (R : AR) (A : NS) (f : Int → Int → Option Int), j ≤ n ∧ v40 = .int .i64 (j : Int) ∧ PqAt K wr p F' kd d R A j ∧ RkA n kf R A j j ∧ MapH wr b j f ∧ (∀ x : Nat, x < j → f (x : Int) 1 = some (x : Int)) ∧ Upd [] w wr ∧ (∀ x, x ∈ F' → w.heap.size ≤ x) ∧ b ∉ F') (fun _ _ _ _ v40 _ => n - (intOf v40).toNat)
 case atStart =>
  obtain ⟨hP, hMp, huW, hF, hPl⟩ := HI.out
  exact ⟨0, F, _, _, _, Nat.zero_le _, rfl, hP, HZ.out, hMp, fun x hx => by omega, huW, fun x hx => by have := hF x hx; (try simp at this); omega, fun hm => by have := hPl b hm; omega⟩
 case round =>
  obtain ⟨j, F', R, A, f, hj, rfl, hP, hA, hM, hf, hu, hF, hbF⟩ := hrel
  rename World => wr
  by_cases hjn : j < n
  ·have hjI : decide ((j : Int) < (n : Int)) = true := by simp; omega
   have hjI2 : (j : Int) < (n : Int) := by omega
   obtain ⟨hkb, hrow⟩ := HR.out
   obtain ⟨g, off, rfl, hg, hc⟩ := hrow j hjn
   have hc1 := hu.was hc
   have ekj : ks.getD j 0 = kf j := by rw [← HKF.out]
   have hkj := hkb j hjn
   rw [ekj] at hc1 hkj
   obtain ⟨R', hT, hg0, hA'⟩ := hA.step hjn hkj
   have ki := pinsert_yes hP 1 (kf j) hA.has hkj (by omega) hT
   rw [hg0, show (((0 : Nat) : Int) + 1) = 1 from rfl] at ki
   have HN := Lib.hid (And.intro hA' (And.intro hM (And.intro hf (And.intro hu (And.intro hF hbF)))))
   have hbl := hM.lt
   clear hP hA hA' hM hf hu hF hbF hkb hrow hc ekj hT hg0
   generalize kf j = kj at *
   go_wp2_with (first
    | ((go_at_call 40; (with_reducible refine (ki).mono ?_)); rintro e w2 ⟨rfl, F2, hP2, hu2, hF2⟩; (have hM2 : MapH (w2.alloc (.cells #[.int .i64 (j : Int), .int .u32 1] 85)) b j f := (HN.out.2.1.upd hu2 HN.out.2.2.2.2.2).upd (S := []) (by (repeat (first | assumption | exact Upd.refl _ _ | refine Upd.alloc ?_ _ | refine Upd.drew ?_ | refine Upd.drewN ?_ _ | refine Upd.setCell ?_ ?_ _ | focus (left; simp; done) | focus (right; simp; done) | focus (right; simp; omega)))) (by simp)))
    | (at_mapUpdate; refine wpList_hput rfl _ _ _ rfl b j f rfl hM2 (by omega) (j : Int) 1 (j : Int) rfl rfl (by omega) (by omega) (by omega) ?_; intro w3 hm3 hu3)
    | fail)
   go_roundw
   case rel =>
    obtain ⟨hA', hM, hf, hu, hF, hbF⟩ := HN.out
    have hs := hu.size
    have hs2 := hu2.size
    have hPl2 := hP2.lt
    have hbF2 : b ∉ F2 := fun hm => by rcases hF2 b hm with h | h; exact hbF h; omega
    have hu2' : Upd [] w2 (w2.alloc (.cells #[.int .i64 (j : Int), .int .u32 1] 85)) := (Upd.refl _ _).alloc _
    refine ⟨j + 1, F2, _, _, _, by omega, by go_num, (hP2.upd0 hu2').upd hu3 (fun x hx => by simp at hx; rw [hx]; exact hbF2), hA', hm3, fun x hx => ?_, ((hu.joined hu2 (fun x hx => Or.inr (hF x hx))).trans hu2').joined hu3 (fun x hx => Or.inr (by simp at hx; omega)), fun x hx => by rcases hF2 x hx with h | h; exact hF x h; omega, hbF2⟩
    by_cases e : x = j
    ·subst e; rw [if_pos ⟨rfl, rfl⟩]
    ·rw [if_neg (fun h => e (by have := h.1; omega))]
     exact hf x (by omega)
   case measure => simp [intOf]; omega
  ·obtain rfl : j = n := by omega
   have hjI : decide ((j : Int) < (j : Int)) = false := by simp
   have hT := hA.all
   have HN := Lib.hid (And.intro hP (And.intro hT (And.intro hM (And.intro hf (And.intro hu (And.intro hF hbF))))))
   clear hP hA hT hM hf hu hF hbF
   go_wp2
   go_loopw [15, 16, 17, 18, 56] (fun v15 v16 v17 v18 v56 wr2 => ∃ (t : Nat) (F2 : List Nat) (R2 : AR) (A2 : NS) (ao : Option Addr) (co : Nat), t ≤ k ∧ v56 = .int .i64 (t : Int) ∧ v15 = .slice ao t co ∧ wr2.ownsRow w.heap.size 3 1 (.slice ao t co) t (intsZ (nzL ((sortS kf j).take t))) ∧ PqAt K wr2 p F2 kd d R2 A2 j ∧ RkT j kf R2 A2 t ∧ MapH wr2 b j f ∧ Upd [] w wr2 ∧ (∀ x, x ∈ F2 → w.heap.size ≤ x) ∧ b ∉ F2 ∧ (∀ g, (Value.slice ao t co).ownBlock = some g → g ∉ F2 ∧ g ≠ b)) (fun _ _ _ _ v56 _ => k - (intOf v56).toNat)
   case atStart =>
    obtain ⟨hP, hT, hM, hf, hu, hF, hbF⟩ := HN.out
    exact ⟨0, F', R, A, none, 0, Nat.zero_le _, rfl, rfl, ⟨rfl, Or.inl ⟨rfl, rfl⟩⟩, hP, hT, hM, hu, hF, hbF, fun g hg => by cases hg⟩
   case round =>
    obtain ⟨t, F2, R2, A2, ao, co, ht, rfl, rfl, ho, hP, hT, hM, hu, hF, hbF, hnb⟩ := hrel
    rename World => wr2
    by_cases htk : t < k
    ·have htI : decide ((t : Int) < (k : Int)) = true := by simp; omega
     obtain ⟨x, hx, hxn, hmin, hg1, hkx, hT2⟩ := hT.step (by omega)
     have ke := pext_some hP 1 hmin
     rw [hg1, hkx] at ke
     rw [show ((1 : Nat) : Int) = 1 from rfl] at ke
     have hfx := HN.out.2.2.2.1 x hxn
     have HQ := Lib.hid (And.intro hT2 (And.intro hu (And.intro hF (And.intro hbF (And.intro hnb (And.intro hx hfx))))))
     have HM := Lib.hid hM
     have hbl := hM.lt
     have hrl : ∀ g, (Value.slice ao t co).ownBlock = some g → g < wr2.heap.size := fun g hg => (ho.lt g hg).2
     have hbase : w.heap.size ≤ wr2.heap.size := hu.size
     have HRL := Lib.hid hrl
     clear hP hT hT2 hM hu hF hbF hnb hx hfx hmin hg1 hkx hrl
     generalize kf x = kx at *
     go_wp2_with (first
      | ((go_at_call 41; (with_reducible refine (ke).mono ?_)); rintro e w3 ⟨rfl, F3, hP3, hu3, hF3⟩; (have hM3 : MapH (w3.alloc (.cells #[.int .i64 (x : Int), .int .u32 1] 85)) b j f := (HM.out.upd hu3 HQ.out.2.2.2.1).upd (S := []) (by (repeat (first | assumption | exact Upd.refl _ _ | refine Upd.alloc ?_ _ | refine Upd.drew ?_ | refine Upd.drewN ?_ _ | refine Upd.setCell ?_ ?_ _ | focus (left; simp; done) | focus (right; simp; done) | focus (right; simp; omega)))) (by simp)); (have hlk : (Instr.lookup 82 (.map (some b)) (.agg #[.int .i64 (x : Int), .int .u32 1]) false).run Tryz.prog (w3.alloc (.cells #[.int .i64 (x : Int), .int .u32 1] 85)) = .ok (.int .i64 (x : Int)) (w3.alloc (.cells #[.int .i64 (x : Int), .int .u32 1] 85)) := hM3.look HQ.out.2.2.2.2.2.2 (by omega) (by omega)); (have hs3 := hu3.size); (have ho3 := owns_upd (owns_upd ho hu3 (fun g hg => (HQ.out.2.2.2.2.1 g hg).1)) (S := []) ((Upd.refl _ _).alloc (.cells #[.int .i64 (x : Int), .int .u32 1] 85)) (by simp)))
      | ((at_builtin; refine wpList_append_sep rfl _ _ 26 rfl w.heap.size 3 (.int .i64 0) 1 8 Tryz.underlying26 intInfo rfl (by decide) _ _ _ rfl (ho3) [.int .i64 (x : Int)] rfl (by simp [Value.oneCell']) (by first | rfl | (rw [World.size_alloc]; rfl)) (by unfold maxLen; omega) (by omega) ((by simp; omega)) ?_; intro v2 w4 ho4 hu4 hsep4); obtain ⟨a4, c4, rfl, hc4⟩ := own_slice ho4)
      | fail)
     go_roundw
     case rel =>
      obtain ⟨hT2, hu, hF, hbF, hnb, hx, hfx⟩ := HQ.out
      have hP4 := hP3.lt
      have hbF3 : b ∉ F3 := fun hm => by rcases hF3 b hm with h | h; exact hbF h; omega
      have hoF3 : ∀ g, (Value.slice ao t co).ownBlock = some g → g ∉ F3 := fun g hg hm => by
       rcases hF3 g hm with h | h
       ·exact (hnb g hg).1 h
       ·have := HRL.out g hg; omega
      have hal : Upd [] w3 (w3.alloc (.cells #[.int .i64 (x : Int), .int .u32 1] 85)) := (Upd.refl _ _).alloc _
      have hwa : Upd [] w (w3.alloc (.cells #[.int .i64 (x : Int), .int .u32 1] 85)) := (hu.joined hu3 (fun z hz => Or.inr (hF z hz))).trans hal
      have hlx : (sortS kf j).take (t + 1) = (sortS kf j).take t ++ [x] := by rw [List.take_add_one, hx]; rfl
      refine ⟨t + 1, F3, _, _, a4, c4, by omega, by go_num, rfl, by rw [hlx, nzL_append, intsZ_append]; exact ho4, (hP3.upd0 hal).upd hu4 (fun z hz => hoF3 z (Option.mem_toList.1 hz)), hT2, hM3.upd hu4 (fun hm => (hnb b (Option.mem_toList.1 hm)).2 rfl), hwa.own ho3 (Nat.le_refl _) hu4, fun z hz => by rcases hF3 z hz with h | h; exact hF z h; omega, hbF3, fun g hg => ?_⟩
      rcases hsep4 with h | h
      ·rw [h] at hg
       exact ⟨hoF3 g hg, (hnb g hg).2⟩
      ·have h9 := h g hg
       simp at h9
       exact ⟨fun hm => by have := hP4 g hm; omega, fun e => by omega⟩
     case measure => simp [intOf]; omega
    ·obtain rfl : t = k := by omega
     have htI : decide ((t : Int) < (t : Int)) = false := by simp
     have HQ := Lib.hid (And.intro ho hu)
     clear ho hP hT hM hu hF hbF hnb
     go_wp2
     go_ret2
     exact ⟨ao, co, rfl, HQ.out.1, HQ.out.2⟩
end Go.Proofs.YtklibcncmbofpaaGreat
namespace Go.Proofs.YtklibcncmbofpaaGreat
open Go Go.RowKit
def medV (kf : Nat → Int) (i : Nat) : Int := kf ((sortS kf (i + 1)).getD (i / 2) 0)
def medL (kf : Nat → Int) (n : Nat) : List Int := (List.range n).map (medV kf)
theorem medL_succ (kf : Nat → Int) (n : Nat) : medL kf (n + 1) = medL kf n ++ [medV kf n] := by unfold medL; rw [List.range_succ, List.map_append]; rfl
theorem i64Info : (Tryz.prog.info? 2).map (fun i => (i.zero, i.size, i.bytes)) = some (some (.int .i64 0), 1, 8) := by kernel_rfl
end Go.Proofs.YtklibcncmbofpaaGreat
namespace Go.Proofs.YtklibcncmbofpaaGreat
open Go Go.RowKit
def tn (x : Int) : Int := -1 - x
theorem tn_tn (x : Int) : tn (tn x) = x := by unfold tn; omega
theorem Halves.congr {P Q K P' Q' K' : List Int} {c : Nat} (h : Halves P Q K c) (hp : P'.Perm P) (hq : Q'.Perm Q) (hk : K'.Perm K) : Halves P' Q' K' c :=
 ⟨((hp.append hq).trans h.perm).trans hk.symm, fun a ha b hb => h.ord a (hp.mem_iff.1 ha) b (hq.mem_iff.1 hb), hp.length_eq.trans h.len⟩
theorem cntL_all : ∀ (l : List (Nat × Bool)), (∀ x, x < l.length → (l.getD x (0, false)).2 = true) → cntL l = l.length
 | [], _ => rfl
 | q :: r, h => by
  rw [cntL_cons, cntL_all r (fun x hx => by have := h (x + 1) (by simpa using hx); rwa [List.getD_cons_succ] at this)]
  have := h 0 (by simp)
  rw [List.getD_cons_zero] at this
  rw [if_pos this]; rfl
structure MdS (n : Nat) (R : AR) (A : NS) (q j : Nat) : Prop where
 ok : R.Ok
 okA : A.Ok
 lA : A.cs.length = n
 lR : R.sl.length = n
 link : ∀ x : Nat, R.v x = inN A (x : Int)
 h1 : hasN A 1 = true
 h2 : hasN A 2 = true
 ms : R.most = 4294967295
 gn : ∀ x, R.g x ≤ q
 fl : ∀ x, x < R.next → R.v x = true ∨ x ∈ R.wait
 ct : R.cnt = j
section
variable {n : Nat} {R : AR} {A : NS} {q j : Nat}
theorem MdS.room (h : MdS n R A q j) (hj : j < n) : ∃ x R', takeR R = some (x, R') := by
 unfold takeR
 cases hp : pickR R with
 | some p => exact ⟨_, _, rfl⟩
 | none =>
  exfalso
  unfold pickR at hp
  cases hw : R.wait.getLast? with
  | some y => rw [hw] at hp; cases hp
  | none =>
   rw [hw] at hp
   have hw0 : R.wait = [] := List.getLast?_eq_none_iff.1 hw
   dsimp only at hp
   split at hp
   ·rename_i hn
    have hc : R.cnt = R.sl.length := cntL_all _ (fun x hx => by
     rcases h.fl x (by omega) with h1 | h1
     ·exact h1
     ·rw [hw0] at h1; cases h1)
    have := h.ct
    have := h.lR
    omega
   ·cases hp
theorem take_more {R' : AR} {x : Nat} (ok : R.Ok) (hT : takeR R = some (x, R')) (fl : ∀ x, x < R.next → R.v x = true ∨ x ∈ R.wait) : ∀ y, y < R'.next → R'.v y = true ∨ y ∈ R'.wait := by
 intro y hy
 rw [take_v ok hT]
 unfold takeR at hT
 unfold pickR at hT
 cases hw : R.wait.getLast? with
 | some z =>
  rw [hw] at hT
  simp only [Option.map_some, Option.some.injEq, Prod.mk.injEq] at hT
  obtain ⟨rfl, rfl⟩ := hT
  have happ : R.wait = R.wait.dropLast ++ [z] := by
   obtain ⟨l, hl'⟩ := List.getLast?_eq_some_iff.1 hw
   rw [hl']; simp
  rcases fl y hy with h1 | h1
  ·exact Or.inl (by rw [h1]; rfl)
  ·rw [happ, List.mem_append] at h1
   rcases h1 with h1 | h1
   ·exact Or.inr h1
   ·simp at h1
    exact Or.inl (by simp [h1])
 | none =>
  rw [hw] at hT
  dsimp only at hT
  split at hT
  ·cases hT
  ·simp only [Option.map_some, Option.some.injEq, Prod.mk.injEq] at hT
   obtain ⟨rfl, rfl⟩ := hT
   have hy' : y < R.next + 1 := hy
   by_cases e : y = R.next
   ·exact Or.inl (by simp [e])
   ·rcases fl y (by omega) with h1 | h1
    ·exact Or.inl (by rw [h1]; rfl)
    ·exact Or.inr h1
theorem MdS.put (h : MdS n R A q j) (hq : q + 1 ≤ 4294967295) {g : Nat} (hg : hasN A (g : Int) = true) {k : Int} (hk : -9223372036854775808 ≤ k ∧ k ≤ 9223372036854775807) {x : Nat} {R' : AR} (hT : takeR R = some (x, R')) :
  putB A (g : Int) (x : Int) = true ∧ MdS n R' (putN A (g : Int) (x : Int) k ((q : Int) + 1)) (q + 1) (j + 1) := by
 obtain ⟨t1, t2, t3, t4, t5, t6, t7⟩ := take_ok h.ok hT
 have hBp : putB A (g : Int) (x : Int) = true := by
  rw [putB_iff]
  refine ⟨hg, (slotN_iff _ _).2 ⟨by omega, by rw [h.lA]; have := h.lR; omega⟩, ?_⟩
  rw [← h.link]; exact t3
 have hh : ∀ i, hasN (putN A (g : Int) (x : Int) k ((q : Int) + 1)) i = hasN A i := fun i => by unfold putN; rw [if_pos hBp]; rfl
 refine ⟨hBp, t1, putN_ok h.okA _ _ _ _ ⟨hk.1, hk.2, by omega, by omega⟩, by rw [putN_len]; exact h.lA, by rw [t5]; simp [h.lR], fun y => by rw [take_v h.ok hT, put_in hBp, h.link], by rw [hh]; exact h.h1, by rw [hh]; exact h.h2, t6.trans h.ms, fun y => ?_, take_more h.ok hT h.fl, by rw [t7, h.ct]⟩
 have e : R'.g y = (R.put x (R.g x + 1, true)).g y := by
  show (R'.sl.getD y (0, false)).1 = ((R.sl.set x (R.g x + 1, true)).getD y (0, false)).1
  rw [t5]
 rw [e, AR.g_put]
 have h1 := h.gn x
 have h2 := h.gn y
 split
 ·show R.g x + 1 ≤ q + 1; omega
 ·omega
theorem MdS.give (h : MdS n R A q (j + 1)) (hq : q < 4294967295) {g : Int} (hg : 0 < g) {m : Nat} (hm : minN A g = some m) : R.v m = true ∧ inN A (m : Int) = true ∧ (A.c m).i = g ∧ MdS n (giveR R m) (dropN A (m : Int)) q j := by
 have hf := (minN_some hg).1 hm
 have hin : inN A (m : Int) = true := (inN_nat _ _).2 ⟨hf.1, by rw [hf.2.1]; exact hg⟩
 have hv : R.v m = true := by rw [h.link]; exact hin
 have hgo := give_ok h.ok hv
 have eg : ∀ z, (giveR R m).g z = R.g z := fun z => by
  show (R.put m (R.g m, false)).g z = _
  rw [AR.g_put]
  split
  ·rename_i e; rw [e.1]
  ·rfl
 refine ⟨hv, hin, hf.2.1, hgo.1, dropN_ok h.okA _, by rw [drop_len]; exact h.lA, by rw [giveR_len]; exact h.lR, fun y => by rw [give_v hv, drop_in hin, h.link], by unfold hasN; rw [drop_hs]; exact h.h1, by unfold hasN; rw [drop_hs]; exact h.h2, h.ms, fun y => by rw [eg]; exact h.gn y, fun y hy => ?_, by have := hgo.2; have := h.ct; omega⟩
 rw [give_v hv]
 have hw : (giveR R m).wait = R.wait ++ [m] := by
  show (if R.g m < R.most then R.wait ++ [m] else R.wait) = _
  rw [if_pos (by have := h.gn m; rw [h.ms]; omega)]
 rw [hw]
 by_cases e : y = m
 ·subst e; exact Or.inr (by simp)
 ·rcases h.fl y hy with h1 | h1
  ·exact Or.inl (by rw [h1]; simp [e])
  ·exact Or.inr (by simp [h1])
theorem keysN_some {A : NS} {g : Int} (hg : 0 < g) (h : keysN A g ≠ []) : ∃ m, minN A g = some m := by
 cases hm : minN A g with
 | some m => exact ⟨m, rfl⟩
 | none =>
  exfalso
  apply h
  have h0 := (minN_none hg).1 hm
  unfold keysN
  cases hs : slotsN A g with
  | nil => rfl
  | cons x l =>
   have hx := slotsN_mem.1 (show x ∈ slotsN A g by rw [hs]; simp)
   have := lenN_pos.2 ⟨x, hx.1, hx.2, hg⟩
   omega
def MdH (A : NS) (K : List Int) (c : Nat) : Prop := Halves ((keysN A 1).map tn) (keysN A 2) K c
theorem MdH.push {K : List Int} {c : Nat} (h : MdH A K c) (okA : A.Ok) {k s : Int} {x : Nat} (hB : putB A 1 (x : Int) = true) {A1 A2 A3 : NS} (e1 : A1 = putN A 1 (x : Int) (tn k) s) {m : Nat} (hm : minN A1 1 = some m) (hin : inN A1 (m : Int) = true) (e2 : A2 = dropN A1 (m : Int)) (okA2 : A2.Ok)
  {y : Nat} {s' : Int} (hB2 : putB A2 2 (y : Int) = true) (e3 : A3 = putN A2 2 (y : Int) (tn (A1.c m).k) s') : MdH A3 (k :: K) c := by
 have p1 := keysN_put (h := 1) (x := x) (k := tn k) (s := s) hB okA
 rw [show ((1 : Nat) : Int) = 1 from rfl, ← e1] at p1
 have hi := ((minN_some (by omega)).1 hm).2.1
 have p2 := keysN_drop hin
 rw [hi, ← e2] at p2
 have p3 := keysN_put (h := 2) (x := y) (k := tn (A1.c m).k) (s := s') hB2 okA2
 rw [show ((2 : Nat) : Int) = 2 from rfl, ← e3] at p3
 have hmin := keysN_min (by omega) hm
 have hp : (k :: (keysN A 1).map tn).Perm (tn (A1.c m).k :: (keysN A2 1).map tn) := by
  have a1 := (p1.1.symm.trans p2.1).map tn
  rw [List.map_cons, List.map_cons, tn_tn] at a1
  exact a1
 have hall : ∀ a, a ∈ k :: (keysN A 1).map tn → a ≤ tn (A1.c m).k := fun a ha => by
  have a2 := (p1.1.map tn)
  rw [List.map_cons, tn_tn] at a2
  obtain ⟨b, hb, rfl⟩ := List.mem_map.1 (a2.mem_iff.2 ha)
  have := hmin.2 b hb
  unfold tn; omega
 refine (Halves.push h hp hall).congr ?_ ?_ (List.Perm.refl _)
 ·rw [p3.2 1 (by omega) (by omega)]
 ·rw [← p1.2 2 (by omega) (by omega), ← p2.2 2 (by omega) (by omega)]; exact p3.1
theorem MdH.lift {K : List Int} {c : Nat} (h : MdH A K c) {m : Nat} (hm : minN A 2 = some m) (hin : inN A (m : Int) = true) {A1 A2 : NS} (e1 : A1 = dropN A (m : Int)) (okA1 : A1.Ok) {x : Nat} {s : Int} (hB : putB A1 1 (x : Int) = true) (e2 : A2 = putN A1 1 (x : Int) (tn (A.c m).k) s) : MdH A2 K (c + 1) := by
 have hi := ((minN_some (by omega)).1 hm).2.1
 have p1 := keysN_drop hin
 rw [hi, ← e1] at p1
 have p2 := keysN_put (h := 1) (x := x) (k := tn (A.c m).k) (s := s) hB okA1
 rw [show ((1 : Nat) : Int) = 1 from rfl, ← e2] at p2
 have hmin := keysN_min (by omega) hm
 refine (Halves.lift h p1.1 hmin.2).congr ?_ ?_ (List.Perm.refl _)
 ·have := p2.1.map tn
  rw [List.map_cons, tn_tn, p1.2 1 (by omega) (by omega)] at this
  exact this
 ·rw [p2.2 2 (by omega) (by omega)]
theorem MdH.mid {K : List Int} {kf : Nat → Int} (h : MdH A K (j / 2 + 1)) (hK : K.Perm ((List.range (j + 1)).map kf)) {m : Nat} (hm : minN A 1 = some m) : tn (A.c m).k = medV kf j := by
 have hmin := keysN_min (by omega) hm
 have hs := sortS_keys kf (j + 1)
 have := med_place (M := tn (A.c m).k) hs.1 (hs.2.trans (hK.symm.trans h.perm.symm)) h.ord (List.mem_map.2 ⟨_, hmin.1, rfl⟩) (fun a ha => by
  obtain ⟨b, hb, rfl⟩ := List.mem_map.1 ha
  have := hmin.2 b hb
  unfold tn; omega)
 rw [h.len, Nat.add_sub_cancel, List.getElem?_map] at this
 unfold medV
 rw [List.getD_eq_getElem?_getD]
 cases hx : (sortS kf (j + 1))[j / 2]? with
 | none => rw [hx] at this; cases this
 | some x => rw [hx] at this; simp only [Option.map_some, Option.some.injEq] at this; rw [← this]; rfl
structure MdI (n : Nat) (kf : Nat → Int) (R : AR) (A : NS) (q j : Nat) : Prop where
 s : MdS n R A q j
 h : ∃ K, MdH A K ((j + 1) / 2) ∧ K.Perm ((List.range j).map kf)
 qj : q ≤ 3 * j
theorem rng_perm {K : List Int} {kf : Nat → Int} {j : Nat} (h : K.Perm ((List.range j).map kf)) : (kf j :: K).Perm ((List.range (j + 1)).map kf) := by
 rw [List.range_succ, List.map_append]
 exact (h.cons (kf j)).trans (List.perm_append_comm (l₁ := [kf j]))
theorem tn_in {x : Int} (h : -9223372036854775808 ≤ x ∧ x ≤ 9223372036854775807) : -9223372036854775808 ≤ tn x ∧ tn x ≤ 9223372036854775807 := by unfold tn; omega
theorem MdS.some_of_put (h : MdS n R A q j) {g x : Nat} {k s : Int} (hg : 0 < g) (hB : putB A (g : Int) (x : Int) = true) : ∃ m, minN (putN A (g : Int) (x : Int) k s) (g : Int) = some m := by
 refine keysN_some (by omega) (fun e => ?_)
 have := (keysN_put (k := k) (s := s) hB h.okA).1.length_eq
 rw [e] at this; simp at this
theorem MdI.first {kf : Nat → Int} (h : MdI n kf R A q j) (hj : j < n) (hn : n ≤ 65536) (hk : -9223372036854775808 ≤ kf j ∧ kf j ≤ 9223372036854775807) :
  ∃ x R1 A1 m R2 A2 y R3 A3, hasN A 1 = true ∧ takeR R = some (x, R1) ∧ A1 = putN A 1 (x : Int) (tn (kf j)) ((q : Int) + 1) ∧ minN A1 1 = some m ∧ R2 = giveR R1 m ∧ A2 = dropN A1 (m : Int) ∧ hasN A2 2 = true ∧ takeR R2 = some (y, R3) ∧ A3 = putN A2 2 (y : Int) (tn (A1.c m).k) (((q + 1 : Nat) : Int) + 1) ∧
   (-9223372036854775808 ≤ (A1.c m).k ∧ (A1.c m).k ≤ 9223372036854775807) ∧ MdS n R3 A3 (q + 2) (j + 1) ∧ ∃ K, MdH A3 K ((j + 1) / 2) ∧ K.Perm ((List.range (j + 1)).map kf) := by
 obtain ⟨K, hH, hK⟩ := h.h
 have hq := h.qj
 obtain ⟨x, R1, hT⟩ := h.s.room hj
 have s1 := h.s.put (g := 1) (by omega) h.s.h1 (tn_in hk) hT
 obtain ⟨m, hm⟩ := h.s.some_of_put (g := 1) (k := tn (kf j)) (s := (q : Int) + 1) (by omega) s1.1
 rw [show ((1 : Nat) : Int) = 1 from rfl] at s1 hm
 obtain ⟨A1, e1⟩ : ∃ A1, A1 = putN A 1 (x : Int) (tn (kf j)) ((q : Int) + 1) := ⟨_, rfl⟩
 rw [← e1] at s1 hm
 have hkm := s1.2.okA.key m
 have s2 := s1.2.give (by omega) (by omega) hm
 obtain ⟨y, R3, hT2⟩ := s2.2.2.2.room hj
 have s3 := s2.2.2.2.put (g := 2) (by omega) s2.2.2.2.h2 (tn_in ⟨hkm.1, hkm.2.1⟩) hT2
 rw [show ((2 : Nat) : Int) = 2 from rfl] at s3
 exact ⟨x, R1, A1, m, giveR R1 m, dropN A1 (m : Int), y, R3, _, h.s.h1, hT, e1, hm, rfl, rfl, s2.2.2.2.h2, hT2, rfl, ⟨hkm.1, hkm.2.1⟩, s3.2, _, hH.push h.s.okA s1.1 e1 hm s2.2.1 rfl s2.2.2.2.okA s3.1 rfl, rng_perm hK⟩
theorem MdI.odd {kf : Nat → Int} {K : List Int} (s : MdS n R A q (j + 1)) (hq : q ≤ 3 * (j + 1)) (hH : MdH A K ((j + 1) / 2)) (hK : K.Perm ((List.range (j + 1)).map kf)) (ho : j % 2 = 1) : MdI n kf R A q (j + 1) ∧ ∃ m, minN A 1 = some m ∧ tn (A.c m).k = medV kf j := by
 have e1 : (j + 1) / 2 = j / 2 + 1 := by omega
 have e2 : (j + 1 + 1) / 2 = j / 2 + 1 := by omega
 rw [e1] at hH
 obtain ⟨m, hm⟩ := keysN_some (A := A) (g := 1) (by omega) (fun e => by
  have := hH.len
  rw [e] at this; simp at this)
 exact ⟨⟨s, ⟨K, by rw [e2]; exact hH, hK⟩, hq⟩, m, hm, hH.mid hK hm⟩
theorem MdI.even {kf : Nat → Int} {K : List Int} (s : MdS n R A q (j + 1)) (hj : j < n) (hq : q + 1 ≤ 3 * (j + 1)) (hn : n ≤ 65536) (hH : MdH A K ((j + 1) / 2)) (hK : K.Perm ((List.range (j + 1)).map kf)) (ho : j % 2 = 0) :
  ∃ m R1 A1 x R2 A2, minN A 2 = some m ∧ R1 = giveR R m ∧ A1 = dropN A (m : Int) ∧ hasN A1 1 = true ∧ takeR R1 = some (x, R2) ∧ A2 = putN A1 1 (x : Int) (tn (A.c m).k) ((q : Int) + 1) ∧ (-9223372036854775808 ≤ (A.c m).k ∧ (A.c m).k ≤ 9223372036854775807) ∧
   MdI n kf R2 A2 (q + 1) (j + 1) ∧ ∃ m', minN A2 1 = some m' ∧ tn (A2.c m').k = medV kf j := by
 have e1 : (j + 1) / 2 = j / 2 := by omega
 have e2 : (j + 1 + 1) / 2 = j / 2 + 1 := by omega
 rw [e1] at hH
 obtain ⟨m, hm⟩ := keysN_some (A := A) (g := 2) (by omega) (fun e => by
  have h1 := hH.len
  have h2 := (hH.perm.trans hK).length_eq
  rw [e] at h2; simp at h2 h1; omega)
 have hkm := s.okA.key m
 have s2 := s.give (by omega) (by omega) hm
 obtain ⟨x, R2, hT⟩ := s2.2.2.2.room hj
 have s3 := s2.2.2.2.put (g := 1) (by omega) s2.2.2.2.h1 (tn_in ⟨hkm.1, hkm.2.1⟩) hT
 rw [show ((1 : Nat) : Int) = 1 from rfl] at s3
 have hL := hH.lift (s := (q : Int) + 1) hm s2.2.1 rfl s2.2.2.2.okA s3.1 rfl
 obtain ⟨m', hm'⟩ := s2.2.2.2.some_of_put (g := 1) (k := tn (A.c m).k) (s := (q : Int) + 1) (by omega) s3.1
 exact ⟨m, giveR R m, dropN A (m : Int), x, R2, _, hm, rfl, rfl, s2.2.2.2.h1, hT, rfl, ⟨hkm.1, hkm.2.1⟩, ⟨s3.2, ⟨K, by rw [e2]; exact hL, hK⟩, hq⟩, m', hm', hL.mid hK hm'⟩
theorem mdi_zero (kf : Nat → Int) (hn : n ≤ 65536) : MdI n kf (AR.new n 4294967295) (mkN (NS.new n) 2) 0 0 := by
 have hm : mkN (NS.new n) 2 = makeN (makeN (NS.new n)) := rfl
 rw [hm]
 have hl : (makeN (makeN (NS.new n))).cs.length = n := by rw [makeN_len, makeN_len]; simp [NS.new]
 have hin : ∀ x : Nat, inN (makeN (makeN (NS.new n))) (x : Int) = false := fun x => by rw [makeN_in, makeN_in, new_in]
 have hk : ∀ g : Int, 0 < g → keysN (makeN (makeN (NS.new n))) g = [] := fun g hg => by
  unfold keysN
  cases hs : slotsN (makeN (makeN (NS.new n))) g with
  | nil => rfl
  | cons x l =>
   have hx := slotsN_mem.1 (show x ∈ slotsN (makeN (makeN (NS.new n))) g by rw [hs]; simp)
   have := hin x
   rw [(inN_nat _ _).2 ⟨hx.1, by rw [hx.2]; exact hg⟩] at this
   cases this
 have hg0 : ∀ x, (AR.new n 4294967295).g x = 0 := fun x => ((AR.new_ok hn (by omega)).fresh x (Nat.zero_le _)).1
 refine ⟨⟨AR.new_ok hn (by omega), makeN_ok (makeN_ok (NS.new_ok n hn)), hl, by simp [AR.new], fun x => by rw [new_v, hin], ?_, ?_, rfl, fun x => by rw [hg0]; exact Nat.le_refl _, fun x hx => absurd hx (Nat.not_lt_zero _), AR.new_cnt _ _⟩, ⟨[], ?_, List.Perm.refl _⟩, Nat.le_refl _⟩
 ·unfold makeN NS.new hasN; simp
 ·unfold makeN NS.new hasN; simp
 ·unfold MdH
  rw [hk 1 (by omega), hk 2 (by omega)]
  exact ⟨List.Perm.refl _, fun a ha => (by cases ha), rfl⟩
end
end Go.Proofs.YtklibcncmbofpaaGreat
namespace Go.Proofs.YtklibcncmbofpaaGreat
open Go Go.RowKit
theorem least_err (kd d : Int) (a : Option Addr) (n cap : Nat) (k : Int) (w : World) (hc : chk kd d ≠ 0) :
  Calls Tryz.prog 17 #[.agg #[.int .i64 kd, .int .i64 d], .slice a n cap, .int .i64 k] w fun e w' => e = .returned (.tuple #[.slice none 0 0, .int .i64 (chk kd d)]) ∧ Upd [] w w' := by
 have kp := fun W => rkopen_err kd d (n : Int) 1 W hc
 have hcb : (chk kd d != 0) = true := by simpa using hc
 generalize chk kd d = v at *
 go_enter Tryz.func17, Tryz.ntmps17
 go_wp2_with (first
  | ((go_at_call 39; (with_reducible refine (kp _).mono ?_)); rintro e w1 ⟨rfl, hu1⟩)
  | fail)
 go_ret2
 exact ⟨rfl, Upd.trans (by (repeat (first | assumption | exact Upd.refl _ _ | refine Upd.alloc ?_ _ | refine Upd.drew ?_ | refine Upd.drewN ?_ _ | refine Upd.setCell ?_ ?_ _ | focus (left; simp; done) | focus (right; simp; done) | focus (right; simp; omega)))) hu1⟩
theorem least_big (kd d : Int) (a : Option Addr) (n cap : Nat) (k : Int) (w : World) (hc : chk kd d = 0) (hn : 65536 < n) :
  Calls Tryz.prog 17 #[.agg #[.int .i64 kd, .int .i64 d], .slice a n cap, .int .i64 k] w fun e w' => e = .returned (.tuple #[.slice none 0 0, .int .i64 201]) ∧ Upd [] w w' := by
 have kp := fun W => rkopen_big kd d (n : Int) 1 W hc (by omega)
 clear hc
 go_enter Tryz.func17, Tryz.ntmps17
 go_wp2_with (first
  | ((go_at_call 39; (with_reducible refine (kp _).mono ?_)); rintro e w1 ⟨rfl, hu1⟩)
  | fail)
 go_ret2
 exact ⟨rfl, Upd.trans (by (repeat (first | assumption | exact Upd.refl _ _ | refine Upd.alloc ?_ _ | refine Upd.drew ?_ | refine Upd.drewN ?_ _ | refine Upd.setCell ?_ ?_ _ | focus (left; simp; done) | focus (right; simp; done) | focus (right; simp; omega)))) hu1⟩
theorem least_bad {K : NestQ} (kd d : Int) (a : Option Addr) (n cap : Nat) (k : Int) (w : World) (hc : chk kd d = 0) (hn : n ≤ 65536) (hk : k < 0 ∨ (n : Int) < k) (ko : Opens K kd d n) :
  Calls Tryz.prog 17 #[.agg #[.int .i64 kd, .int .i64 d], .slice a n cap, .int .i64 k] w fun e w' => e = .returned (.tuple #[.slice none 0 0, .int .i64 201]) ∧ Upd [] w w' := by
 have kp : ∀ W : World, _ := fun W => rkopen_yes kd d n 1 W hc hn (by omega) ko
 rw [show ((1 : Nat) : Int) = 1 from rfl] at kp
 clear hc ko
 rcases hk with hk | hk
 ·have hkd0 : decide (k < 0) = true := by simpa using hk
  go_enter Tryz.func17, Tryz.ntmps17
  go_wp2_with (first
   | ((go_at_call 39; (with_reducible refine (kp _).mono ?_)); rintro e w1 ⟨p, F, rfl, hP0, hu0, hF⟩)
   | fail)
  go_ret2
  exact ⟨rfl, Upd.trans (by (repeat (first | assumption | exact Upd.refl _ _ | refine Upd.alloc ?_ _ | refine Upd.drew ?_ | refine Upd.drewN ?_ _ | refine Upd.setCell ?_ ?_ _ | focus (left; simp; done) | focus (right; simp; done) | focus (right; simp; omega)))) hu0⟩
 ·have hkd0 : decide (k < 0) = false := by simp; omega
  have hkd1 : decide (k > (n : Int)) = true := by simp; omega
  go_enter Tryz.func17, Tryz.ntmps17
  go_wp2_with (first
   | ((go_at_call 39; (with_reducible refine (kp _).mono ?_)); rintro e w1 ⟨p, F, rfl, hP0, hu0, hF⟩)
   | fail)
  go_ret2
  exact ⟨rfl, Upd.trans (by (repeat (first | assumption | exact Upd.refl _ _ | refine Upd.alloc ?_ _ | refine Upd.drew ?_ | refine Upd.drewN ?_ _ | refine Upd.setCell ?_ ?_ _ | focus (left; simp; done) | focus (right; simp; done) | focus (right; simp; omega)))) hu0⟩
theorem rsort_err (kd d : Int) (a : Option Addr) (n cap : Nat) (w : World) (hc : chk kd d ≠ 0) :
  Calls Tryz.prog 16 #[.agg #[.int .i64 kd, .int .i64 d], .slice a n cap] w fun e w' => e = .returned (.tuple #[.slice none 0 0, .int .i64 (chk kd d)]) ∧ Upd [] w w' := by
 have kl := fun W => least_err kd d a n cap (n : Int) W hc
 generalize chk kd d = v at *
 go_enter Tryz.func16, Tryz.ntmps16
 go_wp2_with (first
  | ((go_at_call 17; (with_reducible refine (kl _).mono ?_)); rintro e w1 ⟨rfl, hu1⟩)
  | fail)
 go_ret2
 exact ⟨rfl, Upd.trans (by (repeat (first | assumption | exact Upd.refl _ _ | refine Upd.alloc ?_ _ | refine Upd.drew ?_ | refine Upd.drewN ?_ _ | refine Upd.setCell ?_ ?_ _ | focus (left; simp; done) | focus (right; simp; done) | focus (right; simp; omega)))) hu1⟩
theorem rsort_big (kd d : Int) (a : Option Addr) (n cap : Nat) (w : World) (hc : chk kd d = 0) (hn : 65536 < n) :
  Calls Tryz.prog 16 #[.agg #[.int .i64 kd, .int .i64 d], .slice a n cap] w fun e w' => e = .returned (.tuple #[.slice none 0 0, .int .i64 201]) ∧ Upd [] w w' := by
 have kl := fun W => least_big kd d a n cap (n : Int) W hc hn
 clear hc
 go_enter Tryz.func16, Tryz.ntmps16
 go_wp2_with (first
  | ((go_at_call 17; (with_reducible refine (kl _).mono ?_)); rintro e w1 ⟨rfl, hu1⟩)
  | fail)
 go_ret2
 exact ⟨rfl, Upd.trans (by (repeat (first | assumption | exact Upd.refl _ _ | refine Upd.alloc ?_ _ | refine Upd.drew ?_ | refine Upd.drewN ?_ _ | refine Upd.setCell ?_ ?_ _ | focus (left; simp; done) | focus (right; simp; done) | focus (right; simp; omega)))) hu1⟩
theorem rsort_yes {K : NestQ} (kd d : Int) (vk : Value) (ks : List Int) (w : World) (hS : SlI w [] vk ks) (hb : ∀ x, x ∈ ks → -9223372036854775808 ≤ x ∧ x ≤ 9223372036854775807) (hc : chk kd d = 0) (hn : ks.length ≤ 65536) (ko : Opens K kd d ks.length) :
  Calls Tryz.prog 16 #[.agg #[.int .i64 kd, .int .i64 d], vk] w fun e w' => ∃ ao co, e = .returned (.tuple #[.slice ao ks.length co, .int .i64 0]) ∧ w'.ownsRow w.heap.size 3 1 (.slice ao ks.length co) ks.length (intsZ (nzL (sortS (fun i => ks.getD i 0) ks.length))) ∧ Upd [] w w' := by
 have hS0 := hS
 obtain ⟨a, cap, rfl, hcap1, hcap2, hcell⟩ := hS
 have u0 : Upd [] w (w.alloc (.cells #[.int .i64 kd, .int .i64 d] 23)) := (Upd.refl _ _).alloc _
 have kl := fun W (hW : Upd [] w W) => least_yes kd d (.slice a ks.length cap) ks ks.length W (hS0.fresh hW (fun g hg => Or.inl hg)) hb hc hn (Nat.le_refl _) ko
 rw [List.take_of_length_le (by rw [sortS_len]; exact Nat.le_refl _)] at kl
 generalize sortS (fun i => ks.getD i 0) ks.length = L at *
 clear hS0 hb hc hn ko hcell
 generalize ks.length = n at *
 go_enter Tryz.func16, Tryz.ntmps16
 go_wp2_with (first
  | ((go_at_call 17; (with_reducible refine (kl _ (by (repeat (first | assumption | exact Upd.refl _ _ | refine Upd.alloc ?_ _ | refine Upd.drew ?_ | refine Upd.drewN ?_ _ | refine Upd.setCell ?_ ?_ _ | focus (left; simp; done) | focus (right; simp; done) | focus (right; simp; omega))))).mono ?_)); rintro e w1 ⟨ao, co, rfl, ho, hu1⟩)
  | fail)
 go_ret2
 exact ⟨ao, co, rfl, owns_mono ho (by simp), Upd.trans (by (repeat (first | assumption | exact Upd.refl _ _ | refine Upd.alloc ?_ _ | refine Upd.drew ?_ | refine Upd.drewN ?_ _ | refine Upd.setCell ?_ ?_ _ | focus (left; simp; done) | focus (right; simp; done) | focus (right; simp; omega)))) hu1⟩
end Go.Proofs.YtklibcncmbofpaaGreat
namespace Go.Proofs.YtklibcncmbofpaaGreat
open Go Go.RowKit
theorem xor_m1 (x : Int) (h : -9223372036854775808 ≤ x ∧ x ≤ 9223372036854775807) : bits BinOp.xor IntKind.i64 (-1) x = -1 - x := by
 unfold bits
 show IntKind.i64.wrap ((BitVec.ofInt 64 (-1) ^^^ BitVec.ofInt 64 x).toNat : Int) = _
 have h1 : BitVec.ofInt 64 (-1) = BitVec.allOnes 64 := by decide
 rw [h1, BitVec.allOnes_xor, BitVec.toNat_not, BitVec.toNat_ofInt]
 have h2 : (((2 ^ 64 - 1 - (x % ((2 ^ 64 : Nat) : Int)).toNat : Nat)) : Int) = 18446744073709551615 - x % 18446744073709551616 := by omega
 rw [h2]
 by_cases hx : 0 ≤ x
 ·rw [Int.emod_eq_of_lt hx (by omega)]
  unfold IntKind.wrap
  simp [IntKind.bits, IntKind.signed]
  omega
 ·have h3 : x % 18446744073709551616 = x + 18446744073709551616 := by omega
  rw [h3]
  unfold IntKind.wrap
  simp [IntKind.bits, IntKind.signed]
  omega
theorem turn_any (x : Int) (w : World) (h : -9223372036854775808 ≤ x ∧ x ≤ 9223372036854775807) :
  Calls Tryz.prog 42 #[.int .i64 x] w fun e w' => e = .returned (.int .i64 (-1 - x)) ∧ w' = w := by
 have HX := Lib.hid (xor_m1 x h)
 go_enter Tryz.func42, Tryz.ntmps42
 go_wp2
 go_ret
 refine ⟨?_, rfl⟩
 rw [HX.out]; rfl
theorem rmed_err (kd d : Int) (a : Option Addr) (n cap : Nat) (w : World) (hc : chk kd d ≠ 0) :
  Calls Tryz.prog 21 #[.agg #[.int .i64 kd, .int .i64 d], .slice a n cap] w fun e w' => e = .returned (.tuple #[.slice none 0 0, .int .i64 (chk kd d)]) ∧ Upd [] w w' := by
 have kp := fun W => rkopen_err kd d (n : Int) 2 W hc
 have hcb : (chk kd d != 0) = true := by simpa using hc
 generalize chk kd d = v at *
 go_enter Tryz.func21, Tryz.ntmps21
 go_wp2_with (first
  | ((go_at_call 39; (with_reducible refine (kp _).mono ?_)); rintro e w1 ⟨rfl, hu1⟩)
  | fail)
 go_ret2
 exact ⟨rfl, Upd.trans (by (repeat (first | assumption | exact Upd.refl _ _ | refine Upd.alloc ?_ _ | refine Upd.drew ?_ | refine Upd.drewN ?_ _ | refine Upd.setCell ?_ ?_ _ | focus (left; simp; done) | focus (right; simp; done) | focus (right; simp; omega)))) hu1⟩
end Go.Proofs.YtklibcncmbofpaaGreat
