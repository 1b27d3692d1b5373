/-
  Lemmas for PathWays: Cells, Cells2. Conditions: those of each lemma.
-/
import Derived.WalkKit
import Derived.WalkSpells
import Derived.WalkLawsBesides
import Derived.BigQuiet
import Derived.Deep.RegionHeld3
import Derived.ProofKit
import Derived.OpenShut
import Derived.Lib.Hide
import Derived.Test.YtklibcncmbofpaaGreatProg
import Derived.Maps.AppendAt
import Derived.StillTailTactics
import Derived.Maps.OwnSet
import Derived.Maps.OwnOps
import Derived.Maps.RangeWalk
import Derived.Test.YtklibcncmbofpaaGreatP01
import Derived.Test.YtklibcncmbofpaaGreatP03
import Derived.Test.YtklibcncmbofpaaGreatP04
import Derived.Test.YtklibcncmbofpaaGreatP05
set_option linter.unusedVariables false
set_option linter.unusedSimpArgs false
namespace Go.Proofs.YtklibcncmbofpaaGreat
open Go Go.RowKit
def clCell (raw : Nat → Cl) (j : Nat) : Value := if j % 3 = 0 then .int .i64 (raw (j / 3)).i else if j % 3 = 1 then .int .i64 (raw (j / 3)).k else .int .u64 (raw (j / 3)).s
theorem clCell0 (raw : Nat → Cl) (x : Nat) : clCell raw (x * 3) = .int .i64 (raw x).i := by unfold clCell; rw [if_pos (by omega), show x * 3 / 3 = x by omega]
theorem clCell1 (raw : Nat → Cl) (x : Nat) : clCell raw (x * 3 + 1) = .int .i64 (raw x).k := by unfold clCell; rw [if_neg (by omega), if_pos (by omega), show (x * 3 + 1) / 3 = x by omega]
theorem clCell2 (raw : Nat → Cl) (x : Nat) : clCell raw (x * 3 + 2) = .int .u64 (raw x).s := by unfold clCell; rw [if_neg (by omega), if_neg (by omega), show (x * 3 + 2) / 3 = x by omega]
def manyF (A : NS) (h : Int) : Option Int := if 0 < lenN A h then some (lenN A h : Int) else none
theorem manyF_get (A : NS) (h : Int) : (manyF A h).getD 0 = lenN A h := by unfold manyF; split; rfl; simp; omega
structure CM (w : World) (c ca nm mb g cap : Nat) (l : List Int) (rt dp : Nat → Nat) (raw : Nat → Cl) (A : NS) (st : Nat) : Prop where
 head : RowAt w c 245 4 (fun j => [Value.int .i64 (st : Int), .slice (some ⟨ca, 0, none⟩) A.cs.length A.cs.length, .pointer (some ⟨nm, 0, none⟩), .map (some mb)].getD j undef)
 row : RowAt w ca 281 (A.cs.length * 3) (clCell raw)
 nms : NmAt w nm g cap l
 many : MapI w mb (manyF A)
 nok : NmOk l rt dp
 ok : A.Ok
 st62 : st ≤ 4611686018427387904
 rel : ∀ x, x < A.cs.length → (raw x = Cl.z ∧ A.c x = Cl.z) ∨ (1 ≤ (raw x).i ∧ (raw x).i < l.length ∧ A.c x = ⟨rt (raw x).i.toNat, (raw x).k, (raw x).s⟩)
 hlen : A.hs.length = l.length
 has : ∀ i, 1 ≤ i → i < l.length → A.hs.getD i false = decide (l.getD i 0 = i)
 sep : (c ≠ ca ∧ c ≠ nm ∧ c ≠ mb ∧ c ≠ g) ∧ (ca ≠ nm ∧ ca ≠ mb ∧ ca ≠ g) ∧ (nm ≠ mb ∧ mb ≠ g)
theorem CM.upd {w w' : World} {S : List Nat} {c ca nm mb g cap : Nat} {l : List Int} {rt dp : Nat → Nat} {raw : Nat → Cl} {A : NS} {st : Nat} (h : CM w c ca nm mb g cap l rt dp raw A st) (hu : Upd S w w') (hS : ∀ x, x ∈ S → x ∉ [c, ca, nm, mb, g]) : CM w' c ca nm mb g cap l rt dp raw A st :=
 ⟨h.head.upd hu (fun m => hS _ m (by simp)), h.row.upd hu (fun m => hS _ m (by simp)), h.nms.upd hu (fun m => hS _ m (by simp)) (fun m => hS _ m (by simp)), h.many.upd hu (fun m => hS _ m (by simp)), h.nok, h.ok, h.st62, h.rel, h.hlen, h.has, h.sep⟩
def CellsAt (w : World) (c : Nat) (F : List Nat) (A : NS) (st : Nat) : Prop := ∃ ca nm mb g cap l rt dp raw, CM w c ca nm mb g cap l rt dp raw A st ∧ F = [c, ca, nm, mb, g]
theorem CellsAt.upd {w w' : World} {S F : List Nat} {c : Nat} {A : NS} {st : Nat} (h : CellsAt w c F A st) (hu : Upd S w w') (hS : ∀ x, x ∈ S → x ∉ F) : CellsAt w' c F A st := by
 obtain ⟨ca, nm, mb, g, cap, l, rt, dp, raw, h, rfl⟩ := h
 exact ⟨ca, nm, mb, g, cap, l, rt, dp, raw, h.upd hu hS, rfl⟩
theorem CellsAt.upd0 {w w' : World} {F : List Nat} {c : Nat} {A : NS} {st : Nat} (h : CellsAt w c F A st) (hu : Upd [] w w') : CellsAt w' c F A st := h.upd hu (by simp)
theorem CellsAt.ok {w : World} {F : List Nat} {c : Nat} {A : NS} {st : Nat} (h : CellsAt w c F A st) : A.Ok := by
 obtain ⟨ca, nm, mb, g, cap, l, rt, dp, raw, h, rfl⟩ := h
 exact h.ok
theorem CellsAt.st62 {w : World} {F : List Nat} {c : Nat} {A : NS} {st : Nat} (h : CellsAt w c F A st) : st ≤ 4611686018427387904 := by
 obtain ⟨ca, nm, mb, g, cap, l, rt, dp, raw, h, rfl⟩ := h
 exact h.st62
theorem CellsAt.lt {w : World} {F : List Nat} {c : Nat} {A : NS} {st : Nat} (h : CellsAt w c F A st) : ∀ x, x ∈ F → x < w.heap.size := by
 obtain ⟨ca, nm, mb, g, cap, l, rt, dp, raw, h, rfl⟩ := h
 intro x hx
 have := h.head.lt; have := h.row.lt; have := h.nms.lt; have := h.many.lt
 simp at hx
 omega
theorem CellsAt.mem {w : World} {F : List Nat} {c : Nat} {A : NS} {st : Nat} (h : CellsAt w c F A st) : c ∈ F := by
 obtain ⟨ca, nm, mb, g, cap, l, rt, dp, raw, h, rfl⟩ := h
 simp
def Goes (F : List Nat) (w w' : World) (P : List Nat → Prop) : Prop := ∃ F', P F' ∧ Upd F w w' ∧ ∀ x, x ∈ F' → x ∈ F ∨ w.heap.size ≤ x
theorem Goes.stay {F : List Nat} {w w' : World} {P : List Nat → Prop} (h : P F) (hu : Upd F w w') : Goes F w w' P := ⟨F, h, hu, fun x hx => Or.inl hx⟩
section
variable {w : World} {c ca nm mb g cap : Nat} {l : List Int} {rt dp : Nat → Nat} {raw : Nat → Cl} {A : NS} {st : Nat}
theorem CM.c0 (h : CM w c ca nm mb g cap l rt dp raw A st) : w.cell? ⟨c, 0, none⟩ = some (.int .i64 (st : Int)) := h.head.cellAt 0 (by omega) rfl
theorem CM.c1 (h : CM w c ca nm mb g cap l rt dp raw A st) : w.cell? ⟨c, 1, none⟩ = some (.slice (some ⟨ca, 0, none⟩) A.cs.length A.cs.length) := h.head.cellAt 1 (by omega) rfl
theorem CM.c2 (h : CM w c ca nm mb g cap l rt dp raw A st) : w.cell? ⟨c, 2, none⟩ = some (.pointer (some ⟨nm, 0, none⟩)) := h.head.cellAt 2 (by omega) rfl
theorem CM.c3 (h : CM w c ca nm mb g cap l rt dp raw A st) : w.cell? ⟨c, 3, none⟩ = some (.map (some mb)) := h.head.cellAt 3 (by omega) rfl
theorem CM.in_raw (h : CM w c ca nm mb g cap l rt dp raw A st) {x : Nat} (hx : x < A.cs.length) : decide (0 < (A.c x).i) = decide (0 < (raw x).i) := by
 rcases h.rel x hx with ⟨h1, h2⟩ | ⟨h1, h2, h3⟩
 ·rw [h1, h2]
 ·have := h.nok.rt_in (i := (raw x).i.toNat) (by omega) (by omega)
  rw [h3, decide_eq_decide]
  simp only
  omega
theorem CM.hasZ (h : CM w c ca nm mb g cap l rt dp raw A st) (x : Int) : hasZ l x = hasN A x := by
 unfold Go.Proofs.YtklibcncmbofpaaGreat.hasZ hasN
 rw [h.hlen]
 by_cases hx : 0 < x ∧ x < l.length
 ·rw [h.has x.toNat (by omega) (by omega), Bool.eq_iff_iff]
  simp only [Bool.and_eq_true, decide_eq_true_eq, beq_iff_eq]
  constructor
  ·rintro ⟨_, h2⟩; exact ⟨⟨by omega, by omega⟩, by omega⟩
  ·rintro ⟨_, h2⟩; exact ⟨⟨by omega, by omega⟩, by omega⟩
 ·have e1 : (decide (0 < x) && decide (x < (l.length : Int))) = false := by simp; omega
  have e2 : (decide (1 ≤ x) && decide (x < (l.length : Int))) = false := by simp; omega
  rw [e1, e2]; rfl
end
theorem chas_any {w : World} {c st : Nat} {F : List Nat} {A : NS} (h : CellsAt w c F A st) (x : Int) :
  Calls Tryz.prog 139 #[.pointer (some ⟨c, 0, none⟩), .int .i64 x] w fun e w' => e = .returned (.bool (hasN A x)) ∧ w' = w := by
 obtain ⟨ca, nm, mb, g, cap, l, rt, dp, raw, h, rfl⟩ := h
 have c2 := h.c2
 have k := nhas_any nm g cap l x w h.nms h.nok.len2
 rw [h.hasZ] at k
 clear h
 go_enter Tryz.func139, Tryz.ntmps139
 go_wp2_with ((go_at_call 152; (with_reducible refine (k).mono ?_); rintro e w9 ⟨rfl, hw9⟩; rw [hw9]; clear hw9 w9))
 go_ret
 exact ⟨rfl, rfl⟩
theorem cthere_any {w : World} {c st : Nat} {F : List Nat} {A : NS} (h : CellsAt w c F A st) (x : Int) :
  Calls Tryz.prog 160 #[.pointer (some ⟨c, 0, none⟩), .int .i64 x] w fun e w' => e = .returned (.bool (slotN A x)) ∧ w' = w := by
 obtain ⟨ca, nm, mb, g, cap, l, rt, dp, raw, h, rfl⟩ := h
 have c1 := h.c1
 have h1 := h.ok.c1
 clear h
 unfold slotN
 by_cases h0 : 0 ≤ x
 ·go_enter Tryz.func160, Tryz.ntmps160
  go_wp2
  go_ret
  exact ⟨ret_bool (by simp [h0]), rfl⟩
 ·go_enter Tryz.func160, Tryz.ntmps160
  go_wp2
  go_ret
  exact ⟨ret_bool (by simp; omega), rfl⟩
theorem cin_any {w : World} {c st : Nat} {F : List Nat} {A : NS} (h : CellsAt w c F A st) (x : Int) :
  Calls Tryz.prog 149 #[.pointer (some ⟨c, 0, none⟩), .int .i64 x] w fun e w' => e = .returned (.bool (inN A x)) ∧ w' = w := by
 have k := cthere_any h x
 obtain ⟨ca, nm, mb, g, cap, l, rt, dp, raw, h, rfl⟩ := h
 have c1 := h.c1
 have h1 := h.ok.c1
 unfold inN
 cases hs : slotN A x
 ·rw [hs] at k
  clear h
  go_enter Tryz.func149, Tryz.ntmps149
  go_wp2_with ((go_at_call 160; (with_reducible refine (k).mono ?_); rintro e w9 ⟨rfl, hw9⟩; rw [hw9]; clear hw9 w9))
  go_ret
  exact ⟨rfl, rfl⟩
 ·rw [hs] at k
  have hx := (slotN_iff _ _).1 hs
  obtain ⟨i, rfl⟩ : ∃ i : Nat, x = i := ⟨x.toNat, by omega⟩
  have hi : i < A.cs.length := by omega
  have d0 := h.row.cellAt (i * 3) (by omega) (clCell0 raw i)
  simp only [Int.toNat_natCast]
  rw [h.in_raw hi]
  clear h hs
  go_enter Tryz.func149, Tryz.ntmps149
  go_wp2_with ((go_at_call 160; (with_reducible refine (k).mono ?_); rintro e w9 ⟨rfl, hw9⟩; rw [hw9]; clear hw9 w9))
  go_ret
  exact ⟨ret_bool (by simp), rfl⟩
end Go.Proofs.YtklibcncmbofpaaGreat
namespace Go.Proofs.YtklibcncmbofpaaGreat
open Go Go.RowKit
theorem row3 {w : World} {ca m i : Nat} {e : TypeId} {raw : Nat → Cl} (h : RowAt w ca e m (clCell raw)) (cl : Cl) :
  RowAt (((w.setCell ⟨ca, i * 3, none⟩ (.int .i64 cl.i)).setCell ⟨ca, i * 3 + 1, none⟩ (.int .i64 cl.k)).setCell ⟨ca, i * 3 + 2, none⟩ (.int .u64 cl.s)) ca e m (clCell (fun y => if y = i then cl else raw y)) := by
 refine (((h.set _ _).set _ _).set _ _).ext (fun j hj => ?_)
 simp only [clCell]
 by_cases e0 : j = i * 3 + 2
 ·rw [if_pos e0, if_neg (by omega), if_neg (by omega), if_pos (by omega)]
 ·rw [if_neg e0]
  by_cases e1 : j = i * 3 + 1
  ·rw [if_pos e1, if_neg (by omega), if_pos (by omega), if_pos (by omega)]
  ·rw [if_neg e1]
   by_cases e2 : j = i * 3
   ·rw [if_pos e2, if_pos (by omega), if_pos (by omega)]
   ·rw [if_neg e2, if_neg (show ¬ j / 3 = i by omega)]
theorem row2 {w : World} {ca m i : Nat} {e : TypeId} {raw : Nat → Cl} (h : RowAt w ca e m (clCell raw)) (k s : Int) :
  RowAt ((w.setCell ⟨ca, i * 3 + 1, none⟩ (.int .i64 k)).setCell ⟨ca, i * 3 + 2, none⟩ (.int .u64 s)) ca e m (clCell (fun y => if y = i then ⟨(raw i).i, k, s⟩ else raw y)) := by
 refine ((h.set _ _).set _ _).ext (fun j hj => ?_)
 simp only [clCell]
 by_cases e0 : j = i * 3 + 2
 ·rw [if_pos e0, if_neg (by omega), if_neg (by omega), if_pos (by omega)]
 ·rw [if_neg e0]
  by_cases e1 : j = i * 3 + 1
  ·rw [if_pos e1, if_neg (by omega), if_pos (by omega), if_pos (by omega)]
  ·rw [if_neg e1]
   by_cases e2 : j = i * 3
   ·rw [if_pos (by omega), if_pos (by omega), if_pos (by omega), show j / 3 = i by omega]
   ·rw [if_neg (show ¬ j / 3 = i by omega)]
section
variable {w : World} {c ca nm mb g cap : Nat} {l : List Int} {rt dp : Nat → Nat} {raw : Nat → Cl} {A : NS} {st : Nat}
theorem CM.turn (h : CM w c ca nm mb g cap l rt dp raw A st) {w2 : World} {raw' : Nat → Cl} {A' : NS} (hu : Upd [ca, mb] w w2) (hrow : RowAt w2 ca 281 (A.cs.length * 3) (clCell raw')) (hm : MapI w2 mb (manyF A')) (hok : A'.Ok)
  (hlen : A'.cs.length = A.cs.length) (hhs : A'.hs = A.hs) (hrel : ∀ x, x < A.cs.length → (raw' x = Cl.z ∧ A'.c x = Cl.z) ∨ (1 ≤ (raw' x).i ∧ (raw' x).i < l.length ∧ A'.c x = ⟨rt (raw' x).i.toNat, (raw' x).k, (raw' x).s⟩)) :
  CM w2 c ca nm mb g cap l rt dp raw' A' st := by
 have s := h.sep
 refine ⟨?_, by rw [hlen]; exact hrow, h.nms.upd hu (by first | (simp; done) | (simp; omega)) (by first | (simp; done) | (simp; omega)), hm, h.nok, hok, h.st62, by rw [hlen]; exact hrel, by rw [hhs]; exact h.hlen, by rw [hhs]; exact h.has, s⟩
 rw [hlen]; exact h.head.upd hu (by first | (simp; done) | (simp; omega))
theorem CM.rt_has (h : CM w c ca nm mb g cap l rt dp raw A st) {i : Nat} (hi : hasN A i = true) : 1 ≤ i ∧ i < l.length ∧ rt i = i ∧ l.getD i 0 = i := by
 rw [← h.hasZ] at hi
 unfold Go.Proofs.YtklibcncmbofpaaGreat.hasZ at hi
 simp only [Bool.and_eq_true, decide_eq_true_eq, beq_iff_eq, Int.toNat_natCast] at hi
 exact ⟨by omega, by omega, h.nok.top i (by omega) (by omega) hi.2, hi.2⟩
end
def RelC (l : List Int) (rt : Nat → Nat) (cr ca : Cl) : Prop := (cr = Cl.z ∧ ca = Cl.z) ∨ (1 ≤ cr.i ∧ cr.i < l.length ∧ ca = ⟨rt cr.i.toNat, cr.k, cr.s⟩)
theorem rel_with {l : List Int} {rt : Nat → Nat} {raw : Nat → Cl} {A : NS} {x : Nat} {cr ca : Cl} (h : ∀ y, y < A.cs.length → RelC l rt (raw y) (A.c y)) (hx : x < A.cs.length) (hc : RelC l rt cr ca) :
  ∀ y, y < A.cs.length → RelC l rt (if y = x then cr else raw y) ((withN A x ca).c y) := by
 intro y hy
 rw [c_with]
 by_cases e : y = x
 ·simp only [e, hx, and_self, if_true]; exact hc
 ·simp only [e, false_and, if_false]; exact h y hy
theorem manyF_with {A : NS} {x : Nat} {c : Cl} (h : Int) (hx : x < A.cs.length) (hz : (A.c x).i = 0) (hc : 0 < c.i) (q : Int) : (if q = c.i then some ((lenN A c.i : Int) + 1) else manyF A q) = manyF (withN A x c) q := by
 have := lenN_with A x c q hx
 rw [hz] at this
 unfold manyF
 by_cases e : q = c.i
 ·subst e
  rw [if_pos rfl]
  rw [if_neg (by omega), if_pos ⟨rfl, hc⟩] at this
  simp only [Nat.add_zero] at this
  rw [if_pos (by omega), this]; simp
 ·rw [if_neg e]
  rw [if_neg (by omega), if_neg (by omega)] at this
  simp only [Nat.add_zero] at this
  rw [this]
set_option maxHeartbeats 4000000 in
theorem cput_yes {w : World} {c st : Nat} {F : List Nat} {A : NS} (h : CellsAt w c F A st) (hh x : Nat) (k s : Int) (hk : -9223372036854775808 ≤ k ∧ k ≤ 9223372036854775807 ∧ 0 ≤ s ∧ s ≤ 18446744073709551615) (hB : putB A hh x = true) :
  Calls Tryz.prog 154 #[.pointer (some ⟨c, 0, none⟩), .int .i64 (hh : Int), .int .i64 (x : Int), .agg #[.int .i64 k, .int .u64 s]] w fun e w' => e = .returned (.bool true) ∧ CellsAt w' c F (putN A hh x k s) st ∧ Upd F w w' := by
 have k1 := fun W hW => chas_any (h.upd0 (w' := W) hW) hh
 have k2 := fun W hW => cthere_any (h.upd0 (w' := W) hW) x
 have k3 := fun W hW => cin_any (h.upd0 (w' := W) hW) x
 have hu : Upd [] w (w.alloc (.cells #[.int .i64 k, .int .u64 s] 129)) := (Upd.refl _ _).alloc _
 have hp := (putB_iff _ _ _).1 hB
 rw [hp.1] at k1
 rw [hp.2.1] at k2
 rw [hp.2.2] at k3
 have hx := (slotN_iff _ _).1 hp.2.1
 have hh1 := (hasN_iff _ _).1 hp.1
 have hAz : (A.c x).i ≤ 0 := by have := hp.2.2; unfold inN at this; rw [hp.2.1] at this; simpa using this
 have hin : (A.c x).i = 0 := by have := h.ok.nat x (by omega); omega
 have hlen := lenN_le h.ok (hh : Int)
 have hA1 := h.ok.h1
 have hA2 := h.ok.c1
 obtain ⟨ca, nm, mb, g, cap, l, rt, dp, raw, h, rfl⟩ := h
 have c1 := h.c1
 have c3 := h.c3
 have d0 := h.row.cell (x * 3) (by omega)
 have d1 := h.row.cell (x * 3 + 1) (by omega)
 have d2 := h.row.cell (x * 3 + 2) (by omega)
 have f0 := h.row.free (x * 3)
 have f1 := h.row.free (x * 3 + 1)
 have f2 := h.row.free (x * 3 + 2)
 have hlt := CellsAt.lt ⟨ca, nm, mb, g, cap, l, rt, dp, raw, h, rfl⟩
 have l1 := hlt c (by simp)
 have l2 := hlt ca (by simp)
 have l3 := hlt mb (by simp)
 have hs := h.sep
 have H := Lib.hid h
 have HP := Lib.hid hp
 clear h hp hB hlt
 obtain ⟨len, hle⟩ : ∃ n, n = A.cs.length := ⟨_, rfl⟩
 rw [← hle] at c1 hx
 have HL := Lib.hid hle
 clear hle
 have hx2 : x < len := by omega
 go_enter Tryz.func154, Tryz.ntmps154
 go_wp2_with (first | (go_at_call 139; (with_reducible refine ((k1 _ hu)).mono ?_); rintro e w9 ⟨rfl, hw9⟩; rw [hw9]; clear hw9 w9) | (go_at_call 160; (with_reducible refine ((k2 _ hu)).mono ?_); rintro e w9 ⟨rfl, hw9⟩; rw [hw9]; clear hw9 w9) | (go_at_call 149; (with_reducible refine ((k3 _ hu)).mono ?_); rintro e w9 ⟨rfl, hw9⟩; rw [hw9]; clear hw9 w9))
 go_region
 go_wp2_with (first
  | (at_lookup; refine wpList_mlook rfl _ _ rfl mb (manyF A) rfl (H.out.many.upd (S := [ca]) (by (repeat (first | assumption | exact Upd.refl _ _ | refine Upd.alloc ?_ _ | refine Upd.drew ?_ | refine Upd.drewN ?_ _ | refine Upd.setCell ?_ ?_ _ | focus (left; simp; done) | focus (right; simp; done) | focus (right; simp; omega)))) (by first | (simp; done) | (simp; omega))) (hh : Int) rfl (by omega) (lenN A (hh : Int) : Int) (manyF_get _ _) ?_)
  | (at_mapUpdate; refine wpList_mput rfl _ _ _ rfl mb (manyF A) rfl (H.out.many.upd (S := [ca]) (by (repeat (first | assumption | exact Upd.refl _ _ | refine Upd.alloc ?_ _ | refine Upd.drew ?_ | refine Upd.drewN ?_ _ | refine Upd.setCell ?_ ?_ _ | focus (left; simp; done) | focus (right; simp; done) | focus (right; simp; omega)))) (by first | (simp; done) | (simp; omega))) (hh : Int) ((lenN A (hh : Int) : Int) + 1) rfl rfl (by omega) (by omega) ?_; intro w2 hm2 hu2))
 go_ret
 have hu3 : Upd [ca] w ((((w.setCell ⟨ca, x * 3, none⟩ (.int .i64 (hh : Int))).setCell ⟨ca, x * 3 + 1, none⟩ (.int .i64 k)).setCell ⟨ca, x * 3 + 2, none⟩ (.int .u64 s)).alloc (.cells #[.int .i64 k, .int .u64 s] 129)).drew := by (repeat (first | assumption | exact Upd.refl _ _ | refine Upd.alloc ?_ _ | refine Upd.drew ?_ | refine Upd.drewN ?_ _ | refine Upd.setCell ?_ ?_ _ | focus (left; simp; done) | focus (right; simp; done) | focus (right; simp; omega)))
 have hr3 := ((row3 (i := x) H.out.row ⟨(hh : Int), k, s⟩).upd ((Upd.refl [] _).alloc (.cells #[.int .i64 k, .int .u64 s] 129) |>.drew) (by simp)).upd hu2 (by first | (simp; done) | (simp; omega))
 have hu4 : Upd [ca, mb] w w2 := (hu3.mono (by first | (simp; done) | (simp; omega))).joined hu2 (fun y hy => Or.inl (by simp at hy; simp [hy]))
 have hrt := H.out.rt_has HP.out.1
 have hxl : x < A.cs.length := by rw [← HL.out]; exact hx2
 have e : putN A (hh : Int) (x : Int) k s = withN A x ⟨(hh : Int), k, s⟩ := by unfold putN; rw [if_pos ((putB_iff _ _ _).2 HP.out)]; simp
 refine ⟨rfl, ⟨ca, nm, mb, g, cap, l, rt, dp, fun y => if y = x then ⟨(hh : Int), k, s⟩ else raw y, ?_, rfl⟩, hu4.mono (by first | (simp; done) | (simp; omega))⟩
 rw [e]
 refine H.out.turn hu4 hr3 (hm2.ext (fun q => manyF_with (c := ⟨(hh : Int), k, s⟩) (hh : Int) hxl hin (by show 0 < (hh : Int); omega) q)) (by rw [← e]; exact putN_ok H.out.ok _ _ _ _ hk) (len_with _ _ _) rfl (rel_with H.out.rel hxl (Or.inr ⟨by show 1 ≤ (hh : Int); omega, by show (hh : Int) < l.length; omega, by rw [Int.toNat_natCast, hrt.2.2.1]⟩))
theorem centry_no {w : World} {c st : Nat} {F : List Nat} {A : NS} (h : CellsAt w c F A st) (x : Int) (hx : inN A x = false) :
  Calls Tryz.prog 137 #[.pointer (some ⟨c, 0, none⟩), .int .i64 x] w fun e w' => e = .returned (.tuple #[.agg #[.int .i64 0, .int .u64 0], .bool false]) ∧ Upd [] w w' := by
 have hu : Upd [] w (w.alloc (.cells #[.int .i64 0, .int .u64 0] 129)) := (Upd.refl _ _).alloc _
 have k := cin_any (h.upd0 hu) x
 rw [hx] at k
 clear h hx
 go_enter Tryz.func137, Tryz.ntmps137
 go_wp2_with ((go_at_call 149; (with_reducible refine (k).mono ?_); rintro e w9 ⟨rfl, hw9⟩; rw [hw9]; clear hw9 w9))
 exact bodyPost_ret (v := .tuple #[.agg #[.int .i64 0, .int .u64 0], .bool false]) (by simp [results, Tryz.results137, go_sem]) rfl ⟨rfl, by (repeat (first | assumption | exact Upd.refl _ _ | refine Upd.alloc ?_ _ | refine Upd.drew ?_ | refine Upd.drewN ?_ _ | refine Upd.setCell ?_ (Or.inr (by first | (simp; done) | (simp; omega))) _ | (apply Upd.trans; rotate_left; assumption)))⟩
theorem centry_yes {w : World} {c st : Nat} {F : List Nat} {A : NS} (h : CellsAt w c F A st) (x : Nat) (hx : inN A x = true) :
  Calls Tryz.prog 137 #[.pointer (some ⟨c, 0, none⟩), .int .i64 (x : Int)] w fun e w' => e = .returned (.tuple #[.agg #[.int .i64 (A.c x).k, .int .u64 (A.c x).s], .bool true]) ∧ Upd [] w w' := by
 have hu : Upd [] w (w.alloc (.cells #[.int .i64 0, .int .u64 0] 129)) := (Upd.refl _ _).alloc _
 have k := cin_any (h.upd0 hu) x
 rw [hx] at k
 obtain ⟨hx1, hx2⟩ := (inN_nat _ _).1 hx
 obtain ⟨ca, nm, mb, g, cap, l, rt, dp, raw, h, rfl⟩ := h
 have e : A.c x = ⟨rt (raw x).i.toNat, (raw x).k, (raw x).s⟩ := by
  rcases h.rel x hx1 with ⟨h1, h2⟩ | ⟨h1, h2, h3⟩
  ·rw [h2] at hx2; exact absurd hx2 (by decide)
  ·exact h3
 rw [e]
 have c1 := h.c1
 have d1 := h.row.cellAt (x * 3 + 1) (by omega) (clCell1 raw x)
 have d2 := h.row.cellAt (x * 3 + 2) (by omega) (clCell2 raw x)
 have hA := h.ok.c1
 have l1 := h.head.lt
 have l2 := h.row.lt
 clear h hx hx2 e
 go_enter Tryz.func137, Tryz.ntmps137
 go_wp2_with ((go_at_call 149; (with_reducible refine (k).mono ?_); rintro e w9 ⟨rfl, hw9⟩; rw [hw9]; clear hw9 w9))
 exact bodyPost_ret (v := .tuple #[.agg #[.int .i64 (raw x).k, .int .u64 (raw x).s], .bool true]) (by simp [results, Tryz.results137, go_sem]) rfl ⟨rfl, by (repeat (first | assumption | exact Upd.refl _ _ | refine Upd.alloc ?_ _ | refine Upd.drew ?_ | refine Upd.drewN ?_ _ | refine Upd.setCell ?_ (Or.inr (by first | (simp; done) | (simp; omega))) _ | (apply Upd.trans; rotate_left; assumption)))⟩
theorem CM.reroot {w : World} {c ca nm mb g cap : Nat} {l l' : List Int} {rt dp : Nat → Nat} {raw : Nat → Cl} {A : NS} {st : Nat} (h : CM w c ca nm mb g cap l rt dp raw A st) {w' : World} (hN : NmAt w' nm g cap l') (ok : NmOk l' rt dp) (hl : l'.length = l.length) (hu : Upd [g] w w') :
  CM w' c ca nm mb g cap l' rt dp raw A st := by
 have s := h.sep
 refine ⟨h.head.upd hu (by first | (simp; done) | (simp; omega)), h.row.upd hu (by first | (simp; done) | (simp; omega)), hN, h.many.upd hu (by first | (simp; done) | (simp; omega)), ok, h.ok, h.st62, by rw [hl]; exact h.rel, by rw [hl]; exact h.hlen, fun i h1 h2 => ?_, s⟩
 rw [hl] at h2
 rw [h.has i h1 h2, decide_eq_decide, h.nok.is_top h1 h2, ok.is_top h1 (by rw [hl]; exact h2)]
set_option maxHeartbeats 2000000 in
theorem chome_yes {w : World} {c st : Nat} {F : List Nat} {A : NS} (h : CellsAt w c F A st) (x : Nat) (hx : inN A x = true) :
  Calls Tryz.prog 140 #[.pointer (some ⟨c, 0, none⟩), .int .i64 (x : Int)] w fun e w' => e = .returned (.tuple #[.int .i64 (A.c x).i, .bool true]) ∧ CellsAt w' c F A st ∧ Upd F w w' := by
 have k := cin_any h x
 rw [hx] at k
 obtain ⟨hx1, hx2⟩ := (inN_nat _ _).1 hx
 obtain ⟨ca, nm, mb, g, cap, l, rt, dp, raw, h, rfl⟩ := h
 have e : 1 ≤ (raw x).i ∧ (raw x).i < l.length ∧ A.c x = ⟨rt (raw x).i.toNat, (raw x).k, (raw x).s⟩ := by
  rcases h.rel x hx1 with ⟨h1, h2⟩ | h3
  ·rw [h2] at hx2; exact absurd hx2 (by decide)
  ·exact h3
 obtain ⟨r, hr⟩ : ∃ r : Nat, (raw x).i = r := ⟨(raw x).i.toNat, by omega⟩
 rw [e.2.2, hr, Int.toNat_natCast]
 have c1 := h.c1
 have c2 := h.c2
 have d0 := h.row.cellAt (x * 3) (by omega) (clCell0 raw x)
 rw [hr] at d0 e
 have hA := h.ok.c1
 have hs := h.sep
 have H := Lib.hid h
 have hr1 : 1 ≤ r := by omega
 have hr2 : r < l.length := by omega
 clear h hx hx2 e hr
 go_enter Tryz.func140, Tryz.ntmps140
 go_wp2_with ((go_at_call 149; (with_reducible refine (k).mono ?_); rintro e w9 ⟨rfl, hw9⟩; rw [hw9]; clear hw9 w9))
 have r1 : ∀ W, Upd [g] w W → W.cell? ⟨c, 1, none⟩ = some (.slice (some ⟨ca, 0, none⟩) A.cs.length A.cs.length) := fun W hW => by rw [hW.cell H.out.head.lt (by first | (simp; done) | (simp; omega))]; exact c1
 have r2 : ∀ W, Upd [g] w W → W.cell? ⟨c, 2, none⟩ = some (.pointer (some ⟨nm, 0, none⟩)) := fun W hW => by rw [hW.cell H.out.head.lt (by first | (simp; done) | (simp; omega))]; exact c2
 have r3 : ∀ W, Upd [g] w W → W.cell? ⟨ca, x * 3, none⟩ = some (.int .i64 (r : Int)) := fun W hW => by rw [hW.cell H.out.row.lt (by first | (simp; done) | (simp; omega))]; exact d0
 go_region_held3 (Upd [g] w) (repeat (first | assumption | exact Upd.refl _ _ | refine Upd.drew ?_ | refine Upd.alloc ?_ _ | (apply Upd.trans; rotate_left; assumption)))
  ((go_at_call 153; (with_reducible refine (nroot_yes nm g cap l rt dp r _ (H.out.nms.upd (S := []) (by (repeat (first | assumption | exact Upd.refl _ _ | refine Upd.alloc ?_ _ | refine Upd.drew ?_ | refine Upd.drewN ?_ _ | refine Upd.setCell ?_ ?_ _ | focus (left; simp; done) | focus (right; simp; done) | focus (right; simp; omega)))) (by simp) (by simp)) H.out.nok hr1 hr2).mono ?_); rintro e w1 ⟨l', rfl, hN, hok, hlen, hu⟩; have hu' : Upd [g] w w1 := (by first | exact hu | exact ((Upd.refl [g] w).drew.trans hu) | exact ((Upd.refl [g] w).drewN _ |>.trans hu))))
 go_wp2
 go_ret2
 exact ⟨rfl, ⟨ca, nm, mb, g, cap, l', rt, dp, raw, H.out.reroot hN hok hlen hu', rfl⟩, hu'.mono (by first | (simp; done) | (simp; omega))⟩
end Go.Proofs.YtklibcncmbofpaaGreat
