/-
  Lemmas for RankNames: Names, Map, Cells, Cells2. Conditions: those of each lemma.
-/
import Derived.StillTailTactics
import Derived.Test.YtklibcncmbofpaaGreatProg
import Derived.WalkKit
import Derived.WalkSpells
import Derived.WalkLawsBesides
import Derived.BigQuiet
import Derived.Deep.RegionHeld3
import Derived.ProofKit
import Derived.OpenShut
import Derived.Lib.Hide
import Derived.Maps.AppendAt
import Derived.Maps.OwnSet
import Derived.Maps.OwnOps
import Derived.Maps.RangeWalk
import Derived.Test.YtklibcncmbofpaaGreatP01
set_option linter.unusedVariables false
set_option linter.unusedSimpArgs false
namespace Go.Proofs.YtklibcncmbofpaaGreat
open Go Go.RowKit
structure NmOk (l : List Int) (rt dp : Nat → Nat) : Prop where
 len : 1 ≤ l.length
 len2 : l.length ≤ 65537
 rng : ∀ i, 1 ≤ i → i < l.length → 1 ≤ l.getD i 0 ∧ l.getD i 0 < l.length
 up : ∀ i, 1 ≤ i → i < l.length → rt (l.getD i 0).toNat = rt i
 top : ∀ i, 1 ≤ i → i < l.length → l.getD i 0 = i → rt i = i
 low : ∀ i, 1 ≤ i → i < l.length → l.getD i 0 ≠ i → dp (l.getD i 0).toNat < dp i
theorem NmOk.root {l : List Int} {rt dp : Nat → Nat} (h : NmOk l rt dp) : ∀ (d i : Nat), dp i ≤ d → 1 ≤ i → i < l.length → 1 ≤ rt i ∧ rt i < l.length ∧ l.getD (rt i) 0 = rt i
 | d, i, hd, h1, h2 => by
  by_cases e : l.getD i 0 = i
  ·rw [h.top i h1 h2 e]; exact ⟨h1, h2, e⟩
  ·have hl := h.low i h1 h2 e
   have hr := h.rng i h1 h2
   match d, hd with
   | 0, hd => omega
   | d + 1, hd =>
    have := NmOk.root h d (l.getD i 0).toNat (by omega) (by omega) (by omega)
    rwa [h.up i h1 h2] at this
theorem NmOk.rt_in {l : List Int} {rt dp : Nat → Nat} (h : NmOk l rt dp) {i : Nat} (h1 : 1 ≤ i) (h2 : i < l.length) : 1 ≤ rt i ∧ rt i < l.length ∧ l.getD (rt i) 0 = rt i := h.root (dp i) i (Nat.le_refl _) h1 h2
theorem NmOk.is_top {l : List Int} {rt dp : Nat → Nat} (h : NmOk l rt dp) {i : Nat} (h1 : 1 ≤ i) (h2 : i < l.length) : l.getD i 0 = i ↔ rt i = i :=
 ⟨h.top i h1 h2, fun e => by have := h.rt_in h1 h2; rw [e] at this; exact this.2.2⟩
theorem getD_set (l : List Int) (i : Nat) (x : Int) (j : Nat) : (l.set i x).getD j 0 = if j = i ∧ i < l.length then x else l.getD j 0 := by
 simp only [List.getD_eq_getElem?_getD, List.getElem?_set]
 by_cases h : i = j
 ·subst h
  by_cases hx : i < l.length
  ·simp [hx]
  ·simp [hx, List.getElem?_eq_none (Nat.le_of_not_lt hx)]
 ·rw [if_neg h, if_neg (fun e => h e.1.symm)]
theorem NmOk.short {l : List Int} {rt dp : Nat → Nat} (h : NmOk l rt dp) {k : Nat} (h1 : 1 ≤ k) (h2 : k < l.length) (hk : l.getD k 0 ≠ k) : NmOk (l.set k (l.getD (l.getD k 0).toNat 0)) rt dp := by
 have r1 := h.rng k h1 h2
 obtain ⟨j, hj⟩ : ∃ j : Nat, l.getD k 0 = j := ⟨(l.getD k 0).toNat, by omega⟩
 have u1 := h.up k h1 h2
 have d1 := h.low k h1 h2 hk
 rw [hj] at r1 u1 d1 hk ⊢
 simp only [Int.toNat_natCast] at u1 d1 ⊢
 have hjk : j ≠ k := fun e => hk (by rw [e])
 have r2 := h.rng j (by omega) (by omega)
 obtain ⟨q, hq⟩ : ∃ q : Nat, l.getD j 0 = q := ⟨(l.getD j 0).toNat, by omega⟩
 have u2 := h.up j (by omega) (by omega)
 have d2 := h.low j (by omega) (by omega)
 rw [hq] at r2 u2 d2 ⊢
 simp only [Int.toNat_natCast] at u2 d2
 have d3 : q ≠ j → dp q < dp j := fun e => d2 (by omega)
 clear d2
 refine ⟨by simp; exact h.len, by simp; exact h.len2, fun i a b => ?_, fun i a b => ?_, fun i a b => ?_, fun i a b => ?_⟩
 all_goals
  rw [List.length_set] at b
  rw [getD_set]
 ·rw [List.length_set]; split
  ·exact r2
  ·exact h.rng i a b
 ·split
  ·rename_i e; simp only [Int.toNat_natCast]; rw [u2, u1, e.1]
  ·exact h.up i a b
 ·split
  ·rename_i e
   intro he
   have hqi : q = k := by have := e.1; omega
   by_cases e2 : q = j
   ·exfalso; omega
   ·have := d3 e2; rw [hqi] at this; omega
  ·exact h.top i a b
 ·split
  ·rename_i e
   intro he
   simp only [Int.toNat_natCast]
   rw [e.1]
   by_cases e2 : q = j
   ·rw [e2]; exact d1
   ·have := d3 e2; omega
  ·exact h.low i a b
structure NmAt (w : World) (nm g cap : Nat) (l : List Int) : Prop where
 head : ∃ c : Int, RowAt w nm 262 3 (fun j => [Value.slice (some ⟨g, 0, none⟩) l.length cap, .int .i64 65536, .int .i64 c].getD j undef)
 row : IZ w g cap l
 ne : nm ≠ g
theorem NmAt.upd {w w' : World} {S : List Nat} {nm g cap : Nat} {l : List Int} (h : NmAt w nm g cap l) (hu : Upd S w w') (h1 : nm ∉ S) (h2 : g ∉ S) : NmAt w' nm g cap l := by
 obtain ⟨c, h3⟩ := h.head
 exact ⟨⟨c, h3.upd hu h1⟩, h.row.upd hu h2, h.ne⟩
theorem NmAt.c0 {w : World} {nm g cap : Nat} {l : List Int} (h : NmAt w nm g cap l) : w.cell? ⟨nm, 0, none⟩ = some (.slice (some ⟨g, 0, none⟩) l.length cap) := by obtain ⟨c, h⟩ := h.head; exact h.cellAt 0 (by omega) rfl
theorem NmAt.c1 {w : World} {nm g cap : Nat} {l : List Int} (h : NmAt w nm g cap l) : w.cell? ⟨nm, 1, none⟩ = some (.int .i64 65536) := by obtain ⟨c, h⟩ := h.head; exact h.cellAt 1 (by omega) rfl
theorem NmAt.lt {w : World} {nm g cap : Nat} {l : List Int} (h : NmAt w nm g cap l) : nm < w.heap.size ∧ g < w.heap.size := by obtain ⟨c, h1⟩ := h.head; exact ⟨h1.lt, h.row.lt⟩
theorem NmAt.set {w : World} {nm g cap : Nat} {l : List Int} (h : NmAt w nm g cap l) (j : Nat) (x : Int) : NmAt (w.setCell ⟨g, j, none⟩ (.int .i64 x)) nm g cap (l.set j x) := by
 obtain ⟨c, h1⟩ := h.head
 exact ⟨⟨c, by rw [List.length_set]; exact h1.far _ _ h.ne⟩, h.row.set j x, h.ne⟩
theorem NmAt.setCnt {w : World} {nm g cap : Nat} {l : List Int} (h : NmAt w nm g cap l) (x : Int) : NmAt (w.setCell ⟨nm, 2, none⟩ (.int .i64 x)) nm g cap l := by
 obtain ⟨c, h1⟩ := h.head
 refine ⟨⟨x, (h1.set 2 (.int .i64 x)).ext (fun j hj => ?_)⟩, h.row.upd ((Upd.refl [nm] w).setCell (Or.inl (by simp)) _) (by simp; exact fun e => h.ne e.symm), h.ne⟩
 rcases (by omega : j = 0 ∨ j = 1 ∨ j = 2) with rfl | rfl | rfl <;> simp
theorem NmAt.setRow {w : World} {nm g cap : Nat} {l : List Int} (h : NmAt w nm g cap l) {W : World} {g' cap' : Nat} {l' : List Int} (hu : Upd [g] w W) (hr : IZ W g' cap' l') (hne : nm ≠ g') : NmAt (W.setCell ⟨nm, 0, none⟩ (.slice (some ⟨g', 0, none⟩) l'.length cap')) nm g' cap' l' := by
 obtain ⟨c, h1⟩ := h.head
 refine ⟨⟨c, ((h1.upd hu (by simp; exact h.ne)).set 0 _).ext (fun j hj => ?_)⟩, hr.upd ((Upd.refl [nm] W).setCell (Or.inl (by simp)) _) (by simp; exact fun e => hne e.symm), hne⟩
 rcases (by omega : j = 0 ∨ j = 1 ∨ j = 2) with rfl | rfl | rfl <;> simp
theorem made_any (nm g cap : Nat) (l : List Int) (x : Int) (w : World) (h : NmAt w nm g cap l) (hl : l.length ≤ 65537) :
  Calls Tryz.prog 162 #[.pointer (some ⟨nm, 0, none⟩), .int .i64 x] w fun e w' => e = .returned (.bool (decide (0 < x) && decide (x < l.length))) ∧ w' = w := by
 have c0 := h.c0
 have hc := h.row.cap
 clear h
 by_cases h0 : 0 < x
 ·go_enter Tryz.func162, Tryz.ntmps162
  go_wp2
  go_ret
  exact ⟨ret_bool (by simp [h0]), rfl⟩
 ·go_enter Tryz.func162, Tryz.ntmps162
  go_wp2
  go_ret
  exact ⟨ret_bool (by simp; omega), rfl⟩
def hasZ (l : List Int) (x : Int) : Bool := decide (0 < x) && decide (x < l.length) && (l.getD x.toNat 0 == x)
theorem nhas_any (nm g cap : Nat) (l : List Int) (x : Int) (w : World) (h : NmAt w nm g cap l) (hl : l.length ≤ 65537) :
  Calls Tryz.prog 152 #[.pointer (some ⟨nm, 0, none⟩), .int .i64 x] w fun e w' => e = .returned (.bool (hasZ l x)) ∧ w' = w := by
 have k := made_any nm g cap l x w h hl
 unfold hasZ
 have c0 := h.c0
 have hc := h.row.cap
 by_cases h0 : 0 < x ∧ x < l.length
 ·obtain ⟨i, rfl⟩ : ∃ i : Nat, x = i := ⟨x.toNat, by omega⟩
  rw [show (decide (0 < (i : Int)) && decide ((i : Int) < l.length)) = true by simp; omega] at *
  have hi : i < l.length := by omega
  have c1 := h.row.cell i hi
  simp only [Int.toNat_natCast]
  generalize l.getD i 0 = y at *
  clear h
  go_enter Tryz.func152, Tryz.ntmps152
  go_wp2_with ((go_at_call 162; (with_reducible refine (k).mono ?_); rintro e w9 ⟨rfl, hw9⟩; rw [hw9]; clear hw9 w9))
  go_ret
  exact ⟨ret_bool (by simp), rfl⟩
 ·rw [show (decide (0 < x) && decide (x < l.length)) = false by simp; omega] at *
  clear h
  go_enter Tryz.func152, Tryz.ntmps152
  go_wp2_with ((go_at_call 162; (with_reducible refine (k).mono ?_); rintro e w9 ⟨rfl, hw9⟩; rw [hw9]; clear hw9 w9))
  go_ret
  exact ⟨ret_bool (by simp), rfl⟩
theorem last_any (nm g cap : Nat) (l : List Int) (w : World) (h : NmAt w nm g cap l) (hl : l.length ≤ 65537) :
  Calls Tryz.prog 168 #[.pointer (some ⟨nm, 0, none⟩)] w fun e w' => e = .returned (.int .i64 ((l.length : Int) - 1)) ∧ w' = w := by
 have c0 := h.c0
 have hc := h.row.cap
 clear h
 go_enter Tryz.func168, Tryz.ntmps168
 go_wp2
 go_ret
 exact ⟨rfl, rfl⟩
set_option maxHeartbeats 1000000 in
theorem nroot_yes (nm g cap : Nat) (l : List Int) (rt dp : Nat → Nat) (x : Nat) (w : World) (h : NmAt w nm g cap l) (ok : NmOk l rt dp) (hx : 1 ≤ x) (hx2 : x < l.length) :
  Calls Tryz.prog 153 #[.pointer (some ⟨nm, 0, none⟩), .int .i64 (x : Int)] w fun e w' => ∃ l', e = .returned (.tuple #[.int .i64 (rt x : Int), .bool true]) ∧ NmAt w' nm g cap l' ∧ NmOk l' rt dp ∧ l'.length = l.length ∧ Upd [g] w w' := by
 have k := made_any nm g cap l x w h ok.len2
 rw [show (decide (0 < (x : Int)) && decide ((x : Int) < l.length)) = true by simp; omega] at k
 generalize hr : rt x = r at *
 have HR := Lib.hid hr
 clear hr
 go_enter Tryz.func153, Tryz.ntmps153
 go_wp2_with ((go_at_call 162; (with_reducible refine (k).mono ?_); rintro e w9 ⟨rfl, hw9⟩; rw [hw9]; clear hw9 w9))
 clear k
 go_loopw [1] (fun id wr => ∃ (k : Nat) (l' : List Int), id = .int .i64 (k : Int) ∧ 1 ≤ k ∧ k < l'.length ∧ rt k = r ∧ NmAt wr nm g cap l' ∧ NmOk l' rt dp ∧ l'.length = l.length ∧ Upd [g] w wr) (fun id _ => dp (intOf id).toNat)
 case atStart => exact ⟨x, l, rfl, hx, hx2, HR.out, h, ok, rfl, Upd.refl _ _⟩
 case round =>
  obtain ⟨k, l', rfl, hk1, hk2, hrt, hN, hok, hlen, hu⟩ := hrel
  have c0 := hN.c0
  have hc := hN.row.cap
  have c1 := hN.row.cell k hk2
  have c2 := hN.row.free k
  have hrg := hok.rng k hk1 hk2
  have hl2 := hok.len2
  have HA := Lib.hid (And.intro h ok)
  have HB := Lib.hid (And.intro hN (And.intro hok (And.intro hlen hrt)))
  clear h ok hN hok hlen hrt
  by_cases hkk : l'.getD k 0 = k
  ·rw [hkk] at c1
   have HK := Lib.hid hkk
   clear hkk hrg
   go_wp2
   go_ret2
   obtain ⟨h1, h2, h3, h4⟩ := HB.out
   exact ⟨l', by rw [← h4, h2.top k hk1 hk2 HK.out]; rfl, h1, h2, h3, hu⟩
  ·obtain ⟨j, hj⟩ : ∃ j : Nat, l'.getD k 0 = j := ⟨(l'.getD k 0).toNat, by omega⟩
   have hjr : 1 ≤ j ∧ j < l'.length := by omega
   have c3 := HB.out.1.row.cell j hjr.2
   have hrg2 := HB.out.2.1.rng j hjr.1 hjr.2
   obtain ⟨q, hq⟩ : ∃ q : Nat, l'.getD j 0 = q := ⟨(l'.getD j 0).toNat, by omega⟩
   rw [hj] at c1 hrg hkk
   rw [hq] at c3 hrg2
   have hne : ((j : Int) != (k : Int)) = true := by simpa using hkk
   have HJ := Lib.hid (And.intro hj (And.intro hq hkk))
   clear hj hq hkk
   go_wp2
   go_region
   go_wp2
   go_roundw
   case rel =>
    obtain ⟨h1, h2, h3, h4⟩ := HB.out
    obtain ⟨e1, e2, e3⟩ := HJ.out
    have hs := h2.short hk1 hk2 (by rw [e1]; exact e3)
    rw [e1] at hs
    simp only [Int.toNat_natCast] at hs
    rw [e2] at hs
    have u1 := h2.up k hk1 hk2
    have u2 := h2.up j (by omega) (by omega)
    rw [e1] at u1; rw [e2] at u2
    simp only [Int.toNat_natCast] at u1 u2
    exact ⟨q, _, rfl, by omega, by rw [List.length_set]; omega, by rw [u2, u1, h4], (h1.set k q).upd ((Upd.refl [] _).drew) (by simp) (by simp), hs, by rw [List.length_set]; exact h3, ((hu.setCell (Or.inl (by simp)) _)).drew⟩
   case measure =>
    obtain ⟨h1, h2, h3, h4⟩ := HB.out
    obtain ⟨e1, e2, e3⟩ := HJ.out
    have d1 := h2.low k hk1 hk2 (by rw [e1]; exact e3)
    have d2 := h2.low j (by omega) (by omega)
    rw [e1] at d1; rw [e2] at d2
    simp only [Int.toNat_natCast] at d1 d2
    simp [intOf]
    by_cases e : q = j
    ·rw [e]; exact d1
    ·have := d2 (by omega); omega
set_option maxHeartbeats 1000000 in
theorem nmake_no (nm g cap : Nat) (l : List Int) (w : World) (h : NmAt w nm g cap l) (hl : l.length = 65537) :
  Calls Tryz.prog 163 #[.pointer (some ⟨nm, 0, none⟩)] w fun e w' => e = .returned (.tuple #[.int .i64 0, .bool false]) ∧ Upd [] w w' := by
 have k := last_any nm g cap l
 have k1 := fun W hW => k W hW (by omega)
 rw [hl] at k1
 have c1 : ∀ d, (w.drewN d).cell? ⟨nm, 1, none⟩ = some (.int .i64 65536) := fun d => h.c1
 have H := fun d => (h.upd ((Upd.refl [] w).drewN d) (by simp) (by simp))
 clear h k
 go_enter Tryz.func163, Tryz.ntmps163
 go_wp2
 go_quiet ((go_at_call 168; exact Calls.quiet_of_same (k1 _ (H _))))
 go_wp2
 go_ret2
 exact ⟨rfl, (Upd.refl _ _).drewN _⟩
set_option maxHeartbeats 1000000 in
theorem nmake_yes (nm g cap : Nat) (l : List Int) (w : World) (h : NmAt w nm g cap l) (hl : 1 ≤ l.length) (hl2 : l.length ≤ 65536) :
  Calls Tryz.prog 163 #[.pointer (some ⟨nm, 0, none⟩)] w fun e w' => ∃ g' cap', e = .returned (.tuple #[.int .i64 (l.length : Int), .bool true]) ∧ NmAt w' nm g' cap' (l ++ [(l.length : Int)]) ∧ Upd [nm, g] w w' ∧ (g' = g ∨ w.heap.size ≤ g') := by
 have k1 := fun W hW => last_any nm g cap l W hW (by omega)
 have c1 : ∀ d, (w.drewN d).cell? ⟨nm, 1, none⟩ = some (.int .i64 65536) := fun d => h.c1
 have c0 : ∀ d, (w.drewN d).cell? ⟨nm, 0, none⟩ = some (.slice (some ⟨g, 0, none⟩) l.length cap) := fun d => h.c0
 obtain ⟨cn, hh⟩ := h.head
 have c2 : w.cell? ⟨nm, 2, none⟩ = some (.int .i64 cn) := hh.cellAt 2 (by omega) rfl
 have f0 := hh.free 0
 have f2 := hh.free 2
 have HO : Hid (∀ d, (w.drewN d).ownsRow 0 3 1 (.slice (some ⟨g, 0, none⟩) l.length cap) l.length (intsZ l)) := fun d => (h.row.drewN d).own
 have H : Hid (∀ d, NmAt (w.drewN d) nm g cap l) := fun d => (h.upd ((Upd.refl [] w).drewN d) (by simp) (by simp))
 have hcap := h.row.cap
 have hlt := h.lt
 have hne := h.ne
 have hb1 : ((l.length : Int) - 1 == 65536) = false := by simp; omega
 clear h hh
 generalize hlen : l.length = len at *
 have HL := Lib.hid hlen
 clear hlen
 go_enter Tryz.func163, Tryz.ntmps163
 go_wp2
 go_quiet ((go_at_call 168; exact Calls.quiet_of_same (k1 _ (H.out _))))
 go_wp2_with (((at_builtin; refine wpList_append_sep rfl _ _ 26 rfl 0 3 (.int .i64 0) 1 8 Tryz.underlying26 intInfo rfl (by decide) _ _ _ rfl ((HO.out _)) [.int .i64 (len : Int)] rfl (by simp [Value.oneCell']) (by first | rfl | (rw [World.size_alloc]; rfl)) (by unfold maxLen; omega) (by omega) ((by simp)) ?_; intro v1 w1 ho1 hu1 hsep1)); obtain ⟨g1, cap1, rfl, _, hg1, hc1, hc2, _⟩ := own_shape ho1 (by omega); (have hu2 : Upd [g] (w.drewN nq) w1 := hu1); (have hs2 : g1 = g ∨ w.heap.size < g1 := by (rcases hsep1 with h' | h'; (exact Or.inl (Option.some.inj h')); (exact Or.inr (h' g1 rfl)))); clear hu1 hsep1; (have q1 : w1.cell? ⟨nm, 0, none⟩ = some (.slice (some ⟨g, 0, none⟩) len cap) := (hu2.cell (p := ⟨nm, 0, none⟩) hlt.1 (by simp; exact hne)).trans (c0 _)); (have q2 : w1.cell? ⟨nm, 2, none⟩ = some (.int .i64 cn) := (hu2.cell (p := ⟨nm, 2, none⟩) hlt.1 (by simp; exact hne)).trans c2); (have q3 : w1.frozen? ⟨nm, 0, none⟩ = false := (hu2.frozen (p := ⟨nm, 0, none⟩) hlt.1 (by simp; exact hne)).trans f0); (have q4 : w1.frozen? ⟨nm, 2, none⟩ = false := (hu2.frozen (p := ⟨nm, 2, none⟩) hlt.1 (by simp; exact hne)).trans f2))
 go_ret2
 have hn1 : nm ≠ g1 := by omega
 have hz : IZ w1 g1 cap1 (l ++ [(len : Int)]) := ⟨by rw [List.length_append, HL.out, intsZ_append]; exact ho1⟩
 have hN := (H.out nq).setRow hu2 hz hn1
 rw [List.length_append, HL.out] at hN
 refine ⟨g1, cap1, rfl, ?_, ?_, by omega⟩
 ·exact hN.setCnt _
 ·exact ((((Upd.refl [nm, g] w).drewN nq).joined hu2 (fun x hx => Or.inl (by simp at hx; simp [hx]))).setCell (Or.inl (by simp)) _).setCell (Or.inl (by simp)) _
theorem nnew_any (w : World) : Calls Tryz.prog 114 #[.int .i64 65536] w fun e w' => ∃ nm g, e = .returned (.tuple #[.pointer (some ⟨nm, 0, none⟩), .int .i64 0]) ∧ NmAt w' nm g 1 [0] ∧ Upd [] w w' ∧ w.heap.size ≤ nm ∧ w.heap.size ≤ g := by
 go_enter Tryz.func114, Tryz.ntmps114
 go_wp2
 go_ret2
 have hr := rowAt_new (w.alloc (.cells #[.int .i64 0] 3)) [Value.slice (some ⟨w.heap.size, 0, none⟩) 1 1, .int .i64 65536, .int .i64 0] 262
 rw [World.size_alloc] at hr
 exact ⟨_, _, rfl, ⟨⟨0, hr⟩, (IZ.lit w [0] (by simp)).upd ((Upd.refl [] _).alloc _) (by simp), by omega⟩, ((Upd.refl _ _).alloc _).alloc _, by simp, Nat.le_refl _⟩
end Go.Proofs.YtklibcncmbofpaaGreat
namespace Go.Proofs.YtklibcncmbofpaaGreat
open Go Go.RowKit Go.Maps
theorem nodup_range : ∀ (n : Nat) (l : List Int), l.Nodup → (∀ x, x ∈ l → 0 ≤ x ∧ x < n) → l.length ≤ n
 | 0, l, _, h => by
  cases l with
  | nil => simp
  | cons x r => have := h x (by simp); omega
 | n + 1, l, hn, h => by
  have h1 := nodup_range n (l.filter (fun x => x != (n : Int))) (hn.filter _) (fun x hx => by
   simp only [List.mem_filter] at hx
   have := h x hx.1
   have h2 : x ≠ n := by simpa using hx.2
   omega)
  have h2 : l.length ≤ (l.filter (fun x => x != (n : Int))).length + 1 := by
   clear h1 h
   induction l with
   | nil => simp
   | cons y r ih =>
    rw [List.nodup_cons] at hn
    by_cases hy : y = n
    ·subst hy
     have e : r.filter (fun x => x != (n : Int)) = r := by
      rw [List.filter_eq_self]; intro a ha; simp; intro e; subst e; exact hn.1 ha
     rw [List.filter_cons_of_neg (by simp), e]; simp
    ·rw [List.filter_cons_of_pos (by simpa using hy)]
     have := ih hn.2
     simp only [List.length_cons]; omega
  omega
def MapI (w : World) (b : Nat) (f : Int → Option Int) : Prop :=
 ∃ D : DataW Unit, w.ownsMap Tryz.prog 3 (plainElem Tryz.prog 3) b (Maps.size D) D ∧
  (∀ kl, Maps.has D kl = true → ∃ k : Int, kl = .int .i64 k ∧ 0 ≤ k ∧ k ≤ 65536 ∧ (f k).isSome = true) ∧
  (∀ k z, f k = some z → Maps.has D (.int .i64 k) = true ∧ ∀ d, D.atKey (.int .i64 k) d = .lit (.int .i64 z))
theorem ownsMap_size {w : World} {k : TypeId} {R : Value → Option (DataW Unit × List MemPlace)} {b n : Nat} {D : DataW Unit} (h : w.ownsMap Tryz.prog k R b n D) : w.ownsMap Tryz.prog k R b (Maps.size D) D := by
 obtain ⟨es, clock, hb, F, hs, rfl⟩ := h
 exact ⟨es, clock, hb, F, by simp [Maps.size, length_sorted], rfl⟩
theorem intKeyed : Keyed Tryz.prog 3 := int_keyed Tryz.underlying3
theorem intZero (w : World) : (zeroValue 3).run Tryz.prog w = .ok (.int .i64 0) w := by kernel_rfl
theorem MapI.same {w w' : World} {b : Nat} {f : Int → Option Int} (h : MapI w b f) (hb : w'.heap[b]? = w.heap[b]?) : MapI w' b f := by
 obtain ⟨D, ⟨es, clock, h1, h2⟩, h3⟩ := h
 exact ⟨D, ⟨es, clock, hb.trans h1, h2⟩, h3⟩
theorem MapI.lt {w : World} {b : Nat} {f : Int → Option Int} (h : MapI w b f) : b < w.heap.size := by
 obtain ⟨D, h1, _⟩ := h
 exact h1.lt
theorem MapI.upd {w w' : World} {S : List Nat} {b : Nat} {f : Int → Option Int} (h : MapI w b f) (hu : Upd S w w') (hn : b ∉ S) : MapI w' b f := h.same (hu.block b h.lt hn)
theorem MapI.ext {w : World} {b : Nat} {f g : Int → Option Int} (h : MapI w b f) (hg : ∀ k, f k = g k) : MapI w b g := by
 rwa [show f = g from funext hg] at h
theorem key_of_entry {P : Program} {k : TypeId} {R : Value → Option (DataW Unit × List MemPlace)} {es' : Array MapEntry} {clock : Nat} (K : Keyed P k) (F : Go.WideElems.Fit P k R es' clock) {p : Lit × DataW Unit}
  (hp : p ∈ (es'.toList.map (Go.WideElems.rg P k R)).foldr DataW.insert []) : WideAt.IsKeyLit p.1 := by
 have hp2 := (Go.WideShapes.sorted_perm _).mem_iff.1 hp
 obtain ⟨x, hx, rfl⟩ := List.mem_map.1 hp2
 obtain ⟨y, hy⟩ := F.reads x hx
 rw [Go.WideElems.rg_of hy]
 exact K.key (Go.WideElems.rd_key hy)
theorem MapI.small {w : World} {b : Nat} {f : Int → Option Int} {D : DataW Unit} (h1 : w.ownsMap Tryz.prog 3 (plainElem Tryz.prog 3) b (Maps.size D) D)
  (h2 : ∀ kl, Maps.has D kl = true → ∃ k : Int, kl = .int .i64 k ∧ 0 ≤ k ∧ k ≤ 65536 ∧ (f k).isSome = true) : Maps.size D ≤ 65537 := by
 obtain ⟨es, rfl, hp⟩ := h1.tidy intKeyed
 let num : Lit → Int := fun l => match l with | .int _ k => k | _ => 0
 have hk : ∀ p ∈ es, ∃ k : Int, p.1 = .int .i64 k ∧ 0 ≤ k ∧ k ≤ 65536 := fun p hp => by
  have hh : Maps.has (DataW.map es) p.1 = true := by
   rw [has_eq]
   refine List.any_eq_true.2 ⟨p, hp, WideAt.sameKey_self ?_⟩
   obtain ⟨es', clock, _, F, _, he⟩ := h1
   have hes : es = (es'.toList.map (Go.WideElems.rg Tryz.prog 3 (plainElem Tryz.prog 3))).foldr DataW.insert [] := by simpa using he
   rw [hes] at hp
   exact key_of_entry intKeyed F hp
  obtain ⟨k, hk, h3, h4, _⟩ := h2 _ hh
  exact ⟨k, hk, h3, h4⟩
 have := nodup_range 65537 (es.map fun p => num p.1) (by
  unfold List.Nodup
  rw [List.pairwise_map]
  refine (List.Pairwise.imp_of_mem ?_ hp)
  intro a b ha hb hab e
  obtain ⟨k1, e1, _⟩ := hk a ha
  obtain ⟨k2, e2, _⟩ := hk b hb
  rw [e1, e2] at e hab
  exact hab (by rw [show k1 = k2 from e])) (fun x hx => by
  obtain ⟨p, hp, rfl⟩ := List.mem_map.1 hx
  obtain ⟨k, e, h3, h4⟩ := hk p hp
  rw [e]; show 0 ≤ k ∧ k < ((65537 : Nat) : Int); omega)
 simpa [size_eq] using this
theorem keyOfInt {k : Int} (h : -9223372036854775808 ≤ k ∧ k ≤ 9223372036854775807) : keyOf Tryz.prog 3 (.int .i64 k) = some (.int .i64 k) := keyOf_int_mk Tryz.underlying3 (WalkArith.wf_i64 h)
theorem MapI.look {w : World} {b : Nat} {f : Int → Option Int} (h : MapI w b f) (k : Int) (hk : -9223372036854775808 ≤ k ∧ k ≤ 9223372036854775807) :
  (Instr.lookup 232 (.map (some b)) (.int .i64 k) false).run Tryz.prog w = .ok (.int .i64 ((f k).getD 0)) w := by
 obtain ⟨D, h1, h2, h3⟩ := h
 obtain ⟨c, hrun, hat, _⟩ := h1.lookup_int intKeyed Tryz.underlying232 Tryz.underlying3 (intZero w) (keyOfInt hk)
 rw [hrun]
 cases hf : f k with
 | some z =>
  rw [(h3 k z hf).2] at hat
  have : z = c := by simpa using hat
  rw [this]; rfl
 | none =>
  have : Maps.has D (.int .i64 k) = false := by
   cases hh : Maps.has D (.int .i64 k)
   ·rfl
   ·obtain ⟨k', e, _, _, h4⟩ := h2 _ hh
    cases e; rw [hf] at h4; cases h4
  rw [atKey_of_not_has this] at hat
  have : (0 : Int) = c := by simpa using hat
  rw [← this]; rfl
theorem MapI.look_ok {w : World} {b : Nat} {f : Int → Option Int} (h : MapI w b f) (k : Int) (hk : -9223372036854775808 ≤ k ∧ k ≤ 9223372036854775807) :
  (Instr.lookup 232 (.map (some b)) (.int .i64 k) true).run Tryz.prog w = .ok (.tuple #[.int .i64 ((f k).getD 0), .bool (f k).isSome]) w := by
 obtain ⟨D, h1, h2, h3⟩ := h
 obtain ⟨v, ps, hrun, hv⟩ := h1.look_ok intKeyed Tryz.underlying232 (intZero w) (plainElem_int Tryz.underlying3 (a := 0) (by decide)) (keyOfInt hk)
 obtain ⟨c, rfl, hc, _⟩ := plainElem_int_inv Tryz.underlying3 hv
 simp only [Prod.mk.injEq] at hc
 have hat := hc.1
 rw [hrun]
 cases hf : f k with
 | some z =>
  rw [(h3 k z hf).2] at hat
  rw [(h3 k z hf).1]
  have : z = c := by simpa using hat
  rw [this]; rfl
 | none =>
  have : Maps.has D (.int .i64 k) = false := by
   cases hh : Maps.has D (.int .i64 k)
   ·rfl
   ·obtain ⟨k', e, _, _, h4⟩ := h2 _ hh
    cases e; rw [hf] at h4; cases h4
  rw [atKey_of_not_has this] at hat
  rw [this]
  have : (0 : Int) = c := by simpa using hat
  rw [← this]; rfl
theorem mapTurned_upd {w w' : World} {b : Nat} (h : w.mapTurned w' b) : Upd [b] w w' := (Upd.refl [b] w).grown h.grown (fun k hk => Or.inl (by cases hk; simp))
theorem MapI.store {w : World} {b : Nat} {f : Int → Option Int} (h : MapI w b f) (k z : Int) (hk : 0 ≤ k ∧ k ≤ 65536) (hz : -9223372036854775808 ≤ z ∧ z ≤ 9223372036854775807) :
  ∃ w', (Instr.mapUpdate 232 (.map (some b)) (.int .i64 k) (.int .i64 z)).run Tryz.prog w = .ok () w' ∧ MapI w' b (fun q => if q = k then some z else f q) ∧ Upd [b] w w' := by
 obtain ⟨D, h1, h2, h3⟩ := h
 have hs := MapI.small h1 h2
 obtain ⟨w', hrun, ho, ht⟩ := h1.store intKeyed Tryz.underlying232 (by unfold maxLen; omega) (keyOfInt (k := k) (by omega)) (plainElem_int Tryz.underlying3 (a := z) (WalkArith.wf_i64 hz))
 have hD := h1.isMap
 refine ⟨w', hrun, ⟨_, ownsMap_size ho, fun kl hkl => ?_, fun q y hq => ?_⟩, mapTurned_upd ht⟩
 ·by_cases e : kl = .int .i64 k
  ·exact ⟨k, e, hk.1, hk.2, by simp⟩
  ·rw [has_put_other e] at hkl
   obtain ⟨q, rfl, a, b, c⟩ := h2 kl hkl
   refine ⟨q, rfl, a, b, ?_⟩
   show (if q = k then some z else f q).isSome = true
   split
   ·rfl
   ·exact c
 ·by_cases e : q = k
  ·subst e
   simp only [if_true, Option.some.injEq] at hq
   subst hq
   exact ⟨has_put_same hD (show WideAt.IsKeyLit (.int .i64 q) from True.intro) _, fun d => atKey_put_same hD (show WideAt.IsKeyLit (.int .i64 q) from True.intro) _ _⟩
  ·simp only [if_neg e] at hq
   have hne : (Lit.int .i64 q) ≠ .int .i64 k := fun h => e (by cases h; rfl)
   rw [has_put_other hne]
   exact ⟨(h3 q y hq).1, fun d => by rw [atKey_put_other hne]; exact (h3 q y hq).2 d⟩
theorem MapI.drop {w : World} {b : Nat} {f : Int → Option Int} (h : MapI w b f) (k : Int) (hk : -9223372036854775808 ≤ k ∧ k ≤ 9223372036854775807) (ty : TypeId) :
  ∃ w', (Builtin.delete_ #[232, 3] ty #[.map (some b), .int .i64 k]).run Tryz.prog w = .ok (.tuple #[]) w' ∧ MapI w' b (fun q => if q = k then none else f q) ∧ Upd [b] w w' := by
 obtain ⟨D, h1, h2, h3⟩ := h
 obtain ⟨w', hrun, ho, ht⟩ := h1.drop intKeyed Tryz.underlying232 (keyOfInt hk) ty
 refine ⟨w', hrun, ⟨_, ownsMap_size ho, fun kl hkl => ?_, fun q y hq => ?_⟩, mapTurned_upd ht⟩
 ·by_cases e : kl = .int .i64 k
  ·subst e; rw [has_del_same] at hkl; cases hkl
  ·rw [has_del_other e] at hkl
   obtain ⟨q, rfl, a, b, c⟩ := h2 kl hkl
   exact ⟨q, rfl, a, b, by show (if q = k then none else f q).isSome = true; rw [if_neg (fun h => e (by rw [h]))]; exact c⟩
 ·by_cases e : q = k
  ·subst e; simp at hq
  ·simp only [if_neg e] at hq
   have hne : (Lit.int .i64 q) ≠ .int .i64 k := fun h => e (by cases h; rfl)
   rw [has_del_other hne]
   exact ⟨(h3 q y hq).1, fun d => by rw [atKey_del_other hne]; exact (h3 q y hq).2 d⟩
theorem MapI.made (w : World) : MapI (w.alloc (.map #[] 0)) w.heap.size (fun _ => none) :=
 ⟨.map [], World.ownsMap_made w _ _ _, fun kl hkl => by simp [has_eq] at hkl, fun k z hz => by cases hz⟩
theorem wpList_mput {w : World} {ops : Array Oper} {rest : List Oper} {o : Oper} {a : Act} {Q : Exit → Act → World → Prop} (hg : o.guard = none) (m x v : Operand) (hop : o.op = Op.mapUpdate 232 m x v)
  (b : Nat) (f : Int → Option Int) (hm : a.eval m = .map (some b)) (h : MapI w b f) (k z : Int) (hx : a.eval x = .int .i64 k) (hv : a.eval v = .int .i64 z) (hk : 0 ≤ k ∧ k ≤ 65536) (hz : -9223372036854775808 ≤ z ∧ z ≤ 9223372036854775807)
  (hK : ∀ w', MapI w' b (fun q => if q = k then some z else f q) → Upd [b] w w' → wpList Tryz.prog ops Q rest (a.put o.dst undef) w') : wpList Tryz.prog ops Q (o :: rest) a w := by
 refine wpList_plain hg fun K' hK' => ?_
 obtain ⟨w', hrun, r1, r2⟩ := h.store k z hk hz
 unfold Oper.wp
 simp [execOp, hop, hm, hx, hv, hrun, Result.andThen]
 exact hK' _ _ (hK w' r1 r2)
theorem wpList_mdel {w : World} {ops : Array Oper} {rest : List Oper} {o : Oper} {a : Act} {Q : Exit → Act → World → Prop} (hg : o.guard = none) (m x : Operand) (hop : o.op = Op.call { callee := Callee.builtin Builtin.delete, args := #[m, x], argTypes := #[232, 3] })
  (b : Nat) (f : Int → Option Int) (hm : a.eval m = .map (some b)) (h : MapI w b f) (k : Int) (hx : a.eval x = .int .i64 k) (hk : -9223372036854775808 ≤ k ∧ k ≤ 9223372036854775807)
  (hK : ∀ w', MapI w' b (fun q => if q = k then none else f q) → Upd [b] w w' → wpList Tryz.prog ops Q rest (a.put o.dst (.tuple #[])) w') : wpList Tryz.prog ops Q (o :: rest) a w := by
 refine wpList_plain hg fun K' hK' => ?_
 obtain ⟨w', hrun, r1, r2⟩ := h.drop k hk o.type
 unfold Oper.wp
 simp [execOp, hop, resolve, invoke, builtin, hm, hx, hrun, Result.andThen]
 exact hK' _ _ (hK w' r1 r2)
theorem wpList_mlook {w : World} {ops : Array Oper} {rest : List Oper} {o : Oper} {a : Act} {Q : Exit → Act → World → Prop} (hg : o.guard = none) (m x : Operand) (hop : o.op = Op.lookup 232 m x false)
  (b : Nat) (f : Int → Option Int) (hm : a.eval m = .map (some b)) (h : MapI w b f) (k : Int) (hx : a.eval x = .int .i64 k) (hk : -9223372036854775808 ≤ k ∧ k ≤ 9223372036854775807) (z : Int) (hz : (f k).getD 0 = z)
  (hK : wpList Tryz.prog ops Q rest (a.put o.dst (.int .i64 z)) w) : wpList Tryz.prog ops Q (o :: rest) a w := by
 refine wpList_plain hg fun K' hK' => ?_
 have hrun := h.look k hk
 rw [hz] at hrun
 unfold Oper.wp
 simp [execOp, hop, hm, hx, hrun, Result.andThen]
 exact hK' _ _ hK
theorem wpList_mlook_ok {w : World} {ops : Array Oper} {rest : List Oper} {o : Oper} {a : Act} {Q : Exit → Act → World → Prop} (hg : o.guard = none) (m x : Operand) (hop : o.op = Op.lookup 232 m x true)
  (b : Nat) (f : Int → Option Int) (hm : a.eval m = .map (some b)) (h : MapI w b f) (k : Int) (hx : a.eval x = .int .i64 k) (hk : -9223372036854775808 ≤ k ∧ k ≤ 9223372036854775807)
  (hK : wpList Tryz.prog ops Q rest (a.put o.dst (.tuple #[.int .i64 ((f k).getD 0), .bool (f k).isSome])) w) : wpList Tryz.prog ops Q (o :: rest) a w := by
 refine wpList_plain hg fun K' hK' => ?_
 have hrun := h.look_ok k hk
 unfold Oper.wp
 simp [execOp, hop, hm, hx, hrun, Result.andThen]
 exact hK' _ _ hK
end Go.Proofs.YtklibcncmbofpaaGreat
namespace Go.Proofs.YtklibcncmbofpaaGreat
open Go Go.RowKit
def clCell (raw : Nat → Cl) (j : Nat) : Value := if j % 3 = 0 then .int .i64 (raw (j / 3)).i else if j % 3 = 1 then .int .i64 (raw (j / 3)).k else .int .u64 (raw (j / 3)).s
theorem clCell0 (raw : Nat → Cl) (x : Nat) : clCell raw (x * 3) = .int .i64 (raw x).i := by unfold clCell; rw [if_pos (by omega), show x * 3 / 3 = x by omega]
theorem clCell1 (raw : Nat → Cl) (x : Nat) : clCell raw (x * 3 + 1) = .int .i64 (raw x).k := by unfold clCell; rw [if_neg (by omega), if_pos (by omega), show (x * 3 + 1) / 3 = x by omega]
theorem clCell2 (raw : Nat → Cl) (x : Nat) : clCell raw (x * 3 + 2) = .int .u64 (raw x).s := by unfold clCell; rw [if_neg (by omega), if_neg (by omega), show (x * 3 + 2) / 3 = x by omega]
def manyF (A : NS) (h : Int) : Option Int := if 0 < lenN A h then some (lenN A h : Int) else none
theorem manyF_get (A : NS) (h : Int) : (manyF A h).getD 0 = lenN A h := by unfold manyF; split; rfl; simp; omega
structure CM (w : World) (c ca nm mb g cap : Nat) (l : List Int) (rt dp : Nat → Nat) (raw : Nat → Cl) (A : NS) (st : Nat) : Prop where
 head : RowAt w c 245 4 (fun j => [Value.int .i64 (st : Int), .slice (some ⟨ca, 0, none⟩) A.cs.length A.cs.length, .pointer (some ⟨nm, 0, none⟩), .map (some mb)].getD j undef)
 row : RowAt w ca 281 (A.cs.length * 3) (clCell raw)
 nms : NmAt w nm g cap l
 many : MapI w mb (manyF A)
 nok : NmOk l rt dp
 ok : A.Ok
 st62 : st ≤ 4611686018427387904
 rel : ∀ x, x < A.cs.length → (raw x = Cl.z ∧ A.c x = Cl.z) ∨ (1 ≤ (raw x).i ∧ (raw x).i < l.length ∧ A.c x = ⟨rt (raw x).i.toNat, (raw x).k, (raw x).s⟩)
 hlen : A.hs.length = l.length
 has : ∀ i, 1 ≤ i → i < l.length → A.hs.getD i false = decide (l.getD i 0 = i)
 sep : (c ≠ ca ∧ c ≠ nm ∧ c ≠ mb ∧ c ≠ g) ∧ (ca ≠ nm ∧ ca ≠ mb ∧ ca ≠ g) ∧ (nm ≠ mb ∧ mb ≠ g)
theorem CM.upd {w w' : World} {S : List Nat} {c ca nm mb g cap : Nat} {l : List Int} {rt dp : Nat → Nat} {raw : Nat → Cl} {A : NS} {st : Nat} (h : CM w c ca nm mb g cap l rt dp raw A st) (hu : Upd S w w') (hS : ∀ x, x ∈ S → x ∉ [c, ca, nm, mb, g]) : CM w' c ca nm mb g cap l rt dp raw A st :=
 ⟨h.head.upd hu (fun m => hS _ m (by simp)), h.row.upd hu (fun m => hS _ m (by simp)), h.nms.upd hu (fun m => hS _ m (by simp)) (fun m => hS _ m (by simp)), h.many.upd hu (fun m => hS _ m (by simp)), h.nok, h.ok, h.st62, h.rel, h.hlen, h.has, h.sep⟩
def CellsAt (w : World) (c : Nat) (F : List Nat) (A : NS) (st : Nat) : Prop := ∃ ca nm mb g cap l rt dp raw, CM w c ca nm mb g cap l rt dp raw A st ∧ F = [c, ca, nm, mb, g]
theorem CellsAt.upd {w w' : World} {S F : List Nat} {c : Nat} {A : NS} {st : Nat} (h : CellsAt w c F A st) (hu : Upd S w w') (hS : ∀ x, x ∈ S → x ∉ F) : CellsAt w' c F A st := by
 obtain ⟨ca, nm, mb, g, cap, l, rt, dp, raw, h, rfl⟩ := h
 exact ⟨ca, nm, mb, g, cap, l, rt, dp, raw, h.upd hu hS, rfl⟩
theorem CellsAt.upd0 {w w' : World} {F : List Nat} {c : Nat} {A : NS} {st : Nat} (h : CellsAt w c F A st) (hu : Upd [] w w') : CellsAt w' c F A st := h.upd hu (by simp)
theorem CellsAt.ok {w : World} {F : List Nat} {c : Nat} {A : NS} {st : Nat} (h : CellsAt w c F A st) : A.Ok := by
 obtain ⟨ca, nm, mb, g, cap, l, rt, dp, raw, h, rfl⟩ := h
 exact h.ok
theorem CellsAt.st62 {w : World} {F : List Nat} {c : Nat} {A : NS} {st : Nat} (h : CellsAt w c F A st) : st ≤ 4611686018427387904 := by
 obtain ⟨ca, nm, mb, g, cap, l, rt, dp, raw, h, rfl⟩ := h
 exact h.st62
theorem CellsAt.lt {w : World} {F : List Nat} {c : Nat} {A : NS} {st : Nat} (h : CellsAt w c F A st) : ∀ x, x ∈ F → x < w.heap.size := by
 obtain ⟨ca, nm, mb, g, cap, l, rt, dp, raw, h, rfl⟩ := h
 intro x hx
 have := h.head.lt; have := h.row.lt; have := h.nms.lt; have := h.many.lt
 simp at hx
 omega
theorem CellsAt.mem {w : World} {F : List Nat} {c : Nat} {A : NS} {st : Nat} (h : CellsAt w c F A st) : c ∈ F := by
 obtain ⟨ca, nm, mb, g, cap, l, rt, dp, raw, h, rfl⟩ := h
 simp
def Goes (F : List Nat) (w w' : World) (P : List Nat → Prop) : Prop := ∃ F', P F' ∧ Upd F w w' ∧ ∀ x, x ∈ F' → x ∈ F ∨ w.heap.size ≤ x
theorem Goes.stay {F : List Nat} {w w' : World} {P : List Nat → Prop} (h : P F) (hu : Upd F w w') : Goes F w w' P := ⟨F, h, hu, fun x hx => Or.inl hx⟩
section
variable {w : World} {c ca nm mb g cap : Nat} {l : List Int} {rt dp : Nat → Nat} {raw : Nat → Cl} {A : NS} {st : Nat}
theorem CM.c0 (h : CM w c ca nm mb g cap l rt dp raw A st) : w.cell? ⟨c, 0, none⟩ = some (.int .i64 (st : Int)) := h.head.cellAt 0 (by omega) rfl
theorem CM.c1 (h : CM w c ca nm mb g cap l rt dp raw A st) : w.cell? ⟨c, 1, none⟩ = some (.slice (some ⟨ca, 0, none⟩) A.cs.length A.cs.length) := h.head.cellAt 1 (by omega) rfl
theorem CM.c2 (h : CM w c ca nm mb g cap l rt dp raw A st) : w.cell? ⟨c, 2, none⟩ = some (.pointer (some ⟨nm, 0, none⟩)) := h.head.cellAt 2 (by omega) rfl
theorem CM.c3 (h : CM w c ca nm mb g cap l rt dp raw A st) : w.cell? ⟨c, 3, none⟩ = some (.map (some mb)) := h.head.cellAt 3 (by omega) rfl
theorem CM.in_raw (h : CM w c ca nm mb g cap l rt dp raw A st) {x : Nat} (hx : x < A.cs.length) : decide (0 < (A.c x).i) = decide (0 < (raw x).i) := by
 rcases h.rel x hx with ⟨h1, h2⟩ | ⟨h1, h2, h3⟩
 ·rw [h1, h2]
 ·have := h.nok.rt_in (i := (raw x).i.toNat) (by omega) (by omega)
  rw [h3, decide_eq_decide]
  simp only
  omega
theorem CM.hasZ (h : CM w c ca nm mb g cap l rt dp raw A st) (x : Int) : hasZ l x = hasN A x := by
 unfold Go.Proofs.YtklibcncmbofpaaGreat.hasZ hasN
 rw [h.hlen]
 by_cases hx : 0 < x ∧ x < l.length
 ·rw [h.has x.toNat (by omega) (by omega), Bool.eq_iff_iff]
  simp only [Bool.and_eq_true, decide_eq_true_eq, beq_iff_eq]
  constructor
  ·rintro ⟨_, h2⟩; exact ⟨⟨by omega, by omega⟩, by omega⟩
  ·rintro ⟨_, h2⟩; exact ⟨⟨by omega, by omega⟩, by omega⟩
 ·have e1 : (decide (0 < x) && decide (x < (l.length : Int))) = false := by simp; omega
  have e2 : (decide (1 ≤ x) && decide (x < (l.length : Int))) = false := by simp; omega
  rw [e1, e2]; rfl
end
theorem chas_any {w : World} {c st : Nat} {F : List Nat} {A : NS} (h : CellsAt w c F A st) (x : Int) :
  Calls Tryz.prog 139 #[.pointer (some ⟨c, 0, none⟩), .int .i64 x] w fun e w' => e = .returned (.bool (hasN A x)) ∧ w' = w := by
 obtain ⟨ca, nm, mb, g, cap, l, rt, dp, raw, h, rfl⟩ := h
 have c2 := h.c2
 have k := nhas_any nm g cap l x w h.nms h.nok.len2
 rw [h.hasZ] at k
 clear h
 go_enter Tryz.func139, Tryz.ntmps139
 go_wp2_with ((go_at_call 152; (with_reducible refine (k).mono ?_); rintro e w9 ⟨rfl, hw9⟩; rw [hw9]; clear hw9 w9))
 go_ret
 exact ⟨rfl, rfl⟩
theorem clen_any {w : World} {c st : Nat} {F : List Nat} {A : NS} (h : CellsAt w c F A st) (x : Int) (hx : -9223372036854775808 ≤ x ∧ x ≤ 9223372036854775807) :
  Calls Tryz.prog 142 #[.pointer (some ⟨c, 0, none⟩), .int .i64 x] w fun e w' => e = .returned (.int .i64 (lenN A x : Int)) ∧ w' = w := by
 obtain ⟨ca, nm, mb, g, cap, l, rt, dp, raw, h, rfl⟩ := h
 have c3 := h.c3
 have hl := h.many.look x hx
 rw [manyF_get] at hl
 clear h
 go_enter Tryz.func142, Tryz.ntmps142
 go_wp2
 go_ret
 exact ⟨rfl, rfl⟩
theorem cthere_any {w : World} {c st : Nat} {F : List Nat} {A : NS} (h : CellsAt w c F A st) (x : Int) :
  Calls Tryz.prog 160 #[.pointer (some ⟨c, 0, none⟩), .int .i64 x] w fun e w' => e = .returned (.bool (slotN A x)) ∧ w' = w := by
 obtain ⟨ca, nm, mb, g, cap, l, rt, dp, raw, h, rfl⟩ := h
 have c1 := h.c1
 have h1 := h.ok.c1
 clear h
 unfold slotN
 by_cases h0 : 0 ≤ x
 ·go_enter Tryz.func160, Tryz.ntmps160
  go_wp2
  go_ret
  exact ⟨ret_bool (by simp [h0]), rfl⟩
 ·go_enter Tryz.func160, Tryz.ntmps160
  go_wp2
  go_ret
  exact ⟨ret_bool (by simp; omega), rfl⟩
theorem cin_any {w : World} {c st : Nat} {F : List Nat} {A : NS} (h : CellsAt w c F A st) (x : Int) :
  Calls Tryz.prog 149 #[.pointer (some ⟨c, 0, none⟩), .int .i64 x] w fun e w' => e = .returned (.bool (inN A x)) ∧ w' = w := by
 have k := cthere_any h x
 obtain ⟨ca, nm, mb, g, cap, l, rt, dp, raw, h, rfl⟩ := h
 have c1 := h.c1
 have h1 := h.ok.c1
 unfold inN
 cases hs : slotN A x
 ·rw [hs] at k
  clear h
  go_enter Tryz.func149, Tryz.ntmps149
  go_wp2_with ((go_at_call 160; (with_reducible refine (k).mono ?_); rintro e w9 ⟨rfl, hw9⟩; rw [hw9]; clear hw9 w9))
  go_ret
  exact ⟨rfl, rfl⟩
 ·rw [hs] at k
  have hx := (slotN_iff _ _).1 hs
  obtain ⟨i, rfl⟩ : ∃ i : Nat, x = i := ⟨x.toNat, by omega⟩
  have hi : i < A.cs.length := by omega
  have d0 := h.row.cellAt (i * 3) (by omega) (clCell0 raw i)
  simp only [Int.toNat_natCast]
  rw [h.in_raw hi]
  clear h hs
  go_enter Tryz.func149, Tryz.ntmps149
  go_wp2_with ((go_at_call 160; (with_reducible refine (k).mono ?_); rintro e w9 ⟨rfl, hw9⟩; rw [hw9]; clear hw9 w9))
  go_ret
  exact ⟨ret_bool (by simp), rfl⟩
end Go.Proofs.YtklibcncmbofpaaGreat
namespace Go.Proofs.YtklibcncmbofpaaGreat
open Go Go.RowKit
theorem row3 {w : World} {ca m i : Nat} {e : TypeId} {raw : Nat → Cl} (h : RowAt w ca e m (clCell raw)) (cl : Cl) :
  RowAt (((w.setCell ⟨ca, i * 3, none⟩ (.int .i64 cl.i)).setCell ⟨ca, i * 3 + 1, none⟩ (.int .i64 cl.k)).setCell ⟨ca, i * 3 + 2, none⟩ (.int .u64 cl.s)) ca e m (clCell (fun y => if y = i then cl else raw y)) := by
 refine (((h.set _ _).set _ _).set _ _).ext (fun j hj => ?_)
 simp only [clCell]
 by_cases e0 : j = i * 3 + 2
 ·rw [if_pos e0, if_neg (by omega), if_neg (by omega), if_pos (by omega)]
 ·rw [if_neg e0]
  by_cases e1 : j = i * 3 + 1
  ·rw [if_pos e1, if_neg (by omega), if_pos (by omega), if_pos (by omega)]
  ·rw [if_neg e1]
   by_cases e2 : j = i * 3
   ·rw [if_pos e2, if_pos (by omega), if_pos (by omega)]
   ·rw [if_neg e2, if_neg (show ¬ j / 3 = i by omega)]
theorem row2 {w : World} {ca m i : Nat} {e : TypeId} {raw : Nat → Cl} (h : RowAt w ca e m (clCell raw)) (k s : Int) :
  RowAt ((w.setCell ⟨ca, i * 3 + 1, none⟩ (.int .i64 k)).setCell ⟨ca, i * 3 + 2, none⟩ (.int .u64 s)) ca e m (clCell (fun y => if y = i then ⟨(raw i).i, k, s⟩ else raw y)) := by
 refine ((h.set _ _).set _ _).ext (fun j hj => ?_)
 simp only [clCell]
 by_cases e0 : j = i * 3 + 2
 ·rw [if_pos e0, if_neg (by omega), if_neg (by omega), if_pos (by omega)]
 ·rw [if_neg e0]
  by_cases e1 : j = i * 3 + 1
  ·rw [if_pos e1, if_neg (by omega), if_pos (by omega), if_pos (by omega)]
  ·rw [if_neg e1]
   by_cases e2 : j = i * 3
   ·rw [if_pos (by omega), if_pos (by omega), if_pos (by omega), show j / 3 = i by omega]
   ·rw [if_neg (show ¬ j / 3 = i by omega)]
section
variable {w : World} {c ca nm mb g cap : Nat} {l : List Int} {rt dp : Nat → Nat} {raw : Nat → Cl} {A : NS} {st : Nat}
theorem CM.turn (h : CM w c ca nm mb g cap l rt dp raw A st) {w2 : World} {raw' : Nat → Cl} {A' : NS} (hu : Upd [ca, mb] w w2) (hrow : RowAt w2 ca 281 (A.cs.length * 3) (clCell raw')) (hm : MapI w2 mb (manyF A')) (hok : A'.Ok)
  (hlen : A'.cs.length = A.cs.length) (hhs : A'.hs = A.hs) (hrel : ∀ x, x < A.cs.length → (raw' x = Cl.z ∧ A'.c x = Cl.z) ∨ (1 ≤ (raw' x).i ∧ (raw' x).i < l.length ∧ A'.c x = ⟨rt (raw' x).i.toNat, (raw' x).k, (raw' x).s⟩)) :
  CM w2 c ca nm mb g cap l rt dp raw' A' st := by
 have s := h.sep
 refine ⟨?_, by rw [hlen]; exact hrow, h.nms.upd hu (by first | (simp; done) | (simp; omega)) (by first | (simp; done) | (simp; omega)), hm, h.nok, hok, h.st62, by rw [hlen]; exact hrel, by rw [hhs]; exact h.hlen, by rw [hhs]; exact h.has, s⟩
 rw [hlen]; exact h.head.upd hu (by first | (simp; done) | (simp; omega))
theorem CM.rt_has (h : CM w c ca nm mb g cap l rt dp raw A st) {i : Nat} (hi : hasN A i = true) : 1 ≤ i ∧ i < l.length ∧ rt i = i ∧ l.getD i 0 = i := by
 rw [← h.hasZ] at hi
 unfold Go.Proofs.YtklibcncmbofpaaGreat.hasZ at hi
 simp only [Bool.and_eq_true, decide_eq_true_eq, beq_iff_eq, Int.toNat_natCast] at hi
 exact ⟨by omega, by omega, h.nok.top i (by omega) (by omega) hi.2, hi.2⟩
end
def RelC (l : List Int) (rt : Nat → Nat) (cr ca : Cl) : Prop := (cr = Cl.z ∧ ca = Cl.z) ∨ (1 ≤ cr.i ∧ cr.i < l.length ∧ ca = ⟨rt cr.i.toNat, cr.k, cr.s⟩)
theorem rel_with {l : List Int} {rt : Nat → Nat} {raw : Nat → Cl} {A : NS} {x : Nat} {cr ca : Cl} (h : ∀ y, y < A.cs.length → RelC l rt (raw y) (A.c y)) (hx : x < A.cs.length) (hc : RelC l rt cr ca) :
  ∀ y, y < A.cs.length → RelC l rt (if y = x then cr else raw y) ((withN A x ca).c y) := by
 intro y hy
 rw [c_with]
 by_cases e : y = x
 ·simp only [e, hx, and_self, if_true]; exact hc
 ·simp only [e, false_and, if_false]; exact h y hy
theorem manyF_with {A : NS} {x : Nat} {c : Cl} (h : Int) (hx : x < A.cs.length) (hz : (A.c x).i = 0) (hc : 0 < c.i) (q : Int) : (if q = c.i then some ((lenN A c.i : Int) + 1) else manyF A q) = manyF (withN A x c) q := by
 have := lenN_with A x c q hx
 rw [hz] at this
 unfold manyF
 by_cases e : q = c.i
 ·subst e
  rw [if_pos rfl]
  rw [if_neg (by omega), if_pos ⟨rfl, hc⟩] at this
  simp only [Nat.add_zero] at this
  rw [if_pos (by omega), this]; simp
 ·rw [if_neg e]
  rw [if_neg (by omega), if_neg (by omega)] at this
  simp only [Nat.add_zero] at this
  rw [this]
set_option maxHeartbeats 4000000 in
theorem cput_yes {w : World} {c st : Nat} {F : List Nat} {A : NS} (h : CellsAt w c F A st) (hh x : Nat) (k s : Int) (hk : -9223372036854775808 ≤ k ∧ k ≤ 9223372036854775807 ∧ 0 ≤ s ∧ s ≤ 18446744073709551615) (hB : putB A hh x = true) :
  Calls Tryz.prog 154 #[.pointer (some ⟨c, 0, none⟩), .int .i64 (hh : Int), .int .i64 (x : Int), .agg #[.int .i64 k, .int .u64 s]] w fun e w' => e = .returned (.bool true) ∧ CellsAt w' c F (putN A hh x k s) st ∧ Upd F w w' := by
 have k1 := fun W hW => chas_any (h.upd0 (w' := W) hW) hh
 have k2 := fun W hW => cthere_any (h.upd0 (w' := W) hW) x
 have k3 := fun W hW => cin_any (h.upd0 (w' := W) hW) x
 have hu : Upd [] w (w.alloc (.cells #[.int .i64 k, .int .u64 s] 129)) := (Upd.refl _ _).alloc _
 have hp := (putB_iff _ _ _).1 hB
 rw [hp.1] at k1
 rw [hp.2.1] at k2
 rw [hp.2.2] at k3
 have hx := (slotN_iff _ _).1 hp.2.1
 have hh1 := (hasN_iff _ _).1 hp.1
 have hAz : (A.c x).i ≤ 0 := by have := hp.2.2; unfold inN at this; rw [hp.2.1] at this; simpa using this
 have hin : (A.c x).i = 0 := by have := h.ok.nat x (by omega); omega
 have hlen := lenN_le h.ok (hh : Int)
 have hA1 := h.ok.h1
 have hA2 := h.ok.c1
 obtain ⟨ca, nm, mb, g, cap, l, rt, dp, raw, h, rfl⟩ := h
 have c1 := h.c1
 have c3 := h.c3
 have d0 := h.row.cell (x * 3) (by omega)
 have d1 := h.row.cell (x * 3 + 1) (by omega)
 have d2 := h.row.cell (x * 3 + 2) (by omega)
 have f0 := h.row.free (x * 3)
 have f1 := h.row.free (x * 3 + 1)
 have f2 := h.row.free (x * 3 + 2)
 have hlt := CellsAt.lt ⟨ca, nm, mb, g, cap, l, rt, dp, raw, h, rfl⟩
 have l1 := hlt c (by simp)
 have l2 := hlt ca (by simp)
 have l3 := hlt mb (by simp)
 have hs := h.sep
 have H := Lib.hid h
 have HP := Lib.hid hp
 clear h hp hB hlt
 obtain ⟨len, hle⟩ : ∃ n, n = A.cs.length := ⟨_, rfl⟩
 rw [← hle] at c1 hx
 have HL := Lib.hid hle
 clear hle
 have hx2 : x < len := by omega
 go_enter Tryz.func154, Tryz.ntmps154
 go_wp2_with (first | (go_at_call 139; (with_reducible refine ((k1 _ hu)).mono ?_); rintro e w9 ⟨rfl, hw9⟩; rw [hw9]; clear hw9 w9) | (go_at_call 160; (with_reducible refine ((k2 _ hu)).mono ?_); rintro e w9 ⟨rfl, hw9⟩; rw [hw9]; clear hw9 w9) | (go_at_call 149; (with_reducible refine ((k3 _ hu)).mono ?_); rintro e w9 ⟨rfl, hw9⟩; rw [hw9]; clear hw9 w9))
 go_region
 go_wp2_with (first
  | (at_lookup; refine wpList_mlook rfl _ _ rfl mb (manyF A) rfl (H.out.many.upd (S := [ca]) (by (repeat (first | assumption | exact Upd.refl _ _ | refine Upd.alloc ?_ _ | refine Upd.drew ?_ | refine Upd.drewN ?_ _ | refine Upd.setCell ?_ ?_ _ | focus (left; simp; done) | focus (right; simp; done) | focus (right; simp; omega)))) (by first | (simp; done) | (simp; omega))) (hh : Int) rfl (by omega) (lenN A (hh : Int) : Int) (manyF_get _ _) ?_)
  | (at_mapUpdate; refine wpList_mput rfl _ _ _ rfl mb (manyF A) rfl (H.out.many.upd (S := [ca]) (by (repeat (first | assumption | exact Upd.refl _ _ | refine Upd.alloc ?_ _ | refine Upd.drew ?_ | refine Upd.drewN ?_ _ | refine Upd.setCell ?_ ?_ _ | focus (left; simp; done) | focus (right; simp; done) | focus (right; simp; omega)))) (by first | (simp; done) | (simp; omega))) (hh : Int) ((lenN A (hh : Int) : Int) + 1) rfl rfl (by omega) (by omega) ?_; intro w2 hm2 hu2))
 go_ret
 have hu3 : Upd [ca] w ((((w.setCell ⟨ca, x * 3, none⟩ (.int .i64 (hh : Int))).setCell ⟨ca, x * 3 + 1, none⟩ (.int .i64 k)).setCell ⟨ca, x * 3 + 2, none⟩ (.int .u64 s)).alloc (.cells #[.int .i64 k, .int .u64 s] 129)).drew := by (repeat (first | assumption | exact Upd.refl _ _ | refine Upd.alloc ?_ _ | refine Upd.drew ?_ | refine Upd.drewN ?_ _ | refine Upd.setCell ?_ ?_ _ | focus (left; simp; done) | focus (right; simp; done) | focus (right; simp; omega)))
 have hr3 := ((row3 (i := x) H.out.row ⟨(hh : Int), k, s⟩).upd ((Upd.refl [] _).alloc (.cells #[.int .i64 k, .int .u64 s] 129) |>.drew) (by simp)).upd hu2 (by first | (simp; done) | (simp; omega))
 have hu4 : Upd [ca, mb] w w2 := (hu3.mono (by first | (simp; done) | (simp; omega))).joined hu2 (fun y hy => Or.inl (by simp at hy; simp [hy]))
 have hrt := H.out.rt_has HP.out.1
 have hxl : x < A.cs.length := by rw [← HL.out]; exact hx2
 have e : putN A (hh : Int) (x : Int) k s = withN A x ⟨(hh : Int), k, s⟩ := by unfold putN; rw [if_pos ((putB_iff _ _ _).2 HP.out)]; simp
 refine ⟨rfl, ⟨ca, nm, mb, g, cap, l, rt, dp, fun y => if y = x then ⟨(hh : Int), k, s⟩ else raw y, ?_, rfl⟩, hu4.mono (by first | (simp; done) | (simp; omega))⟩
 rw [e]
 refine H.out.turn hu4 hr3 (hm2.ext (fun q => manyF_with (c := ⟨(hh : Int), k, s⟩) (hh : Int) hxl hin (by show 0 < (hh : Int); omega) q)) (by rw [← e]; exact putN_ok H.out.ok _ _ _ _ hk) (len_with _ _ _) rfl (rel_with H.out.rel hxl (Or.inr ⟨by show 1 ≤ (hh : Int); omega, by show (hh : Int) < l.length; omega, by rw [Int.toNat_natCast, hrt.2.2.1]⟩))
theorem centry_no {w : World} {c st : Nat} {F : List Nat} {A : NS} (h : CellsAt w c F A st) (x : Int) (hx : inN A x = false) :
  Calls Tryz.prog 137 #[.pointer (some ⟨c, 0, none⟩), .int .i64 x] w fun e w' => e = .returned (.tuple #[.agg #[.int .i64 0, .int .u64 0], .bool false]) ∧ Upd [] w w' := by
 have hu : Upd [] w (w.alloc (.cells #[.int .i64 0, .int .u64 0] 129)) := (Upd.refl _ _).alloc _
 have k := cin_any (h.upd0 hu) x
 rw [hx] at k
 clear h hx
 go_enter Tryz.func137, Tryz.ntmps137
 go_wp2_with ((go_at_call 149; (with_reducible refine (k).mono ?_); rintro e w9 ⟨rfl, hw9⟩; rw [hw9]; clear hw9 w9))
 exact bodyPost_ret (v := .tuple #[.agg #[.int .i64 0, .int .u64 0], .bool false]) (by simp [results, Tryz.results137, go_sem]) rfl ⟨rfl, by (repeat (first | assumption | exact Upd.refl _ _ | refine Upd.alloc ?_ _ | refine Upd.drew ?_ | refine Upd.drewN ?_ _ | refine Upd.setCell ?_ (Or.inr (by first | (simp; done) | (simp; omega))) _ | (apply Upd.trans; rotate_left; assumption)))⟩
theorem centry_yes {w : World} {c st : Nat} {F : List Nat} {A : NS} (h : CellsAt w c F A st) (x : Nat) (hx : inN A x = true) :
  Calls Tryz.prog 137 #[.pointer (some ⟨c, 0, none⟩), .int .i64 (x : Int)] w fun e w' => e = .returned (.tuple #[.agg #[.int .i64 (A.c x).k, .int .u64 (A.c x).s], .bool true]) ∧ Upd [] w w' := by
 have hu : Upd [] w (w.alloc (.cells #[.int .i64 0, .int .u64 0] 129)) := (Upd.refl _ _).alloc _
 have k := cin_any (h.upd0 hu) x
 rw [hx] at k
 obtain ⟨hx1, hx2⟩ := (inN_nat _ _).1 hx
 obtain ⟨ca, nm, mb, g, cap, l, rt, dp, raw, h, rfl⟩ := h
 have e : A.c x = ⟨rt (raw x).i.toNat, (raw x).k, (raw x).s⟩ := by
  rcases h.rel x hx1 with ⟨h1, h2⟩ | ⟨h1, h2, h3⟩
  ·rw [h2] at hx2; exact absurd hx2 (by decide)
  ·exact h3
 rw [e]
 have c1 := h.c1
 have d1 := h.row.cellAt (x * 3 + 1) (by omega) (clCell1 raw x)
 have d2 := h.row.cellAt (x * 3 + 2) (by omega) (clCell2 raw x)
 have hA := h.ok.c1
 have l1 := h.head.lt
 have l2 := h.row.lt
 clear h hx hx2 e
 go_enter Tryz.func137, Tryz.ntmps137
 go_wp2_with ((go_at_call 149; (with_reducible refine (k).mono ?_); rintro e w9 ⟨rfl, hw9⟩; rw [hw9]; clear hw9 w9))
 exact bodyPost_ret (v := .tuple #[.agg #[.int .i64 (raw x).k, .int .u64 (raw x).s], .bool true]) (by simp [results, Tryz.results137, go_sem]) rfl ⟨rfl, by (repeat (first | assumption | exact Upd.refl _ _ | refine Upd.alloc ?_ _ | refine Upd.drew ?_ | refine Upd.drewN ?_ _ | refine Upd.setCell ?_ (Or.inr (by first | (simp; done) | (simp; omega))) _ | (apply Upd.trans; rotate_left; assumption)))⟩
theorem CM.reroot {w : World} {c ca nm mb g cap : Nat} {l l' : List Int} {rt dp : Nat → Nat} {raw : Nat → Cl} {A : NS} {st : Nat} (h : CM w c ca nm mb g cap l rt dp raw A st) {w' : World} (hN : NmAt w' nm g cap l') (ok : NmOk l' rt dp) (hl : l'.length = l.length) (hu : Upd [g] w w') :
  CM w' c ca nm mb g cap l' rt dp raw A st := by
 have s := h.sep
 refine ⟨h.head.upd hu (by first | (simp; done) | (simp; omega)), h.row.upd hu (by first | (simp; done) | (simp; omega)), hN, h.many.upd hu (by first | (simp; done) | (simp; omega)), ok, h.ok, h.st62, by rw [hl]; exact h.rel, by rw [hl]; exact h.hlen, fun i h1 h2 => ?_, s⟩
 rw [hl] at h2
 rw [h.has i h1 h2, decide_eq_decide, h.nok.is_top h1 h2, ok.is_top h1 (by rw [hl]; exact h2)]
set_option maxHeartbeats 2000000 in
theorem chome_yes {w : World} {c st : Nat} {F : List Nat} {A : NS} (h : CellsAt w c F A st) (x : Nat) (hx : inN A x = true) :
  Calls Tryz.prog 140 #[.pointer (some ⟨c, 0, none⟩), .int .i64 (x : Int)] w fun e w' => e = .returned (.tuple #[.int .i64 (A.c x).i, .bool true]) ∧ CellsAt w' c F A st ∧ Upd F w w' := by
 have k := cin_any h x
 rw [hx] at k
 obtain ⟨hx1, hx2⟩ := (inN_nat _ _).1 hx
 obtain ⟨ca, nm, mb, g, cap, l, rt, dp, raw, h, rfl⟩ := h
 have e : 1 ≤ (raw x).i ∧ (raw x).i < l.length ∧ A.c x = ⟨rt (raw x).i.toNat, (raw x).k, (raw x).s⟩ := by
  rcases h.rel x hx1 with ⟨h1, h2⟩ | h3
  ·rw [h2] at hx2; exact absurd hx2 (by decide)
  ·exact h3
 obtain ⟨r, hr⟩ : ∃ r : Nat, (raw x).i = r := ⟨(raw x).i.toNat, by omega⟩
 rw [e.2.2, hr, Int.toNat_natCast]
 have c1 := h.c1
 have c2 := h.c2
 have d0 := h.row.cellAt (x * 3) (by omega) (clCell0 raw x)
 rw [hr] at d0 e
 have hA := h.ok.c1
 have hs := h.sep
 have H := Lib.hid h
 have hr1 : 1 ≤ r := by omega
 have hr2 : r < l.length := by omega
 clear h hx hx2 e hr
 go_enter Tryz.func140, Tryz.ntmps140
 go_wp2_with ((go_at_call 149; (with_reducible refine (k).mono ?_); rintro e w9 ⟨rfl, hw9⟩; rw [hw9]; clear hw9 w9))
 have r1 : ∀ W, Upd [g] w W → W.cell? ⟨c, 1, none⟩ = some (.slice (some ⟨ca, 0, none⟩) A.cs.length A.cs.length) := fun W hW => by rw [hW.cell H.out.head.lt (by first | (simp; done) | (simp; omega))]; exact c1
 have r2 : ∀ W, Upd [g] w W → W.cell? ⟨c, 2, none⟩ = some (.pointer (some ⟨nm, 0, none⟩)) := fun W hW => by rw [hW.cell H.out.head.lt (by first | (simp; done) | (simp; omega))]; exact c2
 have r3 : ∀ W, Upd [g] w W → W.cell? ⟨ca, x * 3, none⟩ = some (.int .i64 (r : Int)) := fun W hW => by rw [hW.cell H.out.row.lt (by first | (simp; done) | (simp; omega))]; exact d0
 go_region_held3 (Upd [g] w) (repeat (first | assumption | exact Upd.refl _ _ | refine Upd.drew ?_ | refine Upd.alloc ?_ _ | (apply Upd.trans; rotate_left; assumption)))
  ((go_at_call 153; (with_reducible refine (nroot_yes nm g cap l rt dp r _ (H.out.nms.upd (S := []) (by (repeat (first | assumption | exact Upd.refl _ _ | refine Upd.alloc ?_ _ | refine Upd.drew ?_ | refine Upd.drewN ?_ _ | refine Upd.setCell ?_ ?_ _ | focus (left; simp; done) | focus (right; simp; done) | focus (right; simp; omega)))) (by simp) (by simp)) H.out.nok hr1 hr2).mono ?_); rintro e w1 ⟨l', rfl, hN, hok, hlen, hu⟩; have hu' : Upd [g] w w1 := (by first | exact hu | exact ((Upd.refl [g] w).drew.trans hu) | exact ((Upd.refl [g] w).drewN _ |>.trans hu))))
 go_wp2
 go_ret2
 exact ⟨rfl, ⟨ca, nm, mb, g, cap, l', rt, dp, raw, H.out.reroot hN hok hlen hu', rfl⟩, hu'.mono (by first | (simp; done) | (simp; omega))⟩
end Go.Proofs.YtklibcncmbofpaaGreat
