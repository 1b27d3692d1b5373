/-
  Lemmas for PathWays: Pq8, MapH, SameW, SameSl, Edg, Idx, Grf. Conditions: those of each lemma.
-/
import Derived.Deep.RegionHeld3
import Derived.WalkKit
import Derived.WalkSpells
import Derived.WalkLawsBesides
import Derived.BigQuiet
import Derived.ProofKit
import Derived.OpenShut
import Derived.Lib.Hide
import Derived.Test.YtklibcncmbofpaaGreatProg
import Derived.Maps.AppendAt
import Derived.StillTailTactics
import Derived.Maps.OwnSet
import Derived.Maps.OwnOps
import Derived.Maps.RangeWalk
import Derived.Deep.RegionLaw
import Derived.Deep.DeepCutAuto
import Derived.DeepKeys4
import Derived.Deep.Slices
import Derived.Deep.Strs
import Derived.Lib.Mul64
import Derived.Laws.Bits64b
import Derived.IntWalk
import Derived.Test.YtklibcncmbofpaaGreatP01
import Derived.Test.YtklibcncmbofpaaGreatP03
import Derived.Test.YtklibcncmbofpaaGreatP04
import Derived.Test.YtklibcncmbofpaaGreatP05
import Derived.Test.YtklibcncmbofpaaGreatP06
import Derived.Test.YtklibcncmbofpaaGreatP07
import Derived.Test.YtklibcncmbofpaaGreatP08
import Derived.Test.YtklibcncmbofpaaGreatP09
import Derived.Test.YtklibcncmbofpaaGreatP10
import Derived.Test.YtklibcncmbofpaaGreatP11
set_option linter.unusedVariables false
set_option linter.unusedSimpArgs false
namespace Go.Proofs.YtklibcncmbofpaaGreat
open Go Go.RowKit
section
variable {K : NestQ} {w : World} {p : Nat} {F : List Nat} {kd d : Int} {R : AR} {A : NS} {q : Nat}
theorem low_same {A : NS} {x : Nat} {k s : Int} (y : Nat) : inN (lowN A (x : Int) k s) (y : Int) = inN A (y : Int) := by
 by_cases hB : lowB A (x : Int) k s = true
 ·have hin := low_in hB
  have hx := (inN_nat _ _).1 hin
  have hi := low_i hB hx.1 y
  have hl := low_len A (x : Int) k s
  have e : inN (lowN A (x : Int) k s) (y : Int) = true ↔ inN A (y : Int) = true := by rw [inN_nat, inN_nat, hl, hi]
  cases h1 : inN (lowN A (x : Int) k s) (y : Int) <;> cases h2 : inN A (y : Int) <;> simp_all
 ·unfold lowN; rw [if_neg hB]
theorem low_yes {A : NS} {x : Nat} {k : Int} (hin : inN A (x : Int) = true) (hk : k ≤ (A.c x).k) : lowB A (x : Int) k (A.c x).s = true := by
 unfold lowB lessE
 rw [hin, show ((x : Nat) : Int).toNat = x by omega]
 split
 ·simp
 ·simp; omega
set_option maxHeartbeats 4000000 in
set_option maxRecDepth 10000 in
theorem pdec_yes (h : PqAt K w p F kd d R A q) (x : Nat) (k : Int) (hv : R.v x = true) (hk : k ≤ (A.c x).k) (hkb : -9223372036854775808 ≤ k) :
  Calls Tryz.prog 76 #[.pointer (some ⟨p, 0, none⟩), .agg #[.int .i64 (x : Int), .int .u32 (R.g x : Int)], .int .i64 k] w fun e w' => e = .returned (.int .i64 0) ∧ Goes F w w' (fun F' => PqAt K w' p F' kd d R (lowN A (x : Int) k (A.c x).s) q) := by
 have hin : inN A (x : Int) = true := by rw [← h.ok.2.2.2]; exact hv
 have hxn := (inN_nat _ _).1 hin
 have hsn := h.ok.1.c1
 have hkey := h.ok.1.key x
 have hac : -9223372036854775808 ≤ k ∧ k ≤ 9223372036854775807 ∧ 0 ≤ (A.c x).s ∧ (A.c x).s ≤ 18446744073709551615 := by omega
 have ke := fun W (hW : Upd [] w W) => pentry_yes (h.upd0 hW) x hv
 have hlow := low_yes hin hk
 have HL := Lib.hid (And.intro hlow (fun y => low_same (A := A) (x := x) (k := k) (s := (A.c x).s) y))
 have hlF := h.lt
 obtain ⟨pa, pn, Fa, Fn, rfl, h⟩ := h
 have c3 := h.c3
 have HH := Lib.hid (And.intro h hac)
 have hgt : decide (k > (A.c x).k) = false := by simp; omega
 have hgt2 : ¬ k > (A.c x).k := by omega
 clear h hv hin hac hlow hkey
 generalize hkk : (A.c x).k = kk at *
 generalize hss : (A.c x).s = ss at *
 generalize R.g x = gx at *
 clear hkk hss hk
 go_enter Tryz.func76, Tryz.ntmps76
 go_upto_region 6 with (first
  | ((go_at_call 69; (with_reducible refine (ke _ (by (repeat (first | assumption | exact Upd.refl _ _ | refine Upd.alloc ?_ _ | refine Upd.drew ?_ | refine Upd.drewN ?_ _ | refine Upd.setCell ?_ ?_ _ | focus (left; simp; done) | focus (right; simp; done) | focus (right; simp; omega))))).mono ?_)); rintro e w1 ⟨rfl, hu1⟩; (have x0 : w1.cell? ⟨w.heap.size, 0, none⟩ = some (.int .i64 (x : Int)) := hu1.was (by go_simp)); (have hw1 : Upd [] w w1 := Upd.trans (by (repeat (first | assumption | exact Upd.refl _ _ | refine Upd.alloc ?_ _ | refine Upd.drew ?_ | refine Upd.drewN ?_ _ | refine Upd.setCell ?_ ?_ _ | focus (left; simp; done) | focus (right; simp; done) | focus (right; simp; omega)))) hu1))
  | fail)
 have hxl := World.block_lt_of_cell? w1 _ x0
 refine wp_nm (fun W => W.cell? ⟨w.heap.size, 0, none⟩ = some (.int .i64 (x : Int)) ∧ W.cell? ⟨w1.heap.size, 1, none⟩ = some (.int .u64 ss) ∧ Upd [] w W) ⟨by go_simp, by go_simp, by have := hw1; (repeat (first | assumption | exact Upd.refl _ _ | refine Upd.alloc ?_ _ | refine Upd.drew ?_ | refine Upd.drewN ?_ _ | refine Upd.setCell ?_ ?_ _ | focus (left; simp; done) | focus (right; simp; done) | focus (right; simp; omega)))⟩ ?_
 rintro W ⟨y0, y1, hW⟩
 have z3 := hW.was c3
 have hN := K.upd HH.out.1.nest hW (by simp)
 obtain ⟨f, fv, hen, hfv⟩ := K.decrease x k ss HH.out.2 HL.out.1 hN
 unfold Enters at hen
 have hm := (hfv W.drew ((Upd.refl _ _).drew)).1
 have hc := (hfv W.drew ((Upd.refl _ _).drew)).2
 have HZ := Lib.hid hW
 clear hW hN hfv x0 hw1 hu1 hxl ke c3
 go_region_law
  (first
   | (go_simp; (with_reducible refine (hc).mono ?_); rintro e w5 ⟨rfl, F5, hA5, hu5, hF5⟩))
 all_goals
  go_wp2
  go_ret
  have hPW := HH.out.1.upd HZ.out (by simp)
  have hu5' : Upd Fn W w5 := ((Upd.refl Fn W).drew).trans hu5
  refine ⟨rfl, Goes.after ?_ HZ.out⟩
  refine ⟨p :: (Fa ++ F5), ⟨pa, pn, Fa, F5, rfl, hPW.nestG hA5 hu5' hF5 (low_len _ _ _ _) (hPW.ar.upd hu5' (fun z hz hm => hPW.s3 z hm hz)) rfl (fun y => by rw [HL.out.2]; exact hPW.link y)⟩, hu5'.mono (fun z hz => by simp [hz]), fun z hz => ?_⟩
  simp only [List.mem_cons, List.mem_append] at hz ⊢
  rcases hz with hz | hz | hz
  ·exact Or.inl (Or.inl hz)
  ·exact Or.inl (Or.inr (Or.inl hz))
  ·rcases hF5 z hz with e | e
   ·exact Or.inl (Or.inr (Or.inr e))
   ·exact Or.inr e
end
end Go.Proofs.YtklibcncmbofpaaGreat
namespace Go.Proofs.YtklibcncmbofpaaGreat
open Go Go.RowKit Go.Maps
theorem laidH : laidOutB Tryz.prog = true := by kernel_rfl
theorem hKeyed : Keyed Tryz.prog 85 := Keyed.of_law (Go.deep_law_laid laidH (m := 3) (by omega) (of_decide_eq_true (by kernel_rfl)) (by kernel_rfl) (by rw [Tryz.underlying85]))
def hV (x g : Int) : Value := .agg #[.int .i64 x, .int .u32 g]
theorem hKey {x g : Int} (hx : -9223372036854775808 ≤ x ∧ x ≤ 9223372036854775807) (hg : 0 ≤ g ∧ g ≤ 4294967295) : ∃ l, keyOf Tryz.prog 85 (hV x g) = some l := by
 have h1 : Tryz.prog.keyType 85 = true := by kernel_rfl
 have h2 : (hV x g).formed Tryz.prog 85 = true := by
  unfold hV Value.formed
  simp only [Tryz.underlying85]
  rw [show Tryz.prog.cellsOf 85 = 2 by kernel_rfl]
  rfl
 have c0 : Tryz.prog.cellsOf 3 = 1 := by kernel_rfl
 have c1 : Tryz.prog.cellsOf 83 = 1 := by kernel_rfl
 have c2 : Tryz.prog.cellsOf 85 = 2 := by kernel_rfl
 have w0 : (Lit.int .i64 x).wf = true := WalkArith.wf_i64 hx
 have w1 : (Lit.int .u32 g).wf = true := by simp [Lit.wf, IntKind.min, IntKind.max, IntKind.signed, IntKind.bits]; omega
 have key : ∀ n, Tryz.prog.keyLits (n + 1 + 1) 85 [.int .i64 x, .int .u32 g] = some [.int .i64 x, .int .u32 g] := fun n => by
  simp [Program.keyLits, Tryz.underlying85, Tryz.underlying3, Tryz.underlying83, c0, c1, c2, w0, w1]
 have hpos : 0 < Tryz.prog.types.size := of_decide_eq_true (by kernel_rfl)
 obtain ⟨n, hn⟩ : ∃ n, Tryz.prog.types.size + 1 = n + 1 + 1 := ⟨Tryz.prog.types.size - 1, by omega⟩
 refine ⟨.string (keyBytes [.int .i64 x, .int .u32 g]), ?_⟩
 unfold keyOf
 rw [Tryz.underlying85]
 simp only []
 rw [if_pos (by rw [h1, h2]; rfl), hn, show (hV x g).cells.toList = [.int .i64 x, .int .u32 g] from rfl, key]
 rfl
theorem hV_inj {x g x' g' : Int} (h : hV x g = hV x' g') : x = x' ∧ g = g' := by
 unfold hV at h
 simp only [Value.agg.injEq] at h
 have h2 := congrArg Array.toList h
 simp at h2
 exact h2
def MapH (w : World) (b c : Nat) (f : Int → Int → Option Int) : Prop :=
 ∃ D : DataW Unit, w.ownsMap Tryz.prog 85 (plainElem Tryz.prog 3) b c D ∧ ∀ x g z kl, f x g = some z → keyOf Tryz.prog 85 (hV x g) = some kl → ∀ d, D.atKey kl d = .lit (.int .i64 z)
theorem MapH.upd {w w' : World} {S : List Nat} {b c : Nat} {f : Int → Int → Option Int} (h : MapH w b c f) (hu : Upd S w w') (hn : b ∉ S) : MapH w' b c f := by
 obtain ⟨D, h1, h3⟩ := h
 have hl := h1.lt
 obtain ⟨es, clock, h1, h2⟩ := h1
 exact ⟨D, ⟨es, clock, (hu.block b hl hn).trans h1, h2⟩, h3⟩
theorem MapH.lt {w : World} {b c : Nat} {f : Int → Int → Option Int} (h : MapH w b c f) : b < w.heap.size := by
 obtain ⟨D, h1, _⟩ := h
 exact h1.lt
theorem MapH.made (w : World) : MapH (w.alloc (.map #[] 0)) w.heap.size 0 (fun _ _ => none) :=
 ⟨.map [], World.ownsMap_made w _ _ _, fun x g z kl hz => by cases hz⟩
theorem MapH.look {w : World} {b c : Nat} {f : Int → Int → Option Int} (h : MapH w b c f) {x g z : Int} (hz : f x g = some z) (hx : -9223372036854775808 ≤ x ∧ x ≤ 9223372036854775807) (hg : 0 ≤ g ∧ g ≤ 4294967295) :
  (Instr.lookup 82 (.map (some b)) (hV x g) false).run Tryz.prog w = .ok (.int .i64 z) w := by
 obtain ⟨D, h1, h3⟩ := h
 obtain ⟨kl, hk⟩ := hKey hx hg
 obtain ⟨c', hrun, hat, _⟩ := h1.lookup_int hKeyed Tryz.underlying82 Tryz.underlying3 (intZero w) hk
 rw [hrun]
 rw [h3 x g z kl hz hk] at hat
 have : z = c' := by simpa using hat
 rw [this]
theorem MapH.store {w : World} {b c : Nat} {f : Int → Int → Option Int} (h : MapH w b c f) (hc : c < 9223372036854775807) (x g z : Int) (hx : -9223372036854775808 ≤ x ∧ x ≤ 9223372036854775807) (hg : 0 ≤ g ∧ g ≤ 4294967295) (hz : -9223372036854775808 ≤ z ∧ z ≤ 9223372036854775807) :
  ∃ w', (Instr.mapUpdate 82 (.map (some b)) (hV x g) (.int .i64 z)).run Tryz.prog w = .ok () w' ∧ MapH w' b (c + 1) (fun y e => if y = x ∧ e = g then some z else f y e) ∧ Upd [b] w w' := by
 obtain ⟨D, h1, h3⟩ := h
 obtain ⟨kl, hk⟩ := hKey hx hg
 obtain ⟨w', hrun, ho, ht⟩ := h1.store hKeyed Tryz.underlying82 (by unfold maxLen; omega) hk (plainElem_int Tryz.underlying3 (a := z) (WalkArith.wf_i64 hz))
 have hD := h1.isMap
 refine ⟨w', hrun, ⟨_, ho, fun y e u kl2 hf hk2 d => ?_⟩, mapTurned_upd ht⟩
 replace hf : (if y = x ∧ e = g then some z else f y e) = some u := hf
 by_cases e1 : y = x ∧ e = g
 ·rw [if_pos e1] at hf
  obtain ⟨rfl, rfl⟩ := e1
  rw [hk] at hk2
  cases hk2
  cases hf
  exact atKey_put_same hD (hKeyed.key hk) _ _
 ·rw [if_neg e1] at hf
  have hne : kl2 ≠ kl := fun e2 => e1 (hV_inj (hKeyed.inj (by rw [hk2, e2]) hk))
  rw [atKey_put_other hne]
  exact h3 y e u kl2 hf hk2 d
end Go.Proofs.YtklibcncmbofpaaGreat
namespace Go.Proofs.YtklibcncmbofpaaGreat
theorem same_len_ne {a b : List Int} (h : a.length ≠ b.length) : a ≠ b := fun e => h (by rw [e])
theorem same_at {a b : List Int} (hl : a.length = b.length) (h : ∀ k, k < a.length → a.getD k 0 = b.getD k 0) : a = b := by
 apply List.ext_getElem hl
 intro i h1 h2
 have := h i h1
 simpa [List.getD_eq_getElem?_getD, h1, h2] using this
end Go.Proofs.YtklibcncmbofpaaGreat
namespace Go.Proofs.YtklibcncmbofpaaGreat
open Go Go.RowKit
set_option maxHeartbeats 1000000 in
theorem same_sl (w : World) (F1 F2 : List Nat) (va vb : Value) (za zb : List Int) (ha : SlI w F1 va za) (hb : SlI w F2 vb zb) :
  Calls Tryz.prog 20 #[va, vb] w fun e w' => e = .returned (.bool (decide (za = zb))) ∧ ∃ k, w' = w.drewN k := by
 obtain ⟨a, ca, rfl, hla, hca, hpa⟩ := ha
 obtain ⟨b, cb, rfl, hlb, hcb, hpb⟩ := hb
 have HA := Lib.hid hpa
 have HB := Lib.hid hpb
 clear hpa hpb
 by_cases hl : za.length = zb.length
 ·have hl' : ((za.length : Int) != (zb.length : Int)) = false := by rw [hl]; simp
  generalize hlen : za.length = len at *
  have HLEN := Lib.hid (And.intro hlen hl)
  have hll : zb.length = len := hl.symm
  rw [hll] at *
  clear hl hll hlen hl'
  go_enter Tryz.func20, Tryz.ntmps20
  go_wp2
  go_loopw [13] (fun i wr => ∃ k : Nat, k ≤ len ∧ i = .int .i64 (k : Int) ∧ (∀ j, j < k → za.getD j 0 = zb.getD j 0) ∧ ∃ d, wr = w.drewN d) (fun i _ => len - (intOf i).toNat)
  case atStart => exact ⟨0, by omega, rfl, fun j hj => by omega, 0, rfl⟩
  case round =>
   obtain ⟨k, hk, rfl, he, d, rfl⟩ := hrel
   have HE := Lib.hid he
   clear he
   by_cases hlt : k < len
   ·obtain ⟨ga, oa, rfl, _, _, c1⟩ := HA.out k (za.getD k 0) (by simp [List.getD_eq_getElem?_getD, HLEN.out.1, hlt])
    obtain ⟨gb, ob, rfl, _, _, c2⟩ := HB.out k (zb.getD k 0) (by simp [List.getD_eq_getElem?_getD, ← HLEN.out.2, hlt])
    have HP : Hid (∀ j, j < k + 1 → za.getD k 0 = zb.getD k 0 → za.getD j 0 = zb.getD j 0) := fun j hj e => by
     rcases (by omega : j < k ∨ j = k) with h | h
     ·exact HE.out j h
     ·rw [h]; exact e
    have HN : Hid (za.getD k 0 ≠ zb.getD k 0 → ¬ za = zb) := fun e1 e2 => e1 (by rw [e2])
    generalize za.getD k 0 = x1 at *
    generalize zb.getD k 0 = x2 at *
    by_cases hxx : x1 = x2
    ·have b1 : (x1 != x2) = false := by simpa using hxx
     have HXX := Lib.hid hxx
     clear hxx
     go_wp2
     go_quiet (fail)
     go_wp2
     go_roundw
     case rel => exact ⟨k + 1, by omega, by go_num, fun j hj => HP.out j hj HXX.out, _, rfl⟩
     case measure => simp [intOf]; omega
    ·have b1 : (x1 != x2) = true := by simpa using hxx
     have HXX := Lib.hid (HN.out hxx)
     clear hxx
     go_wp2
     go_quiet (fail)
     go_wp2
     go_ret
     exact ⟨ret_bool (by simp [HXX.out]), _, by rw [World.drewN_drewN]⟩
   ·obtain rfl : k = len := by omega
    have HE2 := Lib.hid (same_at (by rw [HLEN.out.1, HLEN.out.2]) (fun j hj => HE.out j (by rw [← HLEN.out.1]; exact hj)))
    go_wp2
    go_ret
    exact ⟨ret_bool (by simp [HE2.out]), _, rfl⟩
 ·have hl' : ((za.length : Int) != (zb.length : Int)) = true := by simp; omega
  have hne := Lib.hid (same_len_ne hl)
  clear hl
  go_enter Tryz.func20, Tryz.ntmps20
  go_wp2
  go_ret
  exact ⟨ret_bool (by simp [hne.out]), 0, rfl⟩
theorem same_yes (w : World) (F1 F2 : List Nat) (va vb : Value) (z : List Int) (ha : SlI w F1 va z) (hb : SlI w F2 vb z) :
  Calls Tryz.prog 20 #[va, vb] w fun e w' => e = .returned (.bool true) ∧ ∃ k, w' = w.drewN k :=
 (same_sl w F1 F2 va vb z z ha hb).mono fun e w' ⟨he, h⟩ => ⟨by rw [he, decide_eq_true rfl], h⟩
end Go.Proofs.YtklibcncmbofpaaGreat
namespace Go.Proofs.YtklibcncmbofpaaGreat
open Go Go.RowKit
structure Ed where
 f : Int
 t : Int
 w : Int
instance : Inhabited Ed := ⟨⟨0, 0, 0⟩⟩
def Ed.val (e : Ed) : Value := .agg #[.int .i64 e.f, .int .i64 e.t, .int .i64 e.w]
def SlE (w : World) (v : Value) (E : List Ed) : Prop :=
 ∃ a cap, v = .slice a E.length cap ∧ cap ≤ 9223372036854775807 ∧ E.length ≤ 9223372036854775807 ∧ ∀ j e, E[j]? = some e → ∃ g off, a = some ⟨g, off, none⟩ ∧ g < w.heap.size ∧
  w.cell? ⟨g, off + j * 3, none⟩ = some (.int .i64 e.f) ∧ w.cell? ⟨g, off + j * 3 + 1, none⟩ = some (.int .i64 e.t) ∧ w.cell? ⟨g, off + j * 3 + 2, none⟩ = some (.int .i64 e.w)
theorem SlE.upd {w w' : World} {v : Value} {E : List Ed} (h : SlE w v E) (hu : Upd [] w w') : SlE w' v E := by
 obtain ⟨a, cap, rfl, h1, h1', h2⟩ := h
 refine ⟨a, cap, rfl, h1, h1', fun j e hj => ?_⟩
 obtain ⟨g, off, rfl, hg, h3, h4, h5⟩ := h2 j e hj
 exact ⟨g, off, rfl, Nat.lt_of_lt_of_le hg hu.size, hu.was h3, hu.was h4, hu.was h5⟩
theorem SlE.shape {w : World} {v : Value} {E : List Ed} (h : SlE w v E) : ∃ a cap, v = .slice a E.length cap ∧ cap ≤ 9223372036854775807 := by
 obtain ⟨a, cap, rfl, h1, _⟩ := h; exact ⟨a, cap, rfl, h1⟩
theorem SlE.at {w : World} {a : Option Addr} {n c : Nat} {E : List Ed} (h : SlE w (.slice a n c) E) (j : Nat) (hj : j < E.length) : ∃ g off, a = some ⟨g, off, none⟩ ∧ g < w.heap.size ∧
  w.cell? ⟨g, off + j * 3, none⟩ = some (.int .i64 (E.getD j default).f) ∧ w.cell? ⟨g, off + j * 3 + 1, none⟩ = some (.int .i64 (E.getD j default).t) ∧ w.cell? ⟨g, off + j * 3 + 2, none⟩ = some (.int .i64 (E.getD j default).w) := by
 obtain ⟨a', cap, he, h1, h1', h2⟩ := h
 cases he
 exact h2 j _ (by simp [List.getD_eq_getElem?_getD, hj])
set_option maxRecDepth 100000 in
open Go.ChangeShapes Go.ChangeAt Go.WideShapes in
theorem sle_of_cell {H : Type} {enc : TypeId × Value → H} {W : World} {v : Value} {y : DataW H × List MemPlace} {m : Nat} {base : Nat} {sp : Nat → Bool}
  (hf : DataW.trod enc Tryz.prog W base sp true m 55 [v] = some y) : ∃ E, SlE W v E ∧ ∀ e, e ∈ E → -9223372036854775808 ≤ e.w ∧ e.w ≤ 9223372036854775807 := by
 rcases Go.Deep.open_slice Tryz.underlying55 hf with ⟨hcs, _⟩ | ⟨y, l, c, m, n, D, Pl, hcs, _, hl, hm, hmm, _, hx⟩
 ·simp at hcs
  subst hcs
  exact ⟨[], ⟨none, 0, rfl, by omega, by simp, fun j e h => by simp at h⟩, fun e he => by cases he⟩
 ·simp at hcs
  subst hcs
  have hlm : l ≤ m := by rw [hmm]; split <;> omega
  have hc4 : Tryz.prog.cellsOf 67 = 3 := by kernel_rfl
  rw [hc4] at hx
  have key : ∀ i, ∃ q : (Int × Int × Int), i < l → W.cell? (y.add (i * 3)) = some (.int .i64 q.1) ∧ W.cell? (y.add (i * 3 + 1)) = some (.int .i64 q.2.1) ∧ W.cell? (y.add (i * 3 + 2)) = some (.int .i64 q.2.2) ∧ (-9223372036854775808 ≤ q.2.2 ∧ q.2.2 ≤ 9223372036854775807) := fun i => by
   by_cases hi : i < l
   ·obtain ⟨cs, h1, h2⟩ := hx i (by omega)
    obtain ⟨_, hlen, hcell⟩ := World.cells?_some h1
    obtain ⟨xs, n', _, _, _, hlx, hfld⟩ := DataW.trod_struct Tryz.underlying67 h2
    match cs, hlen with
    | [c0, c1, c2], _ =>
     have f0 := hfld 0 _ rfl
     have f1 := hfld 1 _ rfl
     have f2 := hfld 2 _ rfl
     match xs, hlx with
     | [x0, x1, x2], _ =>
      obtain ⟨k, e0, _, _⟩ := DataW.trod_int Tryz.underlying3 f0
      obtain ⟨p, e1, _, _⟩ := DataW.trod_int Tryz.underlying3 f1
      obtain ⟨x, e2, _, wx⟩ := DataW.trod_int Tryz.underlying2 f2
      have g0 := hcell 0 (by omega)
      have g1 := hcell 1 (by omega)
      have g2 := hcell 2 (by omega)
      rw [Go.Deep.add_add] at g0 g1 g2
      have t1 : Tryz.prog.cellsOf 3 = 1 := by kernel_rfl
      have t2 : Tryz.prog.cellsOf 2 = 1 := by kernel_rfl
      simp [t1, t2] at e0 e1 e2
      subst e0 e1 e2
      exact ⟨(k, p, x), fun _ => ⟨by simpa using g0, by simpa using g1, by simpa using g2, by simp [Lit.wf, IntKind.min, IntKind.max, IntKind.signed, IntKind.bits] at wx; omega⟩⟩
   ·exact ⟨(0, 0, 0), fun h => absurd h hi⟩
  obtain ⟨q, hq⟩ := Classical.axiomOfChoice key
  have hlen : ((List.range l).map fun i => (⟨(q i).1, (q i).2.1, (q i).2.2⟩ : Ed)).length = l := by simp
  refine ⟨(List.range l).map fun i => ⟨(q i).1, (q i).2.1, (q i).2.2⟩, ⟨some y, c, by rw [hlen], by unfold maxLen at hm; omega, by rw [hlen]; unfold maxLen at hm; omega, fun j e hj => ?_⟩, fun e he => ?_⟩
  rotate_left
  ·obtain ⟨i, hi, rfl⟩ := List.mem_map.1 he
   exact (hq i (List.mem_range.1 hi)).2.2.2
  obtain ⟨b, off, spot⟩ := y
  have hjl : j < l := by
   have := (List.getElem?_eq_some_iff.1 hj).1
   rwa [hlen] at this
  have hspot : spot = none := by have := World.cell?_spot (hq 0 (by omega)).1; simpa [Addr.add] using this
  subst hspot
  rw [List.getElem?_map, List.getElem?_range hjl] at hj
  simp only [Option.map_some, Option.some.injEq] at hj
  subst hj
  have hh := hq j hjl
  refine ⟨b, off, rfl, ?_, ?_⟩
  ·have := World.block_lt_of_cell? W _ hh.1
   rw [Go.WideShapes.add_plain] at this
   exact this
  ·simpa only [Go.WideShapes.add_plain, Nat.add_assoc] using (And.intro hh.1 (And.intro hh.2.1 hh.2.2.1))
def vertB (N x : Int) : Bool := decide (0 ≤ x) && decide (x < N)
def endsB (N : Int) (e : Ed) : Bool := vertB N e.f && vertB N e.t
def rightB (N : Int) (E : List Ed) : Bool := decide (0 ≤ N) && decide (N ≤ 4096) && decide (E.length ≤ 65536) && E.all (endsB N)
def weighB (N : Int) (E : List Ed) : Bool := rightB N E && E.all (fun e => decide (0 ≤ e.w) && decide (e.w ≤ 9223372036854775807 / max N 1))
theorem vertex_any (N x : Int) (a : Option Addr) (n c : Nat) (w : World) :
  Calls Tryz.prog 88 #[.agg #[.int .i64 N, .slice a n c], .int .i64 x] w fun e w' => e = .returned (.bool (vertB N x)) ∧ Upd [] w w' := by
 unfold vertB
 by_cases h : 0 ≤ x
 ·go_enter Tryz.func88, Tryz.ntmps88
  go_wp2
  go_ret
  exact ⟨ret_bool (by simp [h]), (Upd.refl _ _).alloc _⟩
 ·go_enter Tryz.func88, Tryz.ntmps88
  go_wp2
  go_ret
  exact ⟨ret_bool (by rw [decide_eq_false (by omega)]; rfl), (Upd.refl _ _).alloc _⟩
def BoxG (w : World) (B : Nat) (N : Int) (vs : Value) : Prop := w.cell? ⟨B, 0, none⟩ = some (.int .i64 N) ∧ w.cell? ⟨B, 1, none⟩ = some vs
theorem check1_any (e : Ed) (B : Nat) (N : Int) (a : Option Addr) (n c : Nat) (w : World) (h : BoxG w B N (.slice a n c)) :
  Calls Tryz.prog 87 #[e.val, .pointer (some ⟨B, 0, none⟩)] w fun x w' => x = .returned (.bool (!(endsB N e))) ∧ Upd [] w w' := by
 obtain ⟨ef, et, ew⟩ := e
 unfold Ed.val endsB
 have h0 := fun W (hu : Upd [] w W) => hu.was h.1
 have h1 := fun W (hu : Upd [] w W) => hu.was h.2
 have H0 := Lib.hid h0
 have H1 := Lib.hid h1
 clear h0 h1
 obtain ⟨hN, hV⟩ := h
 have hB : B < w.heap.size := World.block_lt_of_cell? w _ hN
 have k1 := fun W => vertex_any N ef a n c W
 have k2 := fun W => vertex_any N et a n c W
 cases hb : vertB N ef
 ·rw [hb] at k1
  go_enter Tryz.func87, Tryz.ntmps87
  go_wp2_with ((go_at_call 88; (with_reducible refine (k1 _).mono ?_)); rintro e w1 ⟨rfl, hu1⟩; have q0 := H0.out _ (((Upd.refl _ _).alloc _).trans hu1))
  go_ret
  exact ⟨ret_bool (by simp), ((Upd.refl _ _).alloc _).trans hu1⟩
 ·rw [hb] at k1
  have hu0 : Upd [] w (w.alloc (.cells #[.int .i64 ef, .int .i64 et, .int .i64 ew] 67)) := (Upd.refl _ _).alloc _
  have E1 : ∀ W, Upd [] (w.alloc (.cells #[.int .i64 ef, .int .i64 et, .int .i64 ew] 67)) W → W.cell? ⟨w.heap.size, 1, none⟩ = some (.int .i64 et) := fun W h => h.was (by simp)
  have HE1 := Lib.hid E1
  clear E1
  go_enter Tryz.func87, Tryz.ntmps87
  go_wp2_with (first
   | ((go_at_call 88; (with_reducible refine (k1 _).mono ?_)); rintro e w1 ⟨rfl, hu1⟩; have q0 := H0.out _ (hu0.trans hu1); have q1 := H1.out _ (hu0.trans hu1); have q2 := HE1.out _ hu1)
   | ((go_at_call 88; (with_reducible refine (k2 _).mono ?_)); rintro e w2 ⟨rfl, hu2⟩))
  go_ret
  exact ⟨ret_bool (by simp), (hu0.trans hu1).trans hu2⟩
end Go.Proofs.YtklibcncmbofpaaGreat
namespace Go.Proofs.YtklibcncmbofpaaGreat
open Go Go.RowKit
def SomeIdx (b : Bool) (w : World) (r : Ending) (w' : World) : Prop := ∃ i : Int, r = .returned (.int .i64 i) ∧ decide (0 ≤ i) = b ∧ Upd [] w w'
theorem any_take {α : Type} (P : α → Bool) (l : List α) (k : Nat) (x : α) (hx : l[k]? = some x) : (l.take (k + 1)).any P = ((l.take k).any P || P x) := by
 rw [List.take_add_one, hx]; simp
set_option maxHeartbeats 2000000 in
theorem idxE_any (w : World) (va : Value) (E : List Ed) (P : Ed → Bool) (f : FuncId) (caps : Array Value) (hE : SlE w va E) (hen : Enters f)
  (hc : ∀ (W : World) (e : Ed), Upd [] w W → e ∈ E → Calls Tryz.prog f (#[e.val] ++ caps) W fun r w' => r = .returned (.bool (P e)) ∧ Upd [] W w') :
  Calls Tryz.prog 89 #[va, .func (Fn.func f) #[] caps] w (SomeIdx (E.any P) w) := by
 obtain ⟨a, cap, rfl, hcap⟩ := hE.shape
 have HE := Lib.hid hE
 have HC := Lib.hid hc
 unfold Enters at hen
 have hcp : E.length ≤ 9223372036854775807 := by obtain ⟨_, _, _, _, h, _⟩ := hE; exact h
 clear hE hc
 generalize hn : E.length = n at *
 have HN := Lib.hid hn
 clear hn
 go_enter Tryz.func89, Tryz.ntmps89
 go_wp2
 go_loopw [5, 8] (fun _ i wr => ∃ k : Nat, k ≤ n ∧ i = .int .i64 (k : Int) ∧ (E.take k).any P = false ∧ Upd [] w wr) (fun _ i _ => n - (intOf i).toNat)
 case atStart => exact ⟨0, by omega, rfl, by simp, Upd.refl _ _⟩
 case round =>
  obtain ⟨k, hk, rfl, hany, hu⟩ := hrel
  rename World => wr
  by_cases hkn : k < n
  ·have hkE : k < E.length := by rw [HN.out]; exact hkn
   have hx : E[k]? = some (E.getD k default) := by simp [List.getD_eq_getElem?_getD, hkE]
   have hmem : E.getD k default ∈ E := List.mem_of_getElem? hx
   obtain ⟨g, off, rfl, hg, c0, c1, c2⟩ := (HE.out.upd hu).at k hkE
   have kc := HC.out wr _ hu hmem
   generalize E.getD k default = e at *
   obtain ⟨ef, et, ew⟩ := e
   have HM := Lib.hid hmem
   have HT := Lib.hid (any_take P E k _ hx)
   have HA := Lib.hid hany
   have hwr : IntKind.i64.wrap ((k : Int) + 1) = (k : Int) + 1 := IntWalk.i64_in _ (by omega)
   dsimp only at c0 c1 c2
   unfold Ed.val at kc
   clear hx hmem hany
   cases hp : P ⟨ef, et, ew⟩ with
   | false =>
    rw [hp] at kc
    have HP := Lib.hid hp
    clear hp
    go_wp2_with (first
     | ((with_reducible refine (kc).mono ?_); rintro e w2 ⟨rfl, hu2⟩)
     | fail)
    go_roundw
    case rel => exact ⟨k + 1, by omega, by go_num, by rw [HT.out, HA.out, HP.out]; rfl, hu.trans hu2⟩
    case measure => simp [intOf]; omega
   | true =>
    rw [hp] at kc
    have HP := Lib.hid hp
    clear hp
    go_wp2_with (first
     | ((with_reducible refine (kc).mono ?_); rintro e w2 ⟨rfl, hu2⟩)
     | fail)
    go_ret
    refine ⟨(k : Int), rfl, ?_, hu.trans hu2⟩
    rw [List.any_eq_true.2 ⟨_, HM.out, HP.out⟩]
    simp
  ·obtain rfl : k = n := by omega
   have hfin : E.any P = false := by rw [← hany, ← HN.out, List.take_length]
   have HF := Lib.hid hfin
   clear hany hfin
   go_wp2
   go_ret
   exact ⟨-1, rfl, by rw [HF.out]; rfl, hu⟩
theorem conE_any (w : World) (va : Value) (E : List Ed) (P : Ed → Bool) (f : FuncId) (caps : Array Value) (hE : SlE w va E) (hen : Enters f)
  (hc : ∀ (W : World) (e : Ed), Upd [] w W → e ∈ E → Calls Tryz.prog f (#[e.val] ++ caps) W fun r w' => r = .returned (.bool (P e)) ∧ Upd [] W w') :
  Calls Tryz.prog 78 #[va, .func (Fn.func f) #[] caps] w fun r w' => r = .returned (.bool (E.any P)) ∧ Upd [] w w' := by
 have k := idxE_any w va E P f caps hE hen hc
 generalize E.any P = b at *
 go_enter Tryz.func78, Tryz.ntmps78
 go_wp2_with (first
  | ((go_at_call 89; (with_reducible refine (k).mono ?_)); rintro e w1 ⟨i, rfl, hi, hu⟩)
  | fail)
 go_ret
 exact ⟨ret_bool (by rw [← hi]), hu⟩
end Go.Proofs.YtklibcncmbofpaaGreat
namespace Go.Proofs.YtklibcncmbofpaaGreat
open Go Go.RowKit
theorem any_not_all (E : List Ed) (P : Ed → Bool) : E.any (fun e => !(P e)) = !(E.all P) := by
 induction E with
 | nil => rfl
 | cons e l ih => rw [List.any_cons, List.all_cons, ih]; cases P e <;> simp
set_option maxHeartbeats 2000000 in
theorem gcheck_any (w : World) (N : Int) (va : Value) (E : List Ed) (hE : SlE w va E) :
  Calls Tryz.prog 74 #[.agg #[.int .i64 N, va]] w fun r w' => r = .returned (.int .i64 (if rightB N E then 0 else 201)) ∧ Upd [] w w' := by
 obtain ⟨a, cap, rfl, hcap⟩ := hE.shape
 have HE := Lib.hid hE
 have hl : E.length ≤ 9223372036854775807 := by obtain ⟨_, _, _, _, h, _⟩ := hE; exact h
 clear hE
 have key : rightB N E = (decide (0 ≤ N) && decide (N ≤ 4096) && decide (E.length ≤ 65536) && E.all (endsB N)) := rfl
 by_cases h0 : N < 0
 ·have hr : rightB N E = false := by rw [key, decide_eq_false (by omega)]; rfl
  rw [hr]
  clear key hr
  go_enter Tryz.func74, Tryz.ntmps74
  go_wp2
  go_ret
  exact ⟨rfl, by (repeat (first | assumption | exact Upd.refl _ _ | refine Upd.alloc ?_ _ | refine Upd.drew ?_ | refine Upd.drewN ?_ _ | refine Upd.setCell ?_ (Or.inr (by first | (simp; done) | (simp; omega))) _ | (apply Upd.trans; rotate_left; assumption)))⟩
 ·by_cases h1 : N > 4096
  ·have hr : rightB N E = false := by rw [key, decide_eq_false (by omega : ¬ N ≤ 4096)]; simp
   rw [hr]
   clear key hr
   go_enter Tryz.func74, Tryz.ntmps74
   go_wp2
   go_ret
   exact ⟨rfl, by (repeat (first | assumption | exact Upd.refl _ _ | refine Upd.alloc ?_ _ | refine Upd.drew ?_ | refine Upd.drewN ?_ _ | refine Upd.setCell ?_ (Or.inr (by first | (simp; done) | (simp; omega))) _ | (apply Upd.trans; rotate_left; assumption)))⟩
  ·by_cases h2 : (E.length : Int) > 65536
   ·have hr : rightB N E = false := by rw [key, decide_eq_false (by omega : ¬ E.length ≤ 65536)]; simp
    rw [hr]
    clear key hr
    generalize E.length = n at *
    go_enter Tryz.func74, Tryz.ntmps74
    go_wp2
    go_ret
    exact ⟨rfl, by (repeat (first | assumption | exact Upd.refl _ _ | refine Upd.alloc ?_ _ | refine Upd.drew ?_ | refine Upd.drewN ?_ _ | refine Upd.setCell ?_ (Or.inr (by first | (simp; done) | (simp; omega))) _ | (apply Upd.trans; rotate_left; assumption)))⟩
   ·have hr : rightB N E = E.all (endsB N) := by rw [key, decide_eq_true (by omega : 0 ≤ N), decide_eq_true (by omega : N ≤ 4096), decide_eq_true (by omega : E.length ≤ 65536)]; simp
    have u0 : Upd [] w (w.alloc (.cells #[.int .i64 N, .slice a E.length cap] 57)) := (Upd.refl _ _).alloc _
    have kc := fun W (hW : Upd [] (w.alloc (.cells #[.int .i64 N, .slice a E.length cap] 57)) W) => conE_any W (.slice a E.length cap) E (fun e => !(endsB N e)) 87 #[.pointer (some ⟨w.heap.size, 0, none⟩)] (HE.out.upd (u0.trans hW)) (fun _ _ => by kernel_rfl)
     (fun W2 e hW2 _ => check1_any e w.heap.size N a E.length cap W2 ⟨(hW.trans hW2).was (by simp), (hW.trans hW2).was (by simp)⟩)
    rw [any_not_all] at kc
    rw [hr]
    clear key hr
    cases hall : E.all (endsB N) with
    | false =>
     rw [hall] at kc
     clear hall
     generalize E.length = n at *
     go_enter Tryz.func74, Tryz.ntmps74
     go_wp2_with (first
      | ((go_at_call 78; (with_reducible refine (kc _ (Upd.refl _ _)).mono ?_)); rintro e w1 ⟨rfl, hu1⟩)
      | fail)
     go_ret
     exact ⟨rfl, u0.trans hu1⟩
    | true =>
     rw [hall] at kc
     clear hall
     generalize E.length = n at *
     go_enter Tryz.func74, Tryz.ntmps74
     go_wp2_with (first
      | ((go_at_call 78; (with_reducible refine (kc _ (Upd.refl _ _)).mono ?_)); rintro e w1 ⟨rfl, hu1⟩)
      | fail)
     go_ret
     exact ⟨rfl, u0.trans hu1⟩
end Go.Proofs.YtklibcncmbofpaaGreat
