/-
  Lemmas for PathWays: Grg, PrP4, PrW, Chk, PqO, Spine. Conditions: those of each lemma.
-/
import Derived.IntWalk
import Derived.Deep.Slices
import Derived.Deep.Strs
import Derived.Lib.Mul64
import Derived.Laws.Bits64b
import Derived.Lib.Hide
import Derived.StillTailTactics
import Derived.Test.YtklibcncmbofpaaGreatProg
import Derived.WalkKit
import Derived.WalkSpells
import Derived.WalkLawsBesides
import Derived.BigQuiet
import Derived.Deep.RegionHeld3
import Derived.ProofKit
import Derived.OpenShut
import Derived.Maps.AppendAt
import Derived.Maps.OwnSet
import Derived.Maps.OwnOps
import Derived.Maps.RangeWalk
import Derived.Deep.RegionLaw
import Derived.Deep.DeepCutAuto
import Derived.Test.YtklibcncmbofpaaGreatP01
import Derived.Test.YtklibcncmbofpaaGreatP02
import Derived.Test.YtklibcncmbofpaaGreatP03
import Derived.Test.YtklibcncmbofpaaGreatP04
import Derived.Test.YtklibcncmbofpaaGreatP05
import Derived.Test.YtklibcncmbofpaaGreatP06
import Derived.Test.YtklibcncmbofpaaGreatP07
import Derived.Test.YtklibcncmbofpaaGreatP08
import Derived.Test.YtklibcncmbofpaaGreatP09
import Derived.Test.YtklibcncmbofpaaGreatP10
import Derived.Test.YtklibcncmbofpaaGreatP12
set_option linter.unusedVariables false
set_option linter.unusedSimpArgs false
namespace Go.Proofs.YtklibcncmbofpaaGreat
open Go Go.RowKit
theorem all_take {α : Type} (P : α → Bool) (l : List α) (k : Nat) (x : α) (hx : l[k]? = some x) (h : (l.take k).all P = true) : (l.take (k + 1)).all P = P x := by
 rw [List.take_add_one, hx]; simp [h]
theorem all_no {α : Type} (P : α → Bool) (l : List α) (x : α) (hx : x ∈ l) (h : P x = false) : l.all P = false := by
 cases e : l.all P with
 | false => rfl
 | true => rw [List.all_eq_true.1 e x hx] at h; cases h
theorem right_mem {N : Int} {E : List Ed} (h : rightB N E = true) {e : Ed} (he : e ∈ E) : 0 ≤ e.f ∧ e.f < N ∧ 0 ≤ e.t ∧ e.t < N := by
 unfold rightB at h
 simp only [Bool.and_eq_true] at h
 have := List.all_eq_true.1 h.2 e he
 unfold endsB vertB at this
 simp only [Bool.and_eq_true, decide_eq_true_eq] at this
 omega
theorem right_bd {N : Int} {E : List Ed} (h : rightB N E = true) : 0 ≤ N ∧ N ≤ 4096 ∧ E.length ≤ 65536 := by
 unfold rightB at h
 simp only [Bool.and_eq_true, decide_eq_true_eq] at h
 omega
set_option maxHeartbeats 4000000 in
theorem rright_any (w : World) (N : Int) (va : Value) (E : List Ed) (hE : SlE w va E) :
  Calls Tryz.prog 56 #[.agg #[.int .i64 N, va]] w fun r w' => r = .returned (.bool (rightB N E)) ∧ Upd [] w w' := by
 obtain ⟨a, cap, rfl, hcap⟩ := hE.shape
 have HE := Lib.hid hE
 have hl : E.length ≤ 9223372036854775807 := by obtain ⟨_, _, _, _, h, _⟩ := hE; exact h
 clear hE
 have u0 : Upd [] w (w.alloc (.cells #[.int .i64 N, .slice a E.length cap] 57)) := (Upd.refl _ _).alloc _
 have HK := Lib.hid (show rightB N E = (decide (0 ≤ N) && decide (N ≤ 4096) && decide (E.length ≤ 65536) && E.all (endsB N)) from rfl)
 generalize hn : E.length = n at *
 have HN := Lib.hid hn
 clear hn
 go_enter Tryz.func56, Tryz.ntmps56
 go_wp2
 go_loopw [4, 8] (fun _ i wr => ∃ k : Nat, k ≤ n ∧ i = .int .i64 (k : Int) ∧ (E.take k).all (endsB N) = true ∧ Upd [] (w.alloc (.cells #[.int .i64 N, .slice a n cap] 57)) wr) (fun _ i _ => n - (intOf i).toNat)
 case atStart => exact ⟨0, by omega, rfl, by simp, Upd.refl _ _⟩
 case round =>
  obtain ⟨k, hk, rfl, hall, hu⟩ := hrel
  rename World => wr
  have q0 : wr.cell? ⟨w.heap.size, 0, none⟩ = some (.int .i64 N) := hu.was (by simp)
  have q1 : wr.cell? ⟨w.heap.size, 1, none⟩ = some (.slice a n cap) := hu.was (by simp)
  have hsz : w.heap.size < wr.heap.size := by have := hu.size; simp at this; omega
  by_cases hkn : k < n
  ·have hkE : k < E.length := by rw [HN.out]; exact hkn
   have hx : E[k]? = some (E.getD k default) := by simp [List.getD_eq_getElem?_getD, hkE]
   have hmem : E.getD k default ∈ E := List.mem_of_getElem? hx
   obtain ⟨g, off, rfl, hg, c0, c1, c2⟩ := (HE.out.upd (u0.trans hu)).at k hkE
   generalize E.getD k default = e at *
   have HT := Lib.hid (all_take (endsB N) E k _ hx hall)
   have HM := Lib.hid hmem
   have hwr : IntKind.i64.wrap ((k : Int) + 1) = (k : Int) + 1 := IntWalk.i64_in _ (by omega)
   obtain ⟨ef, et, ew⟩ := e
   dsimp only at c0 c1 c2
   clear hx hmem hall HE
   have hend : endsB N ⟨ef, et, ew⟩ = (vertB N ef && vertB N et) := rfl
   by_cases b0 : ef < 0
   ·have hf : Hid (rightB N E = false) := Lib.hid (by rw [HK.out, all_no (endsB N) E _ HM.out (by rw [hend]; unfold vertB; rw [decide_eq_false (by omega)]; rfl)]; simp)
    clear hend
    go_wp2
    go_ret
    exact ⟨by rw [hf.out]; rfl, by have := u0.trans hu; (repeat (first | assumption | exact Upd.refl _ _ | refine Upd.alloc ?_ _ | refine Upd.drew ?_ | refine Upd.drewN ?_ _ | refine Upd.setCell ?_ ?_ _ | focus (left; simp; done) | focus (right; simp; done) | focus (right; simp; omega)))⟩
   ·by_cases b1 : ef ≥ N
    ·have hf : Hid (rightB N E = false) := Lib.hid (by rw [HK.out, all_no (endsB N) E _ HM.out (by rw [hend]; unfold vertB; rw [decide_eq_false (by omega : ¬ ef < N)]; simp)]; simp)
     clear hend
     go_wp2
     go_ret
     exact ⟨by rw [hf.out]; rfl, by have := u0.trans hu; (repeat (first | assumption | exact Upd.refl _ _ | refine Upd.alloc ?_ _ | refine Upd.drew ?_ | refine Upd.drewN ?_ _ | refine Upd.setCell ?_ ?_ _ | focus (left; simp; done) | focus (right; simp; done) | focus (right; simp; omega)))⟩
    ·by_cases b2 : et < 0
     ·have hf : Hid (rightB N E = false) := Lib.hid (by rw [HK.out, all_no (endsB N) E _ HM.out (by rw [hend]; unfold vertB; rw [decide_eq_false (by omega : ¬ 0 ≤ et)]; simp)]; simp)
      clear hend
      go_wp2
      go_ret
      exact ⟨by rw [hf.out]; rfl, by have := u0.trans hu; (repeat (first | assumption | exact Upd.refl _ _ | refine Upd.alloc ?_ _ | refine Upd.drew ?_ | refine Upd.drewN ?_ _ | refine Upd.setCell ?_ ?_ _ | focus (left; simp; done) | focus (right; simp; done) | focus (right; simp; omega)))⟩
     ·by_cases b3 : et ≥ N
      ·have hf : Hid (rightB N E = false) := Lib.hid (by rw [HK.out, all_no (endsB N) E _ HM.out (by rw [hend]; unfold vertB; rw [decide_eq_false (by omega : ¬ et < N)]; simp)]; simp)
       clear hend
       go_wp2
       go_ret
       exact ⟨by rw [hf.out]; rfl, by have := u0.trans hu; (repeat (first | assumption | exact Upd.refl _ _ | refine Upd.alloc ?_ _ | refine Upd.drew ?_ | refine Upd.drewN ?_ _ | refine Upd.setCell ?_ ?_ _ | focus (left; simp; done) | focus (right; simp; done) | focus (right; simp; omega)))⟩
      ·have ht : Hid (endsB N ⟨ef, et, ew⟩ = true) := Lib.hid (by rw [hend]; unfold vertB; simp; omega)
       clear hend
       go_wp2
       exact ⟨⟨k + 1, by omega, by go_num, by rw [HT.out, ht.out], by (repeat (first | assumption | exact Upd.refl _ _ | refine Upd.alloc ?_ _ | refine Upd.drew ?_ | refine Upd.drewN ?_ _ | refine Upd.setCell ?_ ?_ _ | focus (left; simp; done) | focus (right; simp; done) | focus (right; simp; omega)))⟩, by simp [intOf]; omega⟩
  ·obtain rfl : k = n := by omega
   have hfin : E.all (endsB N) = true := by rw [← hall, ← HN.out, List.take_length]
   have hr : Hid (rightB N E = (decide (0 ≤ N) && decide (N ≤ 4096) && decide (k ≤ 65536))) := Lib.hid (by rw [HK.out, hfin, Bool.and_true])
   clear hall hfin
   by_cases b0 : N ≥ 0
   ·by_cases b1 : N ≤ 4096
    ·go_wp2
     go_ret
     exact ⟨ret_bool (by rw [hr.out]; first | (simp [b0, b1]; done) | (simp [b0, b1]; omega)), by have := u0.trans hu; (repeat (first | assumption | exact Upd.refl _ _ | refine Upd.alloc ?_ _ | refine Upd.drew ?_ | refine Upd.drewN ?_ _ | refine Upd.setCell ?_ ?_ _ | focus (left; simp; done) | focus (right; simp; done) | focus (right; simp; omega)))⟩
    ·go_wp2
     go_ret
     exact ⟨ret_bool (by rw [hr.out]; first | (simp [b0, b1]; done) | (simp [b0, b1]; omega)), by have := u0.trans hu; (repeat (first | assumption | exact Upd.refl _ _ | refine Upd.alloc ?_ _ | refine Upd.drew ?_ | refine Upd.drewN ?_ _ | refine Upd.setCell ?_ ?_ _ | focus (left; simp; done) | focus (right; simp; done) | focus (right; simp; omega)))⟩
   ·go_wp2
    go_ret
    exact ⟨ret_bool (by rw [hr.out, decide_eq_false (by omega : ¬ 0 ≤ N)]; first | rfl | (simp; done) | (simp; omega)), by have := u0.trans hu; (repeat (first | assumption | exact Upd.refl _ _ | refine Upd.alloc ?_ _ | refine Upd.drew ?_ | refine Upd.drewN ?_ _ | refine Upd.setCell ?_ ?_ _ | focus (left; simp; done) | focus (right; simp; done) | focus (right; simp; omega)))⟩
end Go.Proofs.YtklibcncmbofpaaGreat
namespace Go.Proofs.YtklibcncmbofpaaGreat
section
variable {E : List En} {by' : Nat → Int} {s N : Nat} {mk : Nat → Nat}
def GoodV (E : List En) (by' : Nat → Int) (s x : Nat) : Prop := ∃ k, iterP E by' k x = s
end
end Go.Proofs.YtklibcncmbofpaaGreat
namespace Go.Proofs.YtklibcncmbofpaaGreat
open Go Go.RowKit
def fitsB (x : Int) : Bool := decide (0 ≤ x) && decide (x ≠ 9223372036854775807)
def nearB (D : List Int) (e : Ed) : Bool := decide (D.getD e.f.toNat 0 ≠ 9223372036854775807) && decide (e.w ≤ 9223372036854775807 - D.getD e.f.toNat 0) && decide (D.getD e.t.toNat 0 > D.getD e.f.toNat 0 + e.w)
def feasB (D : List Int) (E : List Ed) : Bool := !(E.any (nearB D))
end Go.Proofs.YtklibcncmbofpaaGreat
namespace Go.Proofs.YtklibcncmbofpaaGreat
open Go.RowKit
def chk (k d : Int) : Int :=
 if k < 1 ∨ 8 < k then 21 else if (k = 2 ∧ (d < 2 ∨ 16 < d)) ∨ (k ≠ 2 ∧ d ≠ 0) then 22 else 0
theorem chk_21 {k d : Int} (h : k < 1 ∨ 8 < k) : chk k d = 21 := by unfold chk; rw [if_pos h]
theorem chk_22 {k d : Int} (h : ¬ (k < 1 ∨ 8 < k)) (h2 : (k = 2 ∧ (d < 2 ∨ 16 < d)) ∨ (k ≠ 2 ∧ d ≠ 0)) : chk k d = 22 := by unfold chk; rw [if_neg h, if_pos h2]
theorem chk_0 {k d : Int} (h : ¬ (k < 1 ∨ 8 < k)) (h2 : ¬ ((k = 2 ∧ (d < 2 ∨ 16 < d)) ∨ (k ≠ 2 ∧ d ≠ 0))) : chk k d = 0 := by unfold chk; rw [if_neg h, if_neg h2]
set_option maxHeartbeats 400000 in
theorem check_any (k d : Int) (w : World) :
  Calls Tryz.prog 50 #[.agg #[.int .i64 k, .int .i64 d]] w fun e w' => e = .returned (.int .i64 (chk k d)) ∧ Upd [] w w' := by
 go_enter Tryz.func50, Tryz.ntmps50
 go_wp2
 all_goals
  go_ret
  refine ⟨ret_int ?_, (Upd.refl _ _).alloc _⟩
  try simp only [bne_iff_ne, ne_eq, bne_eq_false_iff_eq] at *
  first
  | (rw [chk_21 (by omega)]; done)
  | (rw [chk_22 (by omega) (by omega)]; done)
  | (rw [chk_0 (by omega) (by omega)]; done)
end Go.Proofs.YtklibcncmbofpaaGreat
namespace Go.Proofs.YtklibcncmbofpaaGreat
open Go Go.RowKit
def Opens (K : NestQ) (kd d : Int) (n : Nat) : Prop := ∀ W : World, Calls Tryz.prog 81 #[.agg #[.int .i64 kd, .int .i64 d], .int .i64 (n : Int)] W fun e w' => ∃ pn Fn, e = .returned (.tuple #[.iface K.ty (.pointer (some ⟨pn, 0, none⟩)), .int .i64 0]) ∧ K.at_ w' pn Fn (NS.new n) ∧ Upd [] W w' ∧ ∀ x, x ∈ Fn → W.heap.size ≤ x
theorem new_in (n : Nat) (x : Nat) : inN (NS.new n) (x : Int) = false := by
 cases h : inN (NS.new n) (x : Int) with
 | false => rfl
 | true => have := (inN_nat _ _).1 h; rw [NS.new_c] at this; exact absurd this.2 (by simp [Cl.z])
theorem new_v (n m x : Nat) : (AR.new n m).v x = false := by
 unfold AR.new AR.v
 simp only [List.getD_eq_getElem?_getD, List.getElem?_replicate]
 split <;> rfl
set_option maxHeartbeats 1000000 in
set_option maxRecDepth 10000 in
theorem popen_any {K : NestQ} {kd d : Int} (n m : Nat) (w : World) (hn : n ≤ 65536) (hm : 1 ≤ m ∧ m ≤ 4294967295) (hc : chk kd d = 0) (ko : Opens K kd d n) :
  Calls Tryz.prog 64 #[.agg #[.int .i64 kd, .int .i64 d], .int .i64 (n : Int), .int .u32 (m : Int)] w fun e w' => ∃ p F, e = .returned (.tuple #[.pointer (some ⟨p, 0, none⟩), .int .i64 0]) ∧ PqAt K w' p F kd d (AR.new n m) (NS.new n) 0 ∧ Upd [] w w' ∧ ∀ x, x ∈ F → w.heap.size ≤ x := by
 have kc := fun W => check_any kd d W
 rw [hc] at kc
 have ka := fun W => arnew_yes n m W hn hm
 unfold Opens at ko
 have hcs : (NS.new n).cs.length = n := by simp [NS.new]
 have hal : (AR.new n m).sl.length = n := by simp [AR.new]
 have HL := Lib.hid (And.intro hcs hal)
 clear hcs hal hc
 go_enter Tryz.func64, Tryz.ntmps64
 go_wp2_with (first
  | ((go_at_call 50; (with_reducible refine (kc _).mono ?_)); rintro e w1 ⟨rfl, hu1⟩; (have q0 : w1.cell? ⟨w.heap.size, 0, none⟩ = some (.int .i64 kd) := hu1.was (by go_simp)); (have q1 : w1.cell? ⟨w.heap.size, 1, none⟩ = some (.int .i64 d) := hu1.was (by go_simp)); (have hw1 : Upd [] w w1 := Upd.trans (by (repeat (first | assumption | exact Upd.refl _ _ | refine Upd.alloc ?_ _ | refine Upd.drew ?_ | refine Upd.drewN ?_ _ | refine Upd.setCell ?_ ?_ _ | focus (left; simp; done) | focus (right; simp; done) | focus (right; simp; omega)))) hu1))
  | ((go_at_call 80; (with_reducible refine (ka _).mono ?_)); rintro e w2 ⟨pa, Fa, rfl, hA, hu2, hfa⟩; (have q2 := hu2.was q0); (have q3 := hu2.was q1))
  | ((go_at_call 81; (with_reducible refine (ko _).mono ?_)); rintro e w3 ⟨pn, Fn, rfl, hN, hu3, hfn⟩; (have q4 := hu3.was q2); (have q5 := hu3.was q3))
  | fail)
 go_ret2
 have hh := rowAt_new w3 [.int .i64 kd, .int .i64 d, .pointer (some ⟨pa, 0, none⟩), .iface K.ty (.pointer (some ⟨pn, 0, none⟩)), .int .u64 0] 124
 have hb : Upd [] w3 (w3.alloc (.cells #[.int .i64 kd, .int .i64 d, .pointer (some ⟨pa, 0, none⟩), .iface K.ty (.pointer (some ⟨pn, 0, none⟩)), .int .u64 0] 124)) := (Upd.refl _ _).alloc _
 have hAl := hA.lt
 have hNl := K.lt hN
 have s3 := hu3.size
 have s1 := hw1.size
 have s2 := hu2.size
 refine ⟨w3.heap.size, w3.heap.size :: (Fa ++ Fn), rfl, ⟨pa, pn, Fa, Fn, rfl, ⟨hh.ext (fun j hj => by unfold pqC; rfl), (hA.upd hu3 (by simp)).upd hb (by simp), K.upd hN hb (by simp), fun e => by have := hAl _ e; omega, fun e => by have := hNl _ e; omega, fun x h1 h2 => by have := hAl x h1; have := hfn x h2; omega, by rw [HL.out.1, HL.out.2], fun x => by rw [new_v, new_in]⟩⟩, ((hw1.trans hu2).trans hu3).trans hb, fun x hx => ?_⟩
 simp only [List.mem_cons, List.mem_append] at hx
 rcases hx with rfl | hx | hx
 ·omega
 ·have := hfa x hx; omega
 ·have := hfn x hx; omega
end Go.Proofs.YtklibcncmbofpaaGreat
namespace Go.Proofs.YtklibcncmbofpaaGreat
open Go Go.RowKit
structure TS where
 l : Nat → Int
 r : Nat → Int
 u : Nat → Int
def TS.none : TS := ⟨fun _ => -1, fun _ => -1, fun _ => -1⟩
def TS.kid (S : TS) (s : Bool) (x : Nat) : Int := if s then S.r x else S.l x
def treeCell (S : TS) (j : Nat) : Value := .int .i64 (if j % 3 = 0 then S.l (j / 3) else if j % 3 = 1 then S.r (j / 3) else S.u (j / 3))
theorem treeCell0 (S : TS) (x : Nat) : treeCell S (x * 3) = .int .i64 (S.l x) := by unfold treeCell; rw [if_pos (by omega), show x * 3 / 3 = x by omega]
theorem treeCell1 (S : TS) (x : Nat) : treeCell S (x * 3 + 1) = .int .i64 (S.r x) := by unfold treeCell; rw [if_neg (by omega), if_pos (by omega), show (x * 3 + 1) / 3 = x by omega]
theorem treeCell2 (S : TS) (x : Nat) : treeCell S (x * 3 + 2) = .int .i64 (S.u x) := by unfold treeCell; rw [if_neg (by omega), if_neg (by omega), show (x * 3 + 2) / 3 = x by omega]
structure TreesAt (w : World) (bt ba n : Nat) (S : TS) : Prop where
 head : RowAt w bt 257 1 (fun _ => .slice (some ⟨ba, 0, none⟩) n n)
 row : RowAt w ba 260 (n * 3) (treeCell S)
 ne : bt ≠ ba
 le : n ≤ 65536
theorem TreesAt.upd {w w' : World} {F : List Nat} {bt ba n : Nat} {S : TS} (h : TreesAt w bt ba n S) (hu : Upd F w w') (h1 : bt ∉ F) (h2 : ba ∉ F) : TreesAt w' bt ba n S :=
 ⟨h.head.upd hu h1, h.row.upd hu h2, h.ne, h.le⟩
theorem TreesAt.drewN {w : World} {bt ba n : Nat} {S : TS} (h : TreesAt w bt ba n S) (k : Nat) : TreesAt (w.drewN k) bt ba n S := ⟨h.head, h.row, h.ne, h.le⟩
theorem TreesAt.drew {w : World} {bt ba n : Nat} {S : TS} (h : TreesAt w bt ba n S) : TreesAt w.drew bt ba n S := ⟨h.head, h.row, h.ne, h.le⟩
theorem linksInfo : (Tryz.prog.info? 260).map (fun i => (i.zero, i.size, i.bytes)) = some (some (.agg #[.int .i64 0, .int .i64 0, .int .i64 0]), 3, 24) := by kernel_rfl
set_option maxHeartbeats 400000 in
theorem spineNew_yes (n : Nat) (w : World) (h : n ≤ 65536) :
  Calls Tryz.prog 112 #[.int .i64 (n : Int)] w fun e w' => ∃ bt ba, e = .returned (.tuple #[.pointer (some ⟨bt, 0, none⟩), .int .i64 0]) ∧ TreesAt w' bt ba n TS.none ∧ Upd [] w w' ∧ w.heap.size ≤ bt ∧ w.heap.size ≤ ba := by
 go_enter Tryz.func112, Tryz.ntmps112
 go_wp2_with (at_make; refine wpList_make_row rfl _ 255 rfl 260 (.agg #[.int .i64 0, .int .i64 0, .int .i64 0]) 3 24 Tryz.underlying255 linksInfo n rfl (by omega) (by unfold maxLen; omega) ?_; intro w1 hr1 hu1)
 have hlt := hr1.lt
 go_loopw [21] (fun i wr => ∃ (k : Nat) (f : Nat → Value), k ≤ n ∧ i = .int .i64 k ∧ RowAt wr w1.heap.size 257 1 (fun _ => .slice (some ⟨w.heap.size, 0, none⟩) n n) ∧ RowAt wr w.heap.size 260 (n * 3) f ∧ (∀ j, j < k * 3 → f j = .int .i64 (-1)) ∧ Upd [] w wr) (fun i _ => n - (intOf i).toNat)
 case atStart => exact ⟨0, _, by omega, rfl, rowAt_new _ _ _ |>.ext (fun j hj => by simp at hj; subst hj; rfl), hr1.alloc _, by omega, hu1.alloc _⟩
 case round =>
  obtain ⟨k, f, hk, rfl, hH, hR, hf, hu⟩ := hrel
  by_cases hkn : k < n
  ·have c0 := hH.cell 0 (by omega)
   have d0 := hR.cell (k * 3) (by omega)
   have d1 := hR.cell (k * 3 + 1) (by omega)
   have d2 := hR.cell (k * 3 + 2) (by omega)
   have e0 := hR.free (k * 3)
   have e1 := hR.free (k * 3 + 1)
   have e2 := hR.free (k * 3 + 2)
   have HF := Lib.hid hf
   clear hf
   go_wp2
   go_roundw
   case rel =>
    refine ⟨k + 1, _, by omega, by go_num, ((hH.far _ _ (by simp; omega)).far _ _ (by simp; omega)).far _ _ (by simp; omega), ((hR.set _ _).set _ _).set _ _, fun j hj => ?_, ((hu.setCell (Or.inr (by simp)) _).setCell (Or.inr (by simp)) _).setCell (Or.inr (by simp)) _⟩
    show (if j = k * 3 + 2 then _ else if j = k * 3 + 1 then _ else if j = k * 3 then _ else f j) = _
    split
    ·rfl
    ·split
     ·rfl
     ·split
      ·rfl
      ·exact HF.out j (by omega)
   case measure => simp [intOf]; omega
  ·obtain rfl : k = n := by omega
   go_wp2
   go_ret2
   exact ⟨_, _, rfl, ⟨hH, hR.ext (fun j hj => by rw [hf j hj]; unfold treeCell TS.none; simp), by omega, h⟩, hu, hu1.size, Nat.le_refl _⟩
theorem has_any (bt ba n : Nat) (S : TS) (x : Int) (w : World) (h : TreesAt w bt ba n S) (b : Bool) (hb : b = decide (0 ≤ x ∧ x < n)) :
  Calls Tryz.prog 257 #[.pointer (some ⟨bt, 0, none⟩), .int .i64 x] w fun e w' => e = .returned (.bool b) ∧ w' = w := by
 have hle := h.le
 have c0 := h.head.cell 0 (by omega)
 clear h
 subst hb
 by_cases h0 : 0 ≤ x
 ·by_cases h1 : x < n
  ·go_enter Tryz.func257, Tryz.ntmps257
   go_wp2
   go_ret
   exact ⟨ret_bool (by simp [h0, h1]), rfl⟩
  ·go_enter Tryz.func257, Tryz.ntmps257
   go_wp2
   go_ret
   exact ⟨ret_bool (by simp [h0, h1]), rfl⟩
 ·go_enter Tryz.func257, Tryz.ntmps257
  go_wp2
  go_ret
  exact ⟨ret_bool (by simp; omega), rfl⟩
theorem side_any (b : Bool) (w : World) : Calls Tryz.prog 253 #[.bool b] w fun e w' => e = .returned (.int .i64 (if b then 1 else 0)) ∧ w' = w := by
 cases b
 all_goals
  go_enter Tryz.func253, Tryz.ntmps253
  go_wp2
  go_ret
  exact ⟨rfl, rfl⟩
theorem told_none (w : World) : Calls Tryz.prog 256 #[.int .i64 (-1)] w fun e w' => e = .returned (.tuple #[.int .i64 0, .bool false]) ∧ w' = w := by
 go_enter Tryz.func256, Tryz.ntmps256
 go_wp2
 go_ret2
 exact ⟨rfl, rfl⟩
theorem told_some (x : Int) (w : World) (h : x ≠ -1) : Calls Tryz.prog 256 #[.int .i64 x] w fun e w' => e = .returned (.tuple #[.int .i64 x, .bool true]) ∧ w' = w := by
 have h' : (x == -1) = false := by simpa using h
 go_enter Tryz.func256, Tryz.ntmps256
 go_wp2
 go_ret2
 exact ⟨rfl, rfl⟩
def kidOf (n : Nat) (S : TS) (x : Int) (r : Bool) : Int := if 0 ≤ x ∧ x < n then S.kid r x.toNat else -1
def upOf (n : Nat) (S : TS) (x : Int) : Int := if 0 ≤ x ∧ x < n then S.u x.toNat else -1
set_option maxHeartbeats 400000 in
theorem kid_any (bt ba n : Nat) (S : TS) (x : Int) (r : Bool) (w : World) (h : TreesAt w bt ba n S) :
  Calls Tryz.prog 254 #[.pointer (some ⟨bt, 0, none⟩), .int .i64 x, .bool r] w fun e w' => e = .returned (.int .i64 (kidOf n S x r)) ∧ ∃ k, w' = w.drewN k := by
 by_cases hx : 0 ≤ x ∧ x < n
 ·obtain ⟨k, rfl⟩ : ∃ k : Nat, x = k := ⟨x.toNat, by omega⟩
  have hk : k < n := by omega
  have e : kidOf n S k r = S.kid r k := by unfold kidOf; rw [if_pos hx]; simp
  have hle := h.le
  have c0 := h.head.cell 0 (by omega)
  have d0 := h.row.cellAt (k * 3) (by omega) (treeCell0 S k)
  have d1 := h.row.cellAt (k * 3 + 1) (by omega) (treeCell1 S k)
  rw [e]
  clear e
  cases r
  all_goals
   unfold TS.kid
   simp only [if_true, if_false, Bool.false_eq_true]
   go_enter Tryz.func254, Tryz.ntmps254
   go_wp2_with (go_at_call 257; refine (has_any bt ba n S k _ h true (by simp [hk])).mono ?_; rintro e w' ⟨rfl, rfl⟩)
   go_quiet ((go_at_call 253; exact Calls.quiet_of_same (side_any _ _)))
   go_wp2
   go_ret
   exact ⟨rfl, _, rfl⟩
 ·have e : kidOf n S x r = -1 := by unfold kidOf; rw [if_neg hx]
  rw [e]
  clear e
  go_enter Tryz.func254, Tryz.ntmps254
  go_wp2_with (go_at_call 257; refine (has_any bt ba n S x _ h false (by simp [hx])).mono ?_; rintro e w' ⟨rfl, rfl⟩)
  go_ret
  exact ⟨rfl, 0, rfl⟩
set_option maxHeartbeats 400000 in
theorem above_any (bt ba n : Nat) (S : TS) (x : Int) (w : World) (h : TreesAt w bt ba n S) :
  Calls Tryz.prog 252 #[.pointer (some ⟨bt, 0, none⟩), .int .i64 x] w fun e w' => e = .returned (.int .i64 (upOf n S x)) ∧ w' = w := by
 by_cases hx : 0 ≤ x ∧ x < n
 ·obtain ⟨k, rfl⟩ : ∃ k : Nat, x = k := ⟨x.toNat, by omega⟩
  have hk : k < n := by omega
  have e : upOf n S k = S.u k := by unfold upOf; rw [if_pos hx]; simp
  have hle := h.le
  have c0 := h.head.cell 0 (by omega)
  have d0 := h.row.cellAt (k * 3 + 2) (by omega) (treeCell2 S k)
  rw [e]
  clear e
  go_enter Tryz.func252, Tryz.ntmps252
  go_wp2_with (go_at_call 257; refine (has_any bt ba n S k _ h true (by simp [hk])).mono ?_; rintro e w' ⟨rfl, rfl⟩)
  go_ret
  exact ⟨rfl, rfl⟩
 ·have e : upOf n S x = -1 := by unfold upOf; rw [if_neg hx]
  rw [e]
  clear e
  go_enter Tryz.func252, Tryz.ntmps252
  go_wp2_with (go_at_call 257; refine (has_any bt ba n S x _ h false (by simp [hx])).mono ?_; rintro e w' ⟨rfl, rfl⟩)
  go_ret
  exact ⟨rfl, rfl⟩
def tv (x : Int) : Int := if x = -1 then 0 else x
def tb (x : Int) : Bool := decide (x ≠ -1)
theorem told_any (x : Int) (w : World) : Calls Tryz.prog 256 #[.int .i64 x] w fun e w' => e = .returned (.tuple #[.int .i64 (tv x), .bool (tb x)]) ∧ w' = w := by
 by_cases h : x = -1
 ·subst h; exact told_none w
 ·have e1 : tv x = x := by unfold tv; rw [if_neg h]
  have e2 : tb x = true := by unfold tb; simp [h]
  rw [e1, e2]; exact told_some x w h
theorem left_any (bt ba n : Nat) (S : TS) (x : Int) (w : World) (h : TreesAt w bt ba n S) :
  Calls Tryz.prog 248 #[.pointer (some ⟨bt, 0, none⟩), .int .i64 x] w fun e w' => e = .returned (.tuple #[.int .i64 (tv (kidOf n S x false)), .bool (tb (kidOf n S x false))]) ∧ ∃ k, w' = w.drewN k := by
 generalize hy : kidOf n S x false = y
 have c1 := kid_any bt ba n S x false w h
 rw [hy] at c1
 have c2 := fun W => told_any y W
 go_enter Tryz.func248, Tryz.ntmps248
 go_wp2_with (first | (go_at_call 254; refine c1.mono ?_; rintro e w' ⟨rfl, k, rfl⟩) | (go_at_call 256; refine (c2 _).mono ?_; rintro e w' ⟨rfl, rfl⟩))
 go_ret2
 exact ⟨rfl, _, rfl⟩
theorem right_any (bt ba n : Nat) (S : TS) (x : Int) (w : World) (h : TreesAt w bt ba n S) :
  Calls Tryz.prog 249 #[.pointer (some ⟨bt, 0, none⟩), .int .i64 x] w fun e w' => e = .returned (.tuple #[.int .i64 (tv (kidOf n S x true)), .bool (tb (kidOf n S x true))]) ∧ ∃ k, w' = w.drewN k := by
 generalize hy : kidOf n S x true = y
 have c1 := kid_any bt ba n S x true w h
 rw [hy] at c1
 have c2 := fun W => told_any y W
 go_enter Tryz.func249, Tryz.ntmps249
 go_wp2_with (first | (go_at_call 254; refine c1.mono ?_; rintro e w' ⟨rfl, k, rfl⟩) | (go_at_call 256; refine (c2 _).mono ?_; rintro e w' ⟨rfl, rfl⟩))
 go_ret2
 exact ⟨rfl, _, rfl⟩
theorem up_any (bt ba n : Nat) (S : TS) (x : Int) (w : World) (h : TreesAt w bt ba n S) :
  Calls Tryz.prog 250 #[.pointer (some ⟨bt, 0, none⟩), .int .i64 x] w fun e w' => e = .returned (.tuple #[.int .i64 (tv (upOf n S x)), .bool (tb (upOf n S x))]) ∧ ∃ k, w' = w.drewN k := by
 generalize hy : upOf n S x = y
 have c1 := above_any bt ba n S x w h
 rw [hy] at c1
 have c2 := fun W => told_any y W
 go_enter Tryz.func250, Tryz.ntmps250
 go_wp2_with (first | (go_at_call 252; refine c1.mono ?_; rintro e w' ⟨rfl, rfl⟩) | (go_at_call 256; refine (c2 _).mono ?_; rintro e w' ⟨rfl, rfl⟩))
 go_ret2
 exact ⟨rfl, 0, rfl⟩
def TS.setKid (S : TS) (p : Nat) (s : Bool) (v : Int) : TS := if s then ⟨S.l, fun i => if i = p then v else S.r i, S.u⟩ else ⟨fun i => if i = p then v else S.l i, S.r, S.u⟩
def TS.setUp (S : TS) (p : Nat) (v : Int) : TS := ⟨S.l, S.r, fun i => if i = p then v else S.u i⟩
theorem TreesAt.setKid {w : World} {bt ba n : Nat} {S : TS} (h : TreesAt w bt ba n S) (p : Nat) (s : Bool) (v : Int) :
  TreesAt (w.setCell ⟨ba, p * 3 + (if s then 1 else 0), none⟩ (.int .i64 v)) bt ba n (S.setKid p s v) := by
 refine ⟨h.head.far _ _ h.ne, (h.row.set _ _).ext (fun j hj => ?_), h.ne, h.le⟩
 cases s
 ·unfold treeCell TS.setKid
  by_cases hj2 : j = p * 3
  ·subst hj2; simp
  ·have : ¬ (j % 3 = 0 ∧ j / 3 = p) := by omega
   by_cases h0 : j % 3 = 0
   ·simp [hj2, h0]; intro hh; exfalso; omega
   ·simp [hj2, h0]
 ·unfold treeCell TS.setKid
  by_cases hj2 : j = p * 3 + 1
  ·subst hj2; simp; intro hh; exfalso; omega
  ·by_cases h0 : j % 3 = 1
   ·simp [hj2, h0]; intro hh; exfalso; omega
   ·simp [hj2, h0]
theorem TreesAt.setUp {w : World} {bt ba n : Nat} {S : TS} (h : TreesAt w bt ba n S) (p : Nat) (v : Int) :
  TreesAt (w.setCell ⟨ba, p * 3 + 2, none⟩ (.int .i64 v)) bt ba n (S.setUp p v) := by
 refine ⟨h.head.far _ _ h.ne, (h.row.set _ _).ext (fun j hj => ?_), h.ne, h.le⟩
 unfold treeCell TS.setUp
 by_cases hj2 : j = p * 3 + 2
 ·subst hj2; simp; intro hh; exfalso; omega
 ·by_cases h0 : j % 3 = 0
  ·simp [hj2, h0]
  ·by_cases h1 : j % 3 = 1
   ·simp [hj2, h1]
   ·simp [hj2, h0, h1]; intro hh; exfalso; omega
end Go.Proofs.YtklibcncmbofpaaGreat
