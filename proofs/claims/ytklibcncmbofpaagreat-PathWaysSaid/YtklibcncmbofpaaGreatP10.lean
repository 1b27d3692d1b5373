/-
  Lemmas for PathWays: Pq, Pq2, Pq3. Conditions: those of each lemma.
-/
import Derived.WalkKit
import Derived.WalkSpells
import Derived.WalkLawsBesides
import Derived.BigQuiet
import Derived.Deep.RegionHeld3
import Derived.ProofKit
import Derived.OpenShut
import Derived.Lib.Hide
import Derived.Test.YtklibcncmbofpaaGreatProg
import Derived.Maps.AppendAt
import Derived.StillTailTactics
import Derived.Maps.OwnSet
import Derived.Maps.OwnOps
import Derived.Maps.RangeWalk
import Derived.Deep.RegionLaw
import Derived.Deep.DeepCutAuto
import Derived.Test.YtklibcncmbofpaaGreatP01
import Derived.Test.YtklibcncmbofpaaGreatP03
import Derived.Test.YtklibcncmbofpaaGreatP04
import Derived.Test.YtklibcncmbofpaaGreatP05
import Derived.Test.YtklibcncmbofpaaGreatP06
import Derived.Test.YtklibcncmbofpaaGreatP07
import Derived.Test.YtklibcncmbofpaaGreatP08
import Derived.Test.YtklibcncmbofpaaGreatP09
set_option linter.unusedVariables false
set_option linter.unusedSimpArgs false
namespace Go.Proofs.YtklibcncmbofpaaGreat
open Go Go.RowKit
def pqC (K : NestQ) (pa pn : Nat) (kd d : Int) (q : Nat) (j : Nat) : Value := [Value.int .i64 kd, .int .i64 d, .pointer (some ⟨pa, 0, none⟩), .iface K.ty (.pointer (some ⟨pn, 0, none⟩)), .int .u64 (q : Int)].getD j undef
structure PqM (K : NestQ) (w : World) (p pa pn : Nat) (Fa Fn : List Nat) (kd d : Int) (R : AR) (A : NS) (q : Nat) : Prop where
 head : RowAt w p 124 5 (pqC K pa pn kd d q)
 ar : ArAt w pa Fa R
 nest : K.at_ w pn Fn A
 s1 : p ∉ Fa
 s2 : p ∉ Fn
 s3 : ∀ x, x ∈ Fa → x ∉ Fn
 len : R.sl.length = A.cs.length
 link : ∀ x : Nat, R.v x = inN A (x : Int)
def PqAt (K : NestQ) (w : World) (p : Nat) (F : List Nat) (kd d : Int) (R : AR) (A : NS) (q : Nat) : Prop := ∃ pa pn Fa Fn, F = p :: (Fa ++ Fn) ∧ PqM K w p pa pn Fa Fn kd d R A q
section
variable {K : NestQ} {w : World} {p pa pn : Nat} {Fa Fn F : List Nat} {kd d : Int} {R : AR} {A : NS} {q : Nat}
theorem PqM.c2 (h : PqM K w p pa pn Fa Fn kd d R A q) : w.cell? ⟨p, 2, none⟩ = some (.pointer (some ⟨pa, 0, none⟩)) := h.head.cellAt 2 (by omega) rfl
theorem PqM.c3 (h : PqM K w p pa pn Fa Fn kd d R A q) : w.cell? ⟨p, 3, none⟩ = some (.iface K.ty (.pointer (some ⟨pn, 0, none⟩))) := h.head.cellAt 3 (by omega) rfl
theorem PqM.c4 (h : PqM K w p pa pn Fa Fn kd d R A q) : w.cell? ⟨p, 4, none⟩ = some (.int .u64 (q : Int)) := h.head.cellAt 4 (by omega) rfl
theorem PqM.upd {w' : World} {S : List Nat} (h : PqM K w p pa pn Fa Fn kd d R A q) (hu : Upd S w w') (hS : ∀ x, x ∈ S → x ∉ p :: (Fa ++ Fn)) : PqM K w' p pa pn Fa Fn kd d R A q :=
 ⟨h.head.upd hu (fun e => hS _ e (by simp)), h.ar.upd hu (fun x hx hm => hS x hx (by simp [hm])), K.upd h.nest hu (fun x hx hm => hS x hx (by simp [hm])), h.s1, h.s2, h.s3, h.len, h.link⟩
theorem PqAt.upd {w' : World} {S : List Nat} (h : PqAt K w p F kd d R A q) (hu : Upd S w w') (hS : ∀ x, x ∈ S → x ∉ F) : PqAt K w' p F kd d R A q := by
 obtain ⟨pa, pn, Fa, Fn, rfl, h⟩ := h
 exact ⟨pa, pn, Fa, Fn, rfl, h.upd hu hS⟩
theorem PqAt.upd0 {w' : World} (h : PqAt K w p F kd d R A q) (hu : Upd [] w w') : PqAt K w' p F kd d R A q := h.upd hu (by simp)
theorem PqM.lt (h : PqM K w p pa pn Fa Fn kd d R A q) : ∀ x, x ∈ p :: (Fa ++ Fn) → x < w.heap.size := fun x hx => by
 simp only [List.mem_cons, List.mem_append] at hx
 rcases hx with rfl | hx | hx
 ·exact h.head.lt
 ·exact h.ar.lt x hx
 ·exact K.lt h.nest x hx
theorem PqAt.lt (h : PqAt K w p F kd d R A q) : ∀ x, x ∈ F → x < w.heap.size := by
 obtain ⟨pa, pn, Fa, Fn, rfl, h⟩ := h
 exact h.lt
theorem PqAt.ok (h : PqAt K w p F kd d R A q) : A.Ok ∧ R.Ok ∧ R.sl.length = A.cs.length ∧ ∀ x : Nat, R.v x = inN A (x : Int) := by
 obtain ⟨pa, pn, Fa, Fn, rfl, h⟩ := h
 exact ⟨K.ok h.nest, h.ar.ok, h.len, h.link⟩
theorem PqM.nestG (h : PqM K w p pa pn Fa Fn kd d R A q) {w' : World} {Fn' : List Nat} {A' : NS} (hn : K.at_ w' pn Fn' A') (hu : Upd Fn w w') (hf : ∀ x, x ∈ Fn' → x ∈ Fn ∨ w.heap.size ≤ x) (hl : A'.cs.length = A.cs.length) {R' : AR} (ha : ArAt w' pa Fa R') (hl2 : R'.sl.length = R.sl.length)
  (hk : ∀ x : Nat, R'.v x = inN A' (x : Int)) : PqM K w' p pa pn Fa Fn' kd d R' A' q :=
 ⟨h.head.upd hu h.s2, ha, hn, h.s1, fun e => by rcases hf _ e with e | e; exact h.s2 e; have := h.head.lt; omega, fun x hx e => by rcases hf _ e with e | e; exact h.s3 x hx e; have := h.ar.lt x hx; omega, by rw [hl2, hl]; exact h.len, hk⟩
theorem makeN_in (A : NS) (x : Int) : inN (makeN A) x = inN A x := by unfold makeN; split <;> rfl
theorem makeN_len (A : NS) : (makeN A).cs.length = A.cs.length := by unfold makeN; split <;> rfl
set_option maxRecDepth 10000 in
theorem pnewheap_any (h : PqAt K w p F kd d R A q) :
  Calls Tryz.prog 65 #[.pointer (some ⟨p, 0, none⟩)] w fun e w' => e = .returned (.tuple #[.int .i64 (makeV A), .int .i64 (if makeV A = 0 then 32 else 0)]) ∧ Goes F w w' (fun F' => PqAt K w' p F' kd d R (makeN A) q) := by
 obtain ⟨pa, pn, Fa, Fn, rfl, h⟩ := h
 have c3 := h.c3
 obtain ⟨f, fv, hen, hfv⟩ := K.make h.nest
 unfold Enters at hen
 have hm := (hfv w (Upd.refl _ _)).1
 have hc := (hfv w (Upd.refl _ _)).2
 have HK := Lib.hid (show ∀ w' Fn', K.at_ w' pn Fn' (makeN A) → Upd Fn w w' → (∀ x, x ∈ Fn' → x ∈ Fn ∨ w.heap.size ≤ x) → Goes (p :: (Fa ++ Fn)) w w' (fun F' => PqAt K w' p F' kd d R (makeN A) q) from fun w' Fn' hn hu hf => by
  refine ⟨p :: (Fa ++ Fn'), ⟨pa, pn, Fa, Fn', rfl, h.nestG hn hu hf (makeN_len A) (h.ar.upd hu (fun x hx hm => h.s3 x hm hx)) rfl (fun x => by rw [makeN_in]; exact h.link x)⟩, hu.mono (fun x hx => by simp [hx]), fun x hx => ?_⟩
  simp only [List.mem_cons, List.mem_append] at hx ⊢
  rcases hx with hx | hx | hx
  ·exact Or.inl (Or.inl hx)
  ·exact Or.inl (Or.inr (Or.inl hx))
  ·rcases hf x hx with hx | hx
   ·exact Or.inl (Or.inr (Or.inr hx))
   ·exact Or.inr hx)
 clear h hfv
 generalize makeV A = mv at *
 by_cases hz : mv = 0
 ·subst hz
  go_enter Tryz.func65, Tryz.ntmps65
  go_wp2_with (first
   | ((with_reducible refine (hc).mono ?_); rintro e w1 ⟨rfl, Fn', hn, hu, hf⟩)
   | fail)
  go_ret2
  exact ⟨rfl, HK.out _ _ hn hu hf⟩
 ·have hzb : (mv == 0) = false := by simpa using hz
  rw [if_neg hz]
  clear hz
  go_enter Tryz.func65, Tryz.ntmps65
  go_wp2_with (first
   | ((with_reducible refine (hc).mono ?_); rintro e w1 ⟨rfl, Fn', hn, hu, hf⟩)
   | fail)
  go_ret2
  exact ⟨rfl, HK.out _ _ hn hu hf⟩
end
end Go.Proofs.YtklibcncmbofpaaGreat
namespace Go.Proofs.YtklibcncmbofpaaGreat
open Go Go.RowKit
section
variable {K : NestQ} {w : World} {p pa pn : Nat} {Fa Fn F : List Nat} {kd d : Int} {R : AR} {A : NS} {q : Nat}
theorem put_in {A : NS} {hh x k s : Int} (hB : putB A hh x = true) (y : Nat) : inN (putN A hh x k s) (y : Int) = (inN A (y : Int) || decide ((y : Int) = x)) := by
 obtain ⟨b1, b2, b3⟩ := (putB_iff _ _ _).1 hB
 have b4 := (hasN_iff _ _).1 b1
 have b5 := (slotN_iff _ _).1 b2
 unfold putN
 rw [if_pos hB]
 have e1 : inN (withN A x.toNat ⟨hh, k, s⟩) (y : Int) = true ↔ (inN A (y : Int) || decide ((y : Int) = x)) = true := by
  rw [inN_nat, len_with, c_with, Bool.or_eq_true, inN_nat, decide_eq_true_eq]
  by_cases e : y = x.toNat
  ·rw [if_pos ⟨e, by omega⟩]
   constructor
   ·intro _; right; omega
   ·intro _; exact ⟨by omega, by show 0 < hh; omega⟩
  ·rw [if_neg (fun h => e h.1)]
   constructor
   ·intro h; exact Or.inl h
   ·rintro (h | h)
    ·exact h
    ·omega
 cases h1 : inN (withN A x.toNat ⟨hh, k, s⟩) (y : Int) <;> cases h2 : (inN A (y : Int) || decide ((y : Int) = x)) <;> simp_all
theorem putN_len (A : NS) (h x k s : Int) : (putN A h x k s).cs.length = A.cs.length := by unfold putN; split; exact len_with _ _ _; rfl
theorem take_v {R R' : AR} {x : Nat} (h : R.Ok) (hp : takeR R = some (x, R')) (y : Nat) : R'.v y = (R.v y || decide ((y : Int) = (x : Int))) := by
 obtain ⟨_, h1, h2, _, h3, _⟩ := take_ok h hp
 have e : R'.v y = (R.put x (R.g x + 1, true)).v y := by unfold AR.v AR.put; rw [h3]
 rw [e, AR.v_put]
 by_cases e2 : y = x
 ·rw [if_pos ⟨e2, h1⟩, e2]; simp
 ·rw [if_neg (fun h => e2 h.1), decide_eq_false (by omega)]; simp
set_option maxHeartbeats 4000000 in
set_option maxRecDepth 10000 in
theorem pinsert_yes (h : PqAt K w p F kd d R A q) (hh k : Int) (hB : hasN A hh = true) (hk : -9223372036854775808 ≤ k ∧ k ≤ 9223372036854775807) (hq : q + 1 ≤ 18446744073709551615) {x : Nat} {R' : AR} (hT : takeR R = some (x, R')) :
  Calls Tryz.prog 40 #[.pointer (some ⟨p, 0, none⟩), .int .i64 hh, .int .i64 k] w fun e w' => e = .returned (.tuple #[.agg #[.int .i64 (x : Int), .int .u32 ((R.g x : Int) + 1)], .int .i64 0]) ∧
   Goes F w w' (fun F' => PqAt K w' p F' kd d R' (putN A hh (x : Int) k ((q : Int) + 1)) (q + 1)) := by
 obtain ⟨hh, rfl⟩ : ∃ n : Nat, hh = n := ⟨hh.toNat, by have := (hasN_iff _ _).1 hB; omega⟩
 obtain ⟨pa, pn, Fa, Fn, rfl, h⟩ := h
 have hok := K.ok h.nest
 have hTk := take_ok h.ar.ok hT
 have hlink := h.link
 have hBp : putB A (hh : Int) (x : Int) = true := by
  rw [putB_iff]
  refine ⟨hB, (slotN_iff _ _).2 ⟨by omega, by have := h.len; omega⟩, ?_⟩
  rw [← h.link]; exact hTk.2.2.1
 have hb4 := (hasN_iff _ _).1 hB
 have hhs := hok.h1
 have hsn := hok.c1
 have hxl := hTk.2.1
 have hlen := h.len
 have hac : -9223372036854775808 ≤ k ∧ k ≤ 9223372036854775807 ∧ 0 ≤ (q : Int) + 1 ∧ (q : Int) + 1 ≤ 18446744073709551615 := by omega
 have c2 := h.c2
 have c3' := h.c3
 have c4' := h.c4
 have f4' := h.head.free 4
 have hpl := h.head.lt
 have hFa := h.ar.lt
 have hFn := K.lt h.nest
 have hs1 := h.s1
 have hs2 := h.s2
 have hs3 := h.s3
 have hu0 : Upd [] w (w.alloc (.cells #[.int .i64 0, .int .u32 0] 85)) := (Upd.refl [] w).alloc _
 have hN := K.upd h.nest hu0 (by simp)
 have kt := fun W (hW : Upd [] w W) => artake_some (h.ar.upd hW (by simp)) hT
 obtain ⟨f, fv, hen, hfv⟩ := K.has hh hN
 unfold Enters at hen
 have hm := (hfv _ (Upd.refl _ _)).1
 have hc := (hfv _ (Upd.refl _ _)).2
 rw [hB] at hc
 have hwq : IntKind.u64.wrap ((q : Int) + 1) = (q : Int) + 1 := IntWalk.u64_in _ (by omega)
 have hrF : w.heap.size ∉ Fa := fun e => by have := hFa _ e; omega
 have HH := Lib.hid (And.intro h (And.intro hN (And.intro hac (And.intro hFa (And.intro hFn (And.intro hs3 (And.intro hlink hTk)))))))
 have HBp := Lib.hid hBp
 clear h hfv hN hac hFa hFn hs3 hlink hTk hok hB hBp
 go_enter Tryz.func40, Tryz.ntmps40
 go_upto_region 7 with (first
  | ((with_reducible refine (hc).mono ?_); rintro e w1 ⟨rfl, rfl⟩)
  | ((go_at_call 66; (with_reducible refine (kt _ (by (repeat (first | assumption | exact Upd.refl _ _ | refine Upd.alloc ?_ _ | refine Upd.drew ?_ | refine Upd.drewN ?_ _ | refine Upd.setCell ?_ ?_ _ | focus (left; simp; done) | focus (right; simp; done) | focus (right; simp; omega))))).mono ?_)); rintro e w2 ⟨rfl, Fa', hA2, huA, hfA⟩; (have c3 : w2.cell? ⟨p, 3, none⟩ = some (.iface K.ty (.pointer (some ⟨pn, 0, none⟩))) := huA.kept (hu0.was c3') hs1); (have c4 : w2.cell? ⟨p, 4, none⟩ = some (.int .u64 (q : Int)) := huA.kept (hu0.was c4') hs1); (have f4 : w2.frozen? ⟨p, 4, none⟩ = false := huA.keptF (hu0.was c4') hs1 (hu0.keptF c4' (by simp) f4')); (have q0 : w2.cell? ⟨w.heap.size, 0, none⟩ = some (.int .i64 0) := huA.kept (by go_simp) hrF); (have q1 : w2.cell? ⟨w.heap.size, 1, none⟩ = some (.int .u32 0) := huA.kept (by go_simp) hrF); (have f0 : w2.frozen? ⟨w.heap.size, 0, none⟩ = false := huA.keptF (v := .int .i64 0) (by go_simp) hrF (by go_simp)); (have f1 : w2.frozen? ⟨w.heap.size, 1, none⟩ = false := huA.keptF (v := .int .u32 0) (by go_simp) hrF (by go_simp)); (have hp2 := World.block_lt_of_cell? w2 _ c3); (have hr2 := World.block_lt_of_cell? w2 _ q0))
  | fail)
 obtain ⟨h, hN0, hac, hFa, hFn, hs3, hlink, hTk⟩ := HH.out
 have hd2 : RowAt w2 p 124 5 (pqC K pa pn kd d q) := (h.head.upd hu0 (by simp)).upd huA hs1
 have hN2 : K.at_ w2 pn Fn A := K.upd hN0 huA hs3
 have hUp : Upd [p] w2 ((w2.setCell ⟨p, 4, none⟩ (.int .u64 ((q : Int) + 1))).alloc (.cells #[.int .i64 (x : Int), .int .u32 ((R.g x : Int) + 1)] 85)) := ((Upd.refl _ _).setCell (Or.inl (by simp)) _).alloc _
 have hpFa' : p ∉ Fa' := fun e => by rcases hfA _ e with e | e; exact hs1 e; simp at e; omega
 have hrFa : ∀ z, z ∈ Fa' → z < w2.heap.size := hA2.lt
 refine wp_nm (fun W => RowAt W p 124 5 (pqC K pa pn kd d (q + 1)) ∧ ArAt W pa Fa' R' ∧ K.at_ W pn Fn A ∧ W.cell? ⟨w2.heap.size, 0, none⟩ = some (.int .i64 (x : Int)) ∧ W.cell? ⟨w2.heap.size, 1, none⟩ = some (.int .u32 ((R.g x : Int) + 1)) ∧
  W.cell? ⟨w.heap.size, 0, none⟩ = some (.int .i64 0) ∧ W.cell? ⟨w.heap.size, 1, none⟩ = some (.int .u32 0) ∧ W.frozen? ⟨w.heap.size, 0, none⟩ = false ∧ W.frozen? ⟨w.heap.size, 1, none⟩ = false ∧ Upd [p] w2 W)
  ⟨((hd2.set 4 _).ext (fun j hj => ?_)).alloc _, hA2.upd hUp (fun z hz => by simp at hz; rw [hz]; exact hpFa'), K.upd hN2 hUp (fun z hz => by simp at hz; rw [hz]; exact hs2), by go_simp, by go_simp, hUp.kept q0 (by simp; omega), hUp.kept q1 (by simp; omega), hUp.keptF q0 (by simp; omega) f0, hUp.keptF q1 (by simp; omega) f1, hUp⟩ ?_
 ·rcases (by omega : j = 0 ∨ j = 1 ∨ j = 2 ∨ j = 3 ∨ j = 4) with rfl | rfl | rfl | rfl | rfl <;> simp [pqC]
 rintro W ⟨hd, hA, hN, x0, x1, r0, r1, fr0, fr1, hUW⟩
 have z3 : W.cell? ⟨p, 3, none⟩ = some (.iface K.ty (.pointer (some ⟨pn, 0, none⟩))) := hd.cellAt 3 (by omega) rfl
 have z4 : W.cell? ⟨p, 4, none⟩ = some (.int .u64 ((q : Int) + 1)) := hd.cellAt 4 (by omega) (by simp [pqC])
 obtain ⟨f2, fv2, hen2, hfv2⟩ := K.insert hh x k ((q : Int) + 1) hac HBp.out hN
 unfold Enters at hen2
 have hm2 := (hfv2 W.drew ((Upd.refl _ _).drew)).1
 have hc2 := (hfv2 W.drew ((Upd.refl _ _).drew)).2
 have hszW := hUW.size
 have hrw : w.heap.size < W.heap.size := by omega
 have hxw : w2.heap.size < W.heap.size := World.block_lt_of_cell? W _ x0
 have hxFn : w2.heap.size ∉ Fn := fun e => by have := hFn _ e; omega
 have hrFn : w.heap.size ∉ Fn := fun e => by have := hFn _ e; omega
 have hmemW : ∀ z, z ∈ Fa' → z ∈ Fn → False := fun z h1 h2 => by
  rcases hfA z h1 with e | e
  ·exact hs3 z e h2
  ·have := hFn z h2; simp at e; omega
 have hFAlt : ∀ z, z ∈ Fa' → z < W.heap.size := hA.lt
 have hUw2 : Upd (p :: (Fa ++ Fn)) w w2 := Upd.trans ((Upd.refl _ _).alloc _) (huA.mono (fun z hz => by simp [hz]))
 have HFIN : Hid (∀ w5 F5, K.at_ w5 pn F5 (putN A hh (x : Int) k ((q : Int) + 1)) → Upd Fn W.drew w5 → (∀ z, z ∈ F5 → z ∈ Fn ∨ W.drew.heap.size ≤ z) → ∀ v0 v1, Goes (p :: (Fa ++ Fn)) w ((w5.setCell ⟨w.heap.size, 0, none⟩ v0).setCell ⟨w.heap.size, 1, none⟩ v1) (fun F' => PqAt K ((w5.setCell ⟨w.heap.size, 0, none⟩ v0).setCell ⟨w.heap.size, 1, none⟩ v1) p F' kd d R' (putN A hh (x : Int) k ((q : Int) + 1)) (q + 1))) := by
  intro w5 F5 hA5 hu5' hF5 v0 v1
  have hu5 : Upd Fn W w5 := ((Upd.refl Fn W).drew).trans hu5'
  have hr : Upd [w.heap.size] w5 ((w5.setCell ⟨w.heap.size, 0, none⟩ v0).setCell ⟨w.heap.size, 1, none⟩ v1) := ((Upd.refl _ _).setCell (Or.inl (by simp)) _).setCell (Or.inl (by simp)) _
  have hrF5 : w.heap.size ∉ F5 := fun e => by rcases hF5 _ e with e | e; exact hrFn e; have e' : W.heap.size ≤ w.heap.size := e; omega
  have hrFa' : w.heap.size ∉ Fa' := fun e => by rcases hfA _ e with e | e; have := hFa _ e; omega; simp at e; omega
  refine ⟨p :: (Fa' ++ F5), ⟨pa, pn, Fa', F5, rfl, ⟨(hd.upd hu5 hs2).upd hr (by simp; omega), (hA.upd hu5 (fun z h1 h2 => hmemW z h2 h1)).upd hr (fun z hz => by simp at hz; rw [hz]; exact hrFa'), K.upd hA5 hr (fun z hz => by simp at hz; rw [hz]; exact hrF5), hpFa', fun e => ?_, fun z h1 h2 => ?_, ?_, fun y => ?_⟩⟩, ?_, fun z hz => ?_⟩
  ·rcases hF5 _ e with e | e
   ·exact hs2 e
   ·have e' : W.heap.size ≤ p := e; omega
  ·rcases hF5 _ h2 with e | e
   ·exact hmemW z h1 e
   ·have e' : W.heap.size ≤ z := e; have := hFAlt z h1; omega
  ·rw [putN_len, ← hlen, hTk.2.2.2.2.1]; simp
  ·rw [take_v h.ar.ok hT, put_in HBp.out, hlink]
  ·have h1 := (hUw2.trans (hUW.mono (by simp))).trans (hu5.mono (fun z hz => by simp [hz]))
   exact (h1.setCell (Or.inr (Nat.le_refl _)) _).setCell (Or.inr (Nat.le_refl _)) _
  ·simp only [List.mem_cons, List.mem_append] at hz ⊢
   rcases hz with hz | hz | hz
   ·exact Or.inl (Or.inl hz)
   ·rcases hfA z hz with e | e
    ·exact Or.inl (Or.inr (Or.inl e))
    ·simp at e; exact Or.inr (by omega)
   ·rcases hF5 z hz with e | e
    ·exact Or.inl (Or.inr (Or.inr e))
    ·have e' : W.heap.size ≤ z := e; exact Or.inr (by omega)
 clear h hN0 hac hFa hFn hlink hTk hd2 hN2 hd hA hN hUW hfv2 q0 q1 f0 f1 c3 c4 f4 c2 c3' c4' f4' hc hm hen kt hA2 hUp huA hfA hpFa' hmemW hFAlt hUw2
 go_region_law
  (first
   | (go_simp; (with_reducible refine (hc2).mono ?_); rintro e w5 ⟨rfl, F5, hA5, hu5, hF5⟩; (have y0 := hu5.kept x0 hxFn); (have y1 := hu5.kept x1 hxFn); (have t0 := hu5.kept r0 hrFn); (have t1 := hu5.kept r1 hrFn); (have tf0 := hu5.keptF r0 hrFn fr0); (have tf1 := hu5.keptF r1 hrFn fr1)))
 all_goals
  go_wp2
  exact bodyPost_ret (v := .tuple #[.agg #[.int .i64 (x : Int), .int .u32 ((R.g x : Int) + 1)], .int .i64 0]) (by simp [results, Tryz.results40, go_sem, t0, t1]) rfl ⟨rfl, HFIN.out _ _ hA5 hu5 hF5 _ _⟩
end
end Go.Proofs.YtklibcncmbofpaaGreat
namespace Go.Proofs.YtklibcncmbofpaaGreat
open Go Go.RowKit
section
variable {K : NestQ} {w : World} {p pa pn : Nat} {Fa Fn F : List Nat} {kd d : Int} {R : AR} {A : NS} {q : Nat}
set_option maxHeartbeats 2000000 in
set_option maxRecDepth 10000 in
theorem pentry_yes (h : PqAt K w p F kd d R A q) (x : Nat) (hv : R.v x = true) :
  Calls Tryz.prog 69 #[.pointer (some ⟨p, 0, none⟩), .agg #[.int .i64 (x : Int), .int .u32 (R.g x : Int)]] w fun e w' => e = .returned (.tuple #[.agg #[.int .i64 (A.c x).k, .int .u64 (A.c x).s], .int .i64 0]) ∧ Upd [] w w' := by
 obtain ⟨pa, pn, Fa, Fn, rfl, h⟩ := h
 have hin : inN A (x : Int) = true := by rw [← h.link]; exact hv
 have hx := AR.v_lt hv
 have hgm := h.ar.ok.gm x
 have hmo := h.ar.ok.mst
 have hlv : liveR R (x : Int) (R.g x : Int) = true := by
  unfold liveR
  rw [show ((x : Nat) : Int).toNat = x by omega, hv, decide_eq_true (by omega : (0 : Int) ≤ x), decide_eq_true (by omega : (x : Int) < R.sl.length)]
  simp
 have kl := fun W (hW : Upd [] w W) => arlive_any (h.ar.upd hW (by simp)) (x : Int) (R.g x : Int) (by omega)
 rw [hlv] at kl
 have c2' := h.c2
 have c3' := h.c3
 have HH := Lib.hid h
 clear h hlv hv
 generalize R.g x = gx at *
 go_enter Tryz.func69, Tryz.ntmps69
 go_upto_region 1 with (fail)
 refine wp_nm (fun W => W.cell? ⟨w.heap.size, 0, none⟩ = some (.int .i64 (x : Int)) ∧ W.cell? ⟨w.heap.size, 1, none⟩ = some (.int .u32 (gx : Int)) ∧ W.cell? ⟨w.heap.size + 1, 0, none⟩ = some (.int .i64 0) ∧ W.cell? ⟨w.heap.size + 1, 1, none⟩ = some (.int .u64 0) ∧ W.frozen? ⟨w.heap.size + 1, 0, none⟩ = false ∧ W.frozen? ⟨w.heap.size + 1, 1, none⟩ = false ∧ Upd [] w W) ⟨by simp, by simp, by simp, by simp, by simp, by simp, by (repeat (first | assumption | exact Upd.refl _ _ | refine Upd.alloc ?_ _ | refine Upd.drew ?_ | refine Upd.drewN ?_ _ | refine Upd.setCell ?_ ?_ _ | focus (left; simp; done) | focus (right; simp; done) | focus (right; simp; omega)))⟩ ?_
 rintro W ⟨x0, x1, r0, r1, fr0, fr1, hu⟩
 have kl1 := fun X (hX : Upd [] W X) => kl X (hu.trans hX)
 have e0 : ∀ X, Upd [] W X → X.cell? ⟨w.heap.size, 0, none⟩ = some (.int .i64 (x : Int)) := fun X h => h.was x0
 have e1 : ∀ X, Upd [] W X → X.cell? ⟨w.heap.size, 1, none⟩ = some (.int .u32 (gx : Int)) := fun X h => h.was x1
 have e2 : ∀ X, Upd [] W X → X.cell? ⟨p, 2, none⟩ = some (.pointer (some ⟨pa, 0, none⟩)) := fun X h => h.was (hu.was c2')
 have HU := Lib.hid (And.intro hu (And.intro x0 (And.intro r0 (And.intro r1 (And.intro fr0 fr1)))))
 clear hu x0 x1 r0 r1 fr0 fr1 kl c2'
 go_region_held3 (Upd [] W) (repeat (first | assumption | exact Upd.refl _ _ | refine Upd.drew ?_ | refine Upd.alloc ?_ _ | refine Upd.setCell ?_ ?_ _ | focus (left; simp; done) | focus (right; simp; done) | focus (right; simp; omega) | (apply Upd.trans; rotate_left; assumption)))
  (first
   | ((go_at_call 83; (with_reducible refine (kl1 _ (by (repeat (first | assumption | exact Upd.refl _ _ | refine Upd.drew ?_ | refine Upd.alloc ?_ _ | refine Upd.setCell ?_ ?_ _ | focus (left; simp; done) | focus (right; simp; done) | focus (right; simp; omega) | (apply Upd.trans; rotate_left; assumption))))).mono ?_)); rintro e w1 ⟨rfl, hu1⟩; (have hv1 : Upd [] W w1 := Upd.trans (by (repeat (first | assumption | exact Upd.refl _ _ | refine Upd.drew ?_ | refine Upd.alloc ?_ _ | refine Upd.setCell ?_ ?_ _ | focus (left; simp; done) | focus (right; simp; done) | focus (right; simp; omega) | (apply Upd.trans; rotate_left; assumption)))) hu1)))
 go_upto_region 3 with (fail)
 obtain ⟨hu, x0, r0, r1, fr0, fr1⟩ := HU.out
 refine wp_nm (fun X => Upd [] W X) (by (repeat (first | assumption | exact Upd.refl _ _ | refine Upd.alloc ?_ _ | refine Upd.drew ?_ | refine Upd.drewN ?_ _ | refine Upd.setCell ?_ ?_ _ | focus (left; simp; done) | focus (right; simp; done) | focus (right; simp; omega)))) ?_
 intro X hX
 have y0 := hX.was x0
 have z3 := hX.was (hu.was c3')
 have t0 := hX.was r0
 have t1 := hX.was r1
 have ft0 := hX.keptF r0 (by simp) fr0
 have ft1 := hX.keptF r1 (by simp) fr1
 have hN := K.upd HH.out.nest (hu.trans hX) (by simp)
 obtain ⟨f, fv, hen, hfv⟩ := K.entry (x : Int) hN
 unfold Enters at hen
 have hm := (hfv X.drew ((Upd.refl _ _).drew)).1
 have hc := (hfv X.drew ((Upd.refl _ _).drew)).2
 have huB : Upd [] X (X.alloc (.cells #[.int .i64 0, .int .u64 0] 129)).drew := ((Upd.refl _ _).alloc _).drew
 have tB0 := huB.was t0
 have tB1 := huB.was t1
 have tfB0 := huB.keptF t0 (by simp) ft0
 have tfB1 := huB.keptF t1 (by simp) ft1
 have nB0 : (X.alloc (.cells #[.int .i64 0, .int .u64 0] 129)).drew.cell? ⟨X.heap.size, 0, none⟩ = some (.int .i64 0) := by simp
 have nB1 : (X.alloc (.cells #[.int .i64 0, .int .u64 0] 129)).drew.cell? ⟨X.heap.size, 1, none⟩ = some (.int .u64 0) := by simp
 have nfB0 : (X.alloc (.cells #[.int .i64 0, .int .u64 0] 129)).drew.frozen? ⟨X.heap.size, 0, none⟩ = false := by simp
 have nfB1 : (X.alloc (.cells #[.int .i64 0, .int .u64 0] 129)).drew.frozen? ⟨X.heap.size, 1, none⟩ = false := by simp
 have HB := Lib.hid (And.intro tB0 (And.intro tB1 (And.intro tfB0 (And.intro tfB1 (And.intro nB0 (And.intro nB1 (And.intro nfB0 nfB1)))))))
 clear tB0 tB1 tfB0 tfB1 nB0 nB1 nfB0 nfB1
 have hmB := (hfv _ huB).1
 have hcB := (hfv _ huB).2
 rw [hin, show ((x : Nat) : Int).toNat = x by omega] at hc hcB
 simp only [if_true] at hc hcB
 have hrl := World.block_lt_of_cell? X _ t0
 have hxl := World.block_lt_of_cell? X _ y0
 have hpl := World.block_lt_of_cell? X _ z3
 dsimp only at hrl hxl hpl
 have HU2 := Lib.hid (hu.trans hX)
 clear hu x0 r0 r1 fr0 fr1 hX hN hfv huB kl1 e0 e1 e2 c3'
 generalize hkk : (A.c x).k = kk at *
 generalize hss : (A.c x).s = ss at *
 have HKS := Lib.hid (And.intro hkk hss)
 clear hkk hss
 go_region_law
  (first
   | (go_simp; (with_reducible refine (hc).mono ?_); rintro e w5 ⟨rfl, hu5⟩; (have s0 : w5.cell? ⟨w.heap.size + 1, 0, none⟩ = some (.int .i64 0) := hu5.was t0); (have s1 : w5.cell? ⟨w.heap.size + 1, 1, none⟩ = some (.int .u64 0) := hu5.was t1); (have fs0 := hu5.keptF (v := .int .i64 0) t0 (by simp) ft0); (have fs1 := hu5.keptF (v := .int .u64 0) t1 (by simp) ft1); (have hsl := World.block_lt_of_cell? w5 _ s0))
   | (go_simp; (with_reducible refine (hcB).mono ?_); rintro e w5 ⟨rfl, hu5⟩; (have s0 := hu5.was HB.out.1); (have s1 := hu5.was HB.out.2.1); (have fs0 := hu5.keptF HB.out.1 (by simp) HB.out.2.2.1); (have fs1 := hu5.keptF HB.out.2.1 (by simp) HB.out.2.2.2.1); (have hsl := World.block_lt_of_cell? w5 _ s0); (have b0 := hu5.was HB.out.2.2.2.2.1); (have b1 := hu5.was HB.out.2.2.2.2.2.1); (have fb0 := hu5.keptF HB.out.2.2.2.2.1 (by simp) HB.out.2.2.2.2.2.2.1); (have fb1 := hu5.keptF HB.out.2.2.2.2.2.1 (by simp) HB.out.2.2.2.2.2.2.2)))
 all_goals
  go_wp2
  have h5 : Upd [] w w5 := HU2.out.trans (Upd.trans (by (repeat (first | assumption | exact Upd.refl _ _ | refine Upd.alloc ?_ _ | refine Upd.drew ?_ | refine Upd.drewN ?_ _ | refine Upd.setCell ?_ ?_ _ | focus (left; simp; done) | focus (right; simp; done) | focus (right; simp; omega)))) hu5)
  have h6 := h5.size
  exact bodyPost_ret (v := .tuple #[.agg #[.int .i64 kk, .int .u64 ss], .int .i64 0]) (by simp [results, Tryz.results69, go_sem, *]) rfl ⟨by rw [HKS.out.1, HKS.out.2], by (repeat (first | assumption | exact Upd.refl _ _ | refine Upd.alloc ?_ _ | refine Upd.drew ?_ | refine Upd.drewN ?_ _ | refine Upd.setCell ?_ ?_ _ | focus (left; simp; done) | focus (right; simp; done) | focus (right; simp; omega)))⟩
end
end Go.Proofs.YtklibcncmbofpaaGreat
