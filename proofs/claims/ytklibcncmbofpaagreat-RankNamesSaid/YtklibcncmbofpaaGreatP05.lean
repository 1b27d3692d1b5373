/-
  Lemmas for RankNames: Pq3, Pq4, Pq5, Pq6, Pq7, MapH, SameW, SameSl, Edg, Idx, Spine, Spine2. Conditions: those of each lemma.
-/
import Derived.Deep.RegionHeld3
import Derived.WalkKit
import Derived.WalkSpells
import Derived.WalkLawsBesides
import Derived.BigQuiet
import Derived.ProofKit
import Derived.OpenShut
import Derived.Lib.Hide
import Derived.Test.YtklibcncmbofpaaGreatProg
import Derived.Maps.AppendAt
import Derived.StillTailTactics
import Derived.Maps.OwnSet
import Derived.Maps.OwnOps
import Derived.Maps.RangeWalk
import Derived.Deep.RegionLaw
import Derived.Deep.DeepCutAuto
import Derived.DeepKeys4
import Derived.Deep.Slices
import Derived.Deep.Strs
import Derived.Lib.Mul64
import Derived.Laws.Bits64b
import Derived.IntWalk
import Derived.Test.YtklibcncmbofpaaGreatP01
import Derived.Test.YtklibcncmbofpaaGreatP02
import Derived.Test.YtklibcncmbofpaaGreatP03
import Derived.Test.YtklibcncmbofpaaGreatP04
set_option linter.unusedVariables false
set_option linter.unusedSimpArgs false
namespace Go.Proofs.YtklibcncmbofpaaGreat
open Go Go.RowKit
section
variable {K : NestQ} {w : World} {p pa pn : Nat} {Fa Fn F : List Nat} {kd d : Int} {R : AR} {A : NS} {q : Nat}
set_option maxHeartbeats 2000000 in
set_option maxRecDepth 10000 in
theorem pentry_yes (h : PqAt K w p F kd d R A q) (x : Nat) (hv : R.v x = true) :
  Calls Tryz.prog 69 #[.pointer (some ⟨p, 0, none⟩), .agg #[.int .i64 (x : Int), .int .u32 (R.g x : Int)]] w fun e w' => e = .returned (.tuple #[.agg #[.int .i64 (A.c x).k, .int .u64 (A.c x).s], .int .i64 0]) ∧ Upd [] w w' := by
 obtain ⟨pa, pn, Fa, Fn, rfl, h⟩ := h
 have hin : inN A (x : Int) = true := by rw [← h.link]; exact hv
 have hx := AR.v_lt hv
 have hgm := h.ar.ok.gm x
 have hmo := h.ar.ok.mst
 have hlv : liveR R (x : Int) (R.g x : Int) = true := by
  unfold liveR
  rw [show ((x : Nat) : Int).toNat = x by omega, hv, decide_eq_true (by omega : (0 : Int) ≤ x), decide_eq_true (by omega : (x : Int) < R.sl.length)]
  simp
 have kl := fun W (hW : Upd [] w W) => arlive_any (h.ar.upd hW (by simp)) (x : Int) (R.g x : Int) (by omega)
 rw [hlv] at kl
 have c2' := h.c2
 have c3' := h.c3
 have HH := Lib.hid h
 clear h hlv hv
 generalize R.g x = gx at *
 go_enter Tryz.func69, Tryz.ntmps69
 go_upto_region 1 with (fail)
 refine wp_nm (fun W => W.cell? ⟨w.heap.size, 0, none⟩ = some (.int .i64 (x : Int)) ∧ W.cell? ⟨w.heap.size, 1, none⟩ = some (.int .u32 (gx : Int)) ∧ W.cell? ⟨w.heap.size + 1, 0, none⟩ = some (.int .i64 0) ∧ W.cell? ⟨w.heap.size + 1, 1, none⟩ = some (.int .u64 0) ∧ W.frozen? ⟨w.heap.size + 1, 0, none⟩ = false ∧ W.frozen? ⟨w.heap.size + 1, 1, none⟩ = false ∧ Upd [] w W) ⟨by simp, by simp, by simp, by simp, by simp, by simp, by (repeat (first | assumption | exact Upd.refl _ _ | refine Upd.alloc ?_ _ | refine Upd.drew ?_ | refine Upd.drewN ?_ _ | refine Upd.setCell ?_ ?_ _ | focus (left; simp; done) | focus (right; simp; done) | focus (right; simp; omega)))⟩ ?_
 rintro W ⟨x0, x1, r0, r1, fr0, fr1, hu⟩
 have kl1 := fun X (hX : Upd [] W X) => kl X (hu.trans hX)
 have e0 : ∀ X, Upd [] W X → X.cell? ⟨w.heap.size, 0, none⟩ = some (.int .i64 (x : Int)) := fun X h => h.was x0
 have e1 : ∀ X, Upd [] W X → X.cell? ⟨w.heap.size, 1, none⟩ = some (.int .u32 (gx : Int)) := fun X h => h.was x1
 have e2 : ∀ X, Upd [] W X → X.cell? ⟨p, 2, none⟩ = some (.pointer (some ⟨pa, 0, none⟩)) := fun X h => h.was (hu.was c2')
 have HU := Lib.hid (And.intro hu (And.intro x0 (And.intro r0 (And.intro r1 (And.intro fr0 fr1)))))
 clear hu x0 x1 r0 r1 fr0 fr1 kl c2'
 go_region_held3 (Upd [] W) (repeat (first | assumption | exact Upd.refl _ _ | refine Upd.drew ?_ | refine Upd.alloc ?_ _ | refine Upd.setCell ?_ ?_ _ | focus (left; simp; done) | focus (right; simp; done) | focus (right; simp; omega) | (apply Upd.trans; rotate_left; assumption)))
  (first
   | ((go_at_call 83; (with_reducible refine (kl1 _ (by (repeat (first | assumption | exact Upd.refl _ _ | refine Upd.drew ?_ | refine Upd.alloc ?_ _ | refine Upd.setCell ?_ ?_ _ | focus (left; simp; done) | focus (right; simp; done) | focus (right; simp; omega) | (apply Upd.trans; rotate_left; assumption))))).mono ?_)); rintro e w1 ⟨rfl, hu1⟩; (have hv1 : Upd [] W w1 := Upd.trans (by (repeat (first | assumption | exact Upd.refl _ _ | refine Upd.drew ?_ | refine Upd.alloc ?_ _ | refine Upd.setCell ?_ ?_ _ | focus (left; simp; done) | focus (right; simp; done) | focus (right; simp; omega) | (apply Upd.trans; rotate_left; assumption)))) hu1)))
 go_upto_region 3 with (fail)
 obtain ⟨hu, x0, r0, r1, fr0, fr1⟩ := HU.out
 refine wp_nm (fun X => Upd [] W X) (by (repeat (first | assumption | exact Upd.refl _ _ | refine Upd.alloc ?_ _ | refine Upd.drew ?_ | refine Upd.drewN ?_ _ | refine Upd.setCell ?_ ?_ _ | focus (left; simp; done) | focus (right; simp; done) | focus (right; simp; omega)))) ?_
 intro X hX
 have y0 := hX.was x0
 have z3 := hX.was (hu.was c3')
 have t0 := hX.was r0
 have t1 := hX.was r1
 have ft0 := hX.keptF r0 (by simp) fr0
 have ft1 := hX.keptF r1 (by simp) fr1
 have hN := K.upd HH.out.nest (hu.trans hX) (by simp)
 obtain ⟨f, fv, hen, hfv⟩ := K.entry (x : Int) hN
 unfold Enters at hen
 have hm := (hfv X.drew ((Upd.refl _ _).drew)).1
 have hc := (hfv X.drew ((Upd.refl _ _).drew)).2
 have huB : Upd [] X (X.alloc (.cells #[.int .i64 0, .int .u64 0] 129)).drew := ((Upd.refl _ _).alloc _).drew
 have tB0 := huB.was t0
 have tB1 := huB.was t1
 have tfB0 := huB.keptF t0 (by simp) ft0
 have tfB1 := huB.keptF t1 (by simp) ft1
 have nB0 : (X.alloc (.cells #[.int .i64 0, .int .u64 0] 129)).drew.cell? ⟨X.heap.size, 0, none⟩ = some (.int .i64 0) := by simp
 have nB1 : (X.alloc (.cells #[.int .i64 0, .int .u64 0] 129)).drew.cell? ⟨X.heap.size, 1, none⟩ = some (.int .u64 0) := by simp
 have nfB0 : (X.alloc (.cells #[.int .i64 0, .int .u64 0] 129)).drew.frozen? ⟨X.heap.size, 0, none⟩ = false := by simp
 have nfB1 : (X.alloc (.cells #[.int .i64 0, .int .u64 0] 129)).drew.frozen? ⟨X.heap.size, 1, none⟩ = false := by simp
 have HB := Lib.hid (And.intro tB0 (And.intro tB1 (And.intro tfB0 (And.intro tfB1 (And.intro nB0 (And.intro nB1 (And.intro nfB0 nfB1)))))))
 clear tB0 tB1 tfB0 tfB1 nB0 nB1 nfB0 nfB1
 have hmB := (hfv _ huB).1
 have hcB := (hfv _ huB).2
 rw [hin, show ((x : Nat) : Int).toNat = x by omega] at hc hcB
 simp only [if_true] at hc hcB
 have hrl := World.block_lt_of_cell? X _ t0
 have hxl := World.block_lt_of_cell? X _ y0
 have hpl := World.block_lt_of_cell? X _ z3
 dsimp only at hrl hxl hpl
 have HU2 := Lib.hid (hu.trans hX)
 clear hu x0 r0 r1 fr0 fr1 hX hN hfv huB kl1 e0 e1 e2 c3'
 generalize hkk : (A.c x).k = kk at *
 generalize hss : (A.c x).s = ss at *
 have HKS := Lib.hid (And.intro hkk hss)
 clear hkk hss
 go_region_law
  (first
   | (go_simp; (with_reducible refine (hc).mono ?_); rintro e w5 ⟨rfl, hu5⟩; (have s0 : w5.cell? ⟨w.heap.size + 1, 0, none⟩ = some (.int .i64 0) := hu5.was t0); (have s1 : w5.cell? ⟨w.heap.size + 1, 1, none⟩ = some (.int .u64 0) := hu5.was t1); (have fs0 := hu5.keptF (v := .int .i64 0) t0 (by simp) ft0); (have fs1 := hu5.keptF (v := .int .u64 0) t1 (by simp) ft1); (have hsl := World.block_lt_of_cell? w5 _ s0))
   | (go_simp; (with_reducible refine (hcB).mono ?_); rintro e w5 ⟨rfl, hu5⟩; (have s0 := hu5.was HB.out.1); (have s1 := hu5.was HB.out.2.1); (have fs0 := hu5.keptF HB.out.1 (by simp) HB.out.2.2.1); (have fs1 := hu5.keptF HB.out.2.1 (by simp) HB.out.2.2.2.1); (have hsl := World.block_lt_of_cell? w5 _ s0); (have b0 := hu5.was HB.out.2.2.2.2.1); (have b1 := hu5.was HB.out.2.2.2.2.2.1); (have fb0 := hu5.keptF HB.out.2.2.2.2.1 (by simp) HB.out.2.2.2.2.2.2.1); (have fb1 := hu5.keptF HB.out.2.2.2.2.2.1 (by simp) HB.out.2.2.2.2.2.2.2)))
 all_goals
  go_wp2
  have h5 : Upd [] w w5 := HU2.out.trans (Upd.trans (by (repeat (first | assumption | exact Upd.refl _ _ | refine Upd.alloc ?_ _ | refine Upd.drew ?_ | refine Upd.drewN ?_ _ | refine Upd.setCell ?_ ?_ _ | focus (left; simp; done) | focus (right; simp; done) | focus (right; simp; omega)))) hu5)
  have h6 := h5.size
  exact bodyPost_ret (v := .tuple #[.agg #[.int .i64 kk, .int .u64 ss], .int .i64 0]) (by simp [results, Tryz.results69, go_sem, *]) rfl ⟨by rw [HKS.out.1, HKS.out.2], by (repeat (first | assumption | exact Upd.refl _ _ | refine Upd.alloc ?_ _ | refine Upd.drew ?_ | refine Upd.drewN ?_ _ | refine Upd.setCell ?_ ?_ _ | focus (left; simp; done) | focus (right; simp; done) | focus (right; simp; omega)))⟩
end
end Go.Proofs.YtklibcncmbofpaaGreat
namespace Go.Proofs.YtklibcncmbofpaaGreat
open Go Go.RowKit
section
variable {K : NestQ} {w : World} {p pa pn : Nat} {Fa Fn F : List Nat} {kd d : Int} {R : AR} {A : NS} {q : Nat}
theorem PqM.moved (h : PqM K w p pa pn Fa Fn kd d R A q) {w' : World} {Fn' : List Nat} (hn : K.at_ w' pn Fn' A) (hu : Upd Fn w w') (hf : ∀ x, x ∈ Fn' → x ∈ Fn ∨ w.heap.size ≤ x) : Goes (p :: (Fa ++ Fn)) w w' (fun F' => PqAt K w' p F' kd d R A q) := by
 refine ⟨p :: (Fa ++ Fn'), ⟨pa, pn, Fa, Fn', rfl, h.nestG hn hu hf rfl (h.ar.upd hu (fun x hx hm => h.s3 x hm hx)) rfl h.link⟩, hu.mono (fun x hx => by simp [hx]), fun x hx => ?_⟩
 simp only [List.mem_cons, List.mem_append] at hx ⊢
 rcases hx with hx | hx | hx
 ·exact Or.inl (Or.inl hx)
 ·exact Or.inl (Or.inr (Or.inl hx))
 ·rcases hf x hx with hx | hx
  ·exact Or.inl (Or.inr (Or.inr hx))
  ·exact Or.inr hx
theorem Goes.beh {F S : List Nat} {w w0 w1 w2 : World} {p : Nat} {kd d : Int} (h : Goes F w0 w1 (fun F' => PqAt K w1 p F' kd d R A q)) (hu : Upd S w1 w2) (hw : Upd [] w w0) (hS : ∀ r, r ∈ S → r < w0.heap.size ∧ r ∉ F ∧ w.heap.size ≤ r) : Goes F w w2 (fun F' => PqAt K w2 p F' kd d R A q) := by
 obtain ⟨F', h1, h2, h3⟩ := h
 refine ⟨F', h1.upd hu (fun r hr hm => ?_), ((hw.mono (by simp)).trans h2).joined hu (fun r hr => Or.inr (hS r hr).2.2), fun x hx => by rcases h3 x hx with h | h; exact Or.inl h; exact Or.inr (Nat.le_trans hw.size h)⟩
 rcases h3 r hm with e | e
 ·exact (hS r hr).2.1 e
 ·have := (hS r hr).1; omega
set_option maxHeartbeats 2000000 in
set_option maxRecDepth 10000 in
theorem pfirst_some (h : PqAt K w p F kd d R A q) (hh : Int) {m : Nat} (hM : minN A hh = some m) :
  Calls Tryz.prog 68 #[.pointer (some ⟨p, 0, none⟩), .int .i64 hh] w fun e w' => e = .returned (.tuple #[.agg #[.int .i64 (m : Int), .int .u32 (R.g m : Int)], .int .i64 0]) ∧ Goes F w w' (fun F' => PqAt K w' p F' kd d R A q) := by
 obtain ⟨pa, pn, Fa, Fn, rfl, h⟩ := h
 have hok := K.ok h.nest
 obtain ⟨m1, m2, m3, m4⟩ := minN_in hM
 have hB : hasN A hh = true := by rw [← m3]; have := inN_has hok m4; simpa using this
 obtain ⟨hh, rfl⟩ : ∃ n : Nat, hh = n := ⟨hh.toNat, by have := (hasN_iff _ _).1 hB; omega⟩
 have hb4 := (hasN_iff _ _).1 hB
 have hhs := hok.h1
 have hv : R.v m = true := by rw [h.link]; exact m4
 have c2' := h.c2
 have c3 := h.c3
 have hpl := h.head.lt
 have hu0 : Upd [] w (w.alloc (.cells #[.int .i64 0, .int .u32 0] 85)) := (Upd.refl [] w).alloc _
 have hN := K.upd h.nest hu0 (by simp)
 obtain ⟨f, fv, hen, hfv⟩ := K.has hh hN
 obtain ⟨f2, fv2, hen2, hfv2⟩ := K.min hh hB hN
 unfold Enters at hen hen2
 have hm := (hfv _ (Upd.refl _ _)).1
 have hc := (hfv _ (Upd.refl _ _)).2
 have hm2 := (hfv2 _ (Upd.refl _ _)).1
 have hc2 := (hfv2 _ (Upd.refl _ _)).2
 rw [hB] at hc
 rw [hM, show slotV (some m) = (m : Int) from rfl, show (some m).isSome = true from rfl] at hc2
 have hrFn : w.heap.size ∉ Fn := fun e => by have := K.lt h.nest _ e; omega
 have hs3 := h.s3
 have ka := fun W (hu : Upd Fn (w.alloc (.cells #[.int .i64 0, .int .u32 0] 85)) W) => arat_any ((h.ar.upd hu0 (by simp)).upd hu (fun x hx hm => hs3 x hm hx)) m hv
 have hpn := h.s2
 have HG := Lib.hid (fun w1 Fn' (hn : K.at_ w1 pn Fn' A) (hu : Upd Fn (w.alloc (.cells #[.int .i64 0, .int .u32 0] 85)) w1) hf w2 (hu2 : Upd [w.heap.size] w1 w2) => ((h.upd hu0 (by simp)).moved hn hu hf).beh hu2 hu0 (fun r hr => by simp at hr; subst hr; exact ⟨by simp, fun e => by have := h.lt _ e; omega, Nat.le_refl _⟩))
 clear h hfv hN hfv2 hok hB hv m4 hb4 hhs
 generalize R.g m = gm at *
 go_enter Tryz.func68, Tryz.ntmps68
 go_wp2_with (first
  | ((with_reducible refine (hc).mono ?_); rintro e w1 ⟨rfl, rfl⟩)
  | ((with_reducible refine (hc2).mono ?_); rintro e w2 ⟨rfl, Fn', hn, hu, hf⟩; (have q0 : w2.cell? ⟨w.heap.size, 0, none⟩ = some (.int .i64 0) := hu.kept (by go_simp) hrFn); (have q1 : w2.cell? ⟨w.heap.size, 1, none⟩ = some (.int .u32 0) := hu.kept (by go_simp) hrFn); (have f0 : w2.frozen? ⟨w.heap.size, 0, none⟩ = false := hu.keptF (v := .int .i64 0) (by go_simp) hrFn (by go_simp)); (have f1 : w2.frozen? ⟨w.heap.size, 1, none⟩ = false := hu.keptF (v := .int .u32 0) (by go_simp) hrFn (by go_simp)); (have c2 := hu.kept (hu0.was c2') hpn); (have ka2 := ka _ hu))
  | ((go_at_call 84; (with_reducible refine (ka2).mono ?_)); rintro e w3 ⟨rfl, hu3⟩; (have t0 := hu3.was q0); (have t1 := hu3.was q1); (have tf0 := hu3.keptF q0 (by simp) f0); (have tf1 := hu3.keptF q1 (by simp) f1); (have hrl := World.block_lt_of_cell? w3 _ t0))
  | fail)
 exact bodyPost_ret (v := .tuple #[.agg #[.int .i64 (m : Int), .int .u32 (gm : Int)], .int .i64 0]) (by simp [results, Tryz.results68, go_sem, t0, t1, hrl]) rfl ⟨rfl, HG.out _ _ hn hu hf _ ((((hu3.mono (by simp)).setCell (Or.inl (by simp)) _).setCell (Or.inl (by simp)) _).alloc _)⟩
end
end Go.Proofs.YtklibcncmbofpaaGreat
namespace Go.Proofs.YtklibcncmbofpaaGreat
open Go Go.RowKit
section
variable {K : NestQ} {w : World} {p : Nat} {F : List Nat} {kd d : Int} {R : AR} {A : NS} {q : Nat}
set_option maxHeartbeats 4000000 in
set_option maxRecDepth 10000 in
theorem pmin_some (h : PqAt K w p F kd d R A q) (hh : Int) {m : Nat} (hM : minN A hh = some m) :
  Calls Tryz.prog 43 #[.pointer (some ⟨p, 0, none⟩), .int .i64 hh] w fun e w' => e = .returned (.tuple #[.agg #[.int .i64 (m : Int), .int .u32 (R.g m : Int)], .int .i64 (A.c m).k, .int .i64 0]) ∧ Goes F w w' (fun F' => PqAt K w' p F' kd d R A q) := by
 have hu0 : Upd [] w (w.alloc (.cells #[.int .i64 0, .int .u32 0] 85)) := (Upd.refl [] w).alloc _
 have k := pfirst_some (h.upd0 hu0) hh hM
 have hv : R.v m = true := by rw [h.ok.2.2.2]; exact (minN_in hM).2.2.2
 have hlF := h.lt
 have hrF : w.heap.size ∉ F := fun e => by have := hlF _ e; omega
 have HG := Lib.hid (fun (w1 w2 : World) (hg : Goes F (w.alloc (.cells #[.int .i64 0, .int .u32 0] 85)) w1 (fun F' => PqAt K w1 p F' kd d R A q)) (hu2 : Upd [w.heap.size] w1 w2) => hg.beh hu2 hu0 (fun r hr => by simp at hr; subst hr; exact ⟨by simp, hrF, Nat.le_refl _⟩))
 have ke := fun W F' (hP : PqAt K W p F' kd d R A q) => pentry_yes hP m hv
 clear h hv hM hlF
 generalize R.g m = gm at *
 generalize (A.c m).k = kk at *
 generalize (A.c m).s = ss at *
 go_enter Tryz.func43, Tryz.ntmps43
 go_upto_region 5 with (first
  | ((go_at_call 68; (with_reducible refine (k).mono ?_)); rintro e w1 ⟨rfl, hg⟩; (have hu1 : Upd F (w.alloc (.cells #[.int .i64 0, .int .u32 0] 85)) w1 := by obtain ⟨_, _, h2, _⟩ := hg; exact h2); (have q0 : w1.cell? ⟨w.heap.size, 0, none⟩ = some (.int .i64 0) := hu1.kept (by go_simp) hrF); (have q1 : w1.cell? ⟨w.heap.size, 1, none⟩ = some (.int .u32 0) := hu1.kept (by go_simp) hrF); (have f0 : w1.frozen? ⟨w.heap.size, 0, none⟩ = false := hu1.keptF (v := .int .i64 0) (by go_simp) hrF (by go_simp)); (have f1 : w1.frozen? ⟨w.heap.size, 1, none⟩ = false := hu1.keptF (v := .int .u32 0) (by go_simp) hrF (by go_simp)); (have ke2 : ∀ W, Upd [] w1 W → Calls Tryz.prog 69 #[.pointer (some ⟨p, 0, none⟩), .agg #[.int .i64 (m : Int), .int .u32 (gm : Int)]] W fun e w' => e = .returned (.tuple #[.agg #[.int .i64 kk, .int .u64 ss], .int .i64 0]) ∧ Upd [] W w' := by obtain ⟨F1, hP1, _, _⟩ := hg; exact fun W hW => ke W F1 (hP1.upd0 hW)))
  | ((go_at_call 69; (with_reducible refine (ke2 _ (by (repeat (first | assumption | exact Upd.refl _ _ | refine Upd.alloc ?_ _ | refine Upd.drew ?_ | refine Upd.drewN ?_ _ | refine Upd.setCell ?_ ?_ _ | focus (left; simp; done) | focus (right; simp; done) | focus (right; simp; omega))))).mono ?_)); rintro e w2 ⟨rfl, hu2⟩; (have x0 : w2.cell? ⟨w1.heap.size, 0, none⟩ = some (.int .i64 (m : Int)) := hu2.was (by go_simp)); (have x1 : w2.cell? ⟨w1.heap.size, 1, none⟩ = some (.int .u32 (gm : Int)) := hu2.was (by go_simp)); (have hv2 : Upd [] w1 w2 := Upd.trans (by (repeat (first | assumption | exact Upd.refl _ _ | refine Upd.alloc ?_ _ | refine Upd.drew ?_ | refine Upd.drewN ?_ _ | refine Upd.setCell ?_ ?_ _ | focus (left; simp; done) | focus (right; simp; done) | focus (right; simp; omega)))) hu2))
  | fail)
 refine wp_nm (fun W => W.cell? ⟨w1.heap.size, 0, none⟩ = some (.int .i64 (m : Int)) ∧ W.cell? ⟨w1.heap.size, 1, none⟩ = some (.int .u32 (gm : Int)) ∧ W.cell? ⟨w2.heap.size, 0, none⟩ = some (.int .i64 kk) ∧ Upd [] w1 W) ⟨by have := World.block_lt_of_cell? w2 _ x0; go_simp, by have := World.block_lt_of_cell? w2 _ x1; go_simp, by go_simp, by (repeat (first | assumption | exact Upd.refl _ _ | refine Upd.alloc ?_ _ | refine Upd.drew ?_ | refine Upd.drewN ?_ _ | refine Upd.setCell ?_ ?_ _ | focus (left; simp; done) | focus (right; simp; done) | focus (right; simp; omega)))⟩ ?_
 rintro W ⟨y0, y1, y2, hW⟩
 have t0 := hW.was q0
 have t1 := hW.was q1
 have ft0 := hW.keptF q0 (by simp) f0
 have ft1 := hW.keptF q1 (by simp) f1
 have hrl := World.block_lt_of_cell? w1 _ q0
 have hz2 := hv2.size
 dsimp only at hrl
 have hne1 : ¬ w2.heap.size = w.heap.size := by omega
 have hne2 : ¬ w1.heap.size = w.heap.size := by omega
 have hne3 : ¬ w.heap.size = w2.heap.size := by omega
 have hne4 : ¬ w.heap.size = w1.heap.size := by omega
 have HW := Lib.hid hW
 clear hW q0 q1 f0 f1 ke2 x0 x1 hv2 hu2 ke k hu1
 go_region
 all_goals
  go_wp2
  exact bodyPost_ret (v := .tuple #[.agg #[.int .i64 (m : Int), .int .u32 (gm : Int)], .int .i64 kk, .int .i64 0]) (by simp [results, Tryz.results43, go_sem, t0, t1, hne1, hne2, hne3, hne4]) rfl ⟨rfl, HG.out _ _ hg ((((HW.out.mono (by simp)).setCell (Or.inl (by simp)) _).setCell (Or.inl (by simp)) _).drew)⟩
end
end Go.Proofs.YtklibcncmbofpaaGreat
namespace Go.Proofs.YtklibcncmbofpaaGreat
open Go Go.RowKit
section
variable {K : NestQ} {w : World} {p : Nat} {F : List Nat} {kd d : Int} {R : AR} {A : NS} {q : Nat}
theorem give_v {R : AR} {x : Nat} (hv : R.v x = true) (y : Nat) : (giveR R x).v y = (R.v y && !decide (y = x)) := by
 show (R.put x (R.g x, false)).v y = _
 rw [AR.v_put]
 by_cases e : y = x
 ·rw [if_pos ⟨e, AR.v_lt hv⟩, decide_eq_true e]; simp
 ·rw [if_neg (fun h => e h.1), decide_eq_false e]; simp
theorem drop_in {A : NS} {x : Nat} (hx : inN A (x : Int) = true) (y : Nat) : inN (dropN A (x : Int)) (y : Int) = (inN A (y : Int) && !decide (y = x)) := by
 have hc := drop_c hx y
 have hl := drop_len A (x : Int)
 by_cases e : y = x
 ·rw [if_pos e] at hc
  rw [decide_eq_true e]
  have : ¬ inN (dropN A (x : Int)) (y : Int) = true := fun h => by
   have := (inN_nat _ _).1 h
   rw [hc] at this
   exact absurd this.2 (by simp [Cl.z])
  simpa using this
 ·rw [if_neg e] at hc
  rw [decide_eq_false e]
  have e1 : inN (dropN A (x : Int)) (y : Int) = true ↔ inN A (y : Int) = true := by rw [inN_nat, inN_nat, hl, hc]
  cases h1 : inN (dropN A (x : Int)) (y : Int) <;> cases h2 : inN A (y : Int) <;> simp_all
theorem giveR_len (R : AR) (x : Nat) : (giveR R x).sl.length = R.sl.length := by show (R.put x _).sl.length = _; rw [AR.len_put]
theorem PqAt.out {kd d : Int} {m : Nat} {w1 : World} {pa pn : Nat} {Fa Fn : List Nat} (h : PqM K w p pa pn Fa Fn kd d R A q) (hm : inN A (m : Int) = true) {Fn' : List Nat} (hn : K.at_ w1 pn Fn' (dropN A m)) (hu : Upd Fn w w1) (hf : ∀ x, x ∈ Fn' → x ∈ Fn ∨ w.heap.size ≤ x)
  {w2 w3 : World} (hu2 : Upd [] w1 w2) {Fa' : List Nat} (ha : ArAt w3 pa Fa' (giveR R m)) (hu3 : Upd Fa w2 w3) (hf3 : ∀ x, x ∈ Fa' → x ∈ Fa ∨ w2.heap.size ≤ x) : Goes (p :: (Fa ++ Fn)) w w3 (fun F' => PqAt K w3 p F' kd d (giveR R m) (dropN A m) q) := by
 have hA := h.ar.lt
 have hN := K.lt h.nest
 have hN1 := K.lt hn
 have hs12 := hu2.size
 have hs01 := hu.size
 have hv : R.v m = true := by rw [h.link]; exact hm
 have hpl := h.head.lt
 have hnn : ∀ x, x ∈ Fa → x ∉ Fn' := fun x hx e => by rcases hf x e with e | e; exact h.s3 x hx e; have := hA x hx; omega
 refine ⟨p :: (Fa' ++ Fn'), ⟨pa, pn, Fa', Fn', rfl, ⟨((h.head.upd hu h.s2).upd hu2 (by simp)).upd hu3 h.s1, ha, K.upd (K.upd hn hu2 (by simp)) hu3 hnn, fun e => ?_, fun e => ?_, fun x h1 h2 => ?_, ?_, fun y => ?_⟩⟩, ?_, fun x hx => ?_⟩
 ·rcases hf3 _ e with e | e
  ·exact h.s1 e
  ·omega
 ·rcases hf _ e with e | e
  ·exact h.s2 e
  ·omega
 ·rcases hf3 x h1 with e | e
  ·exact hnn x e h2
  ·have := hN1 x h2; omega
 ·rw [giveR_len, drop_len]; exact h.len
 ·rw [give_v hv, drop_in hm, h.link]
 ·exact ((hu.mono (fun x hx => by simp [hx])).trans (hu2.mono (by simp))).trans (hu3.mono (fun x hx => by simp [hx]))
 ·simp only [List.mem_cons, List.mem_append] at hx ⊢
  rcases hx with hx | hx | hx
  ·exact Or.inl (Or.inl hx)
  ·rcases hf3 x hx with e | e
   ·exact Or.inl (Or.inr (Or.inl e))
   ·exact Or.inr (by omega)
  ·rcases hf x hx with e | e
   ·exact Or.inl (Or.inr (Or.inr e))
   ·exact Or.inr e
end
end Go.Proofs.YtklibcncmbofpaaGreat
namespace Go.Proofs.YtklibcncmbofpaaGreat
open Go Go.RowKit
section
variable {K : NestQ} {w : World} {p : Nat} {F : List Nat} {kd d : Int} {R : AR} {A : NS} {q : Nat}
theorem Goes.chain {F G S : List Nat} {w W w2 w3 : World} {R' : AR} {A' : NS} {q' : Nat} (h1 : Upd F w W) (hf : ∀ x, x ∈ G → x ∈ F ∨ w.heap.size ≤ x) (h2 : Goes G W w2 (fun F' => PqAt K w2 p F' kd d R' A' q')) (hr : Upd S w2 w3) (hS : ∀ r, r ∈ S → r ∉ G ∧ r < W.heap.size ∧ w.heap.size ≤ r) :
  Goes F w w3 (fun F' => PqAt K w3 p F' kd d R' A' q') := by
 obtain ⟨F2, hP, hu, hf2⟩ := h2
 have hs := h1.size
 refine ⟨F2, hP.upd hr (fun r hr hm => ?_), (h1.joined hu hf).joined hr (fun r hr => Or.inr (hS r hr).2.2), fun x hx => ?_⟩
 ·rcases hf2 r hm with e | e
  ·exact (hS r hr).1 e
  ·have := (hS r hr).2.1; omega
 ·rcases hf2 x hx with e | e
  ·exact hf x e
  ·exact Or.inr (Nat.le_trans hs e)
set_option maxHeartbeats 4000000 in
set_option maxRecDepth 10000 in
theorem pext_some (h : PqAt K w p F kd d R A q) (hh : Int) {m : Nat} (hM : minN A hh = some m) :
  Calls Tryz.prog 41 #[.pointer (some ⟨p, 0, none⟩), .int .i64 hh] w fun e w' => e = .returned (.tuple #[.agg #[.int .i64 (m : Int), .int .u32 (R.g m : Int)], .int .i64 (A.c m).k, .int .i64 0]) ∧ Goes F w w' (fun F' => PqAt K w' p F' kd d (giveR R m) (dropN A m) q) := by
 obtain ⟨hh, rfl⟩ : ∃ n : Nat, hh = n := ⟨hh.toNat, by have := (minN_in hM).1; omega⟩
 have hu0 : Upd [] w (w.alloc (.cells #[.int .i64 0, .int .u32 0] 85)) := (Upd.refl [] w).alloc _
 have k := pmin_some (h.upd0 hu0) hh hM
 have hin := (minN_in hM).2.2.2
 have hv : R.v m = true := by rw [h.ok.2.2.2]; exact hin
 have hb : -9223372036854775808 ≤ (hh : Int) ∧ (hh : Int) ≤ 9223372036854775807 := by
  obtain ⟨m1, m2, m3, m4⟩ := minN_in hM
  have := inN_has h.ok.1 m4
  have h4 := (hasN_iff _ _).1 this
  have h5 := h.ok.1.h1
  rw [show ((m : Nat) : Int).toNat = m by omega, m3] at h4
  omega
 have hex : extN A hh = dropN A m := by unfold extN; rw [hM]
 have hlF := h.lt
 have hrF : w.heap.size ∉ F := fun e => by have := hlF _ e; omega
 have HS := Lib.hid (And.intro hin (And.intro hv (And.intro hb (And.intro hex hM))))
 clear h hM hin hv hb hex
 generalize hgm : R.g m = gm at *
 generalize (A.c m).k = kk at *
 have HGM := Lib.hid hgm
 clear hgm
 go_enter Tryz.func41, Tryz.ntmps41
 go_upto_region 4 with (first
  | ((go_at_call 43; (with_reducible refine (k).mono ?_)); rintro e w1 ⟨rfl, hg⟩; (have hu1 : Upd F (w.alloc (.cells #[.int .i64 0, .int .u32 0] 85)) w1 := by obtain ⟨_, _, h2, _⟩ := hg; exact h2); (have q0 : w1.cell? ⟨w.heap.size, 0, none⟩ = some (.int .i64 0) := hu1.kept (by go_simp) hrF); (have q1 : w1.cell? ⟨w.heap.size, 1, none⟩ = some (.int .u32 0) := hu1.kept (by go_simp) hrF); (have f0 : w1.frozen? ⟨w.heap.size, 0, none⟩ = false := hu1.keptF (v := .int .i64 0) (by go_simp) hrF (by go_simp)); (have f1 : w1.frozen? ⟨w.heap.size, 1, none⟩ = false := hu1.keptF (v := .int .u32 0) (by go_simp) hrF (by go_simp)); (have hrl := World.block_lt_of_cell? w1 _ q0))
  | fail)
 refine wp_nm (fun W => W.cell? ⟨w1.heap.size, 0, none⟩ = some (.int .i64 (m : Int)) ∧ W.cell? ⟨w1.heap.size, 1, none⟩ = some (.int .u32 (gm : Int)) ∧ Upd [] w1 W) ⟨by go_simp, by go_simp, by (repeat (first | assumption | exact Upd.refl _ _ | refine Upd.alloc ?_ _ | refine Upd.drew ?_ | refine Upd.drewN ?_ _ | refine Upd.setCell ?_ ?_ _ | focus (left; simp; done) | focus (right; simp; done) | focus (right; simp; omega)))⟩ ?_
 rintro W ⟨y0, y1, hW⟩
 obtain ⟨F1, ⟨pa, pn, Fa, Fn, rfl, hP1⟩, hu1', hf1⟩ := hg
 have hP := hP1.upd hW (by simp)
 have c2 := hP.c2
 have c3 := hP.c3
 have hPl := hP1.lt
 have hrF1 : w.heap.size ∉ p :: (Fa ++ Fn) := fun e => by rcases hf1 _ e with e | e; exact hrF e; simp at e; omega
 have hxF1 : w1.heap.size ∉ p :: (Fa ++ Fn) := fun e => by have := hPl _ e; omega
 obtain ⟨f, fv, hen, hfv⟩ := K.extract hh m HS.out.2.2.2.2 hP.nest
 unfold Enters at hen
 have hm := (hfv _ (Upd.refl _ _)).1
 have hc := (hfv _ (Upd.refl _ _)).2
 have t0 := hW.was q0
 have t1 := hW.was q1
 have ft0 := hW.keptF q0 (by simp) f0
 have ft1 := hW.keptF q1 (by simp) f1
 have hrFn : w.heap.size ∉ Fn := fun e => hrF1 (by simp [e])
 have hxFn : w1.heap.size ∉ Fn := fun e => hxF1 (by simp [e])
 have hpFn := hP.s2
 have hrFa : w.heap.size ∉ Fa := fun e => hrF1 (by simp [e])
 have hxFa : w1.heap.size ∉ Fa := fun e => hxF1 (by simp [e])
 have HZ := Lib.hid (And.intro hP (And.intro hu1 (And.intro hW (And.intro hf1 hP1))))
 have ka : ∀ (w5 : World) (hu5 : Upd Fn W w5) (X : World) (hX : Upd [] w5 X), Calls Tryz.prog 67 #[.pointer (some ⟨pa, 0, none⟩), .agg #[.int .i64 (m : Int), .int .u32 (gm : Int)]] X fun e w' => e = .returned (.int .i64 0) ∧ Goes Fa X w' (fun F' => ArAt w' pa F' (giveR R m)) := fun w5 hu5 X hX => by
  have := argive_any ((hP.ar.upd hu5 (fun x hx hm => hP.s3 x hm hx)).upd hX (by simp)) m HS.out.2.1
  rw [HGM.out] at this
  exact this
 clear hfv hP hu1 hW hu1' hf1 hP1 q0 q1 f0 f1 hPl hlF hrF k
 go_upto_region 5 with (first
  | ((with_reducible refine (hc).mono ?_); rintro e w5 ⟨rfl, Fn', hn5, hu5, hf5⟩; (have z0 := hu5.kept y0 hxFn); (have z1 := hu5.kept y1 hxFn); (have z2 := hu5.kept c2 hpFn); (have s0 := hu5.kept t0 hrFn); (have s1 := hu5.kept t1 hrFn); (have sf0 := hu5.keptF t0 hrFn ft0); (have sf1 := hu5.keptF t1 hrFn ft1))
  | fail)
 have ka5 := ka w5 hu5 w5.drew ((Upd.refl _ _).drew)
 clear ka
 go_region_law
  (first
   | (go_simp; go_at_call 67; (with_reducible refine (ka5).mono ?_); rintro e w6 ⟨rfl, Fa', ha6, hu6, hf6⟩; (have v0 := hu6.kept z0 hxFa); (have v1 := hu6.kept z1 hxFa); (have r0 := hu6.kept s0 hrFa); (have r1 := hu6.kept s1 hrFa); (have rf0 := hu6.keptF s0 hrFa sf0); (have rf1 := hu6.keptF s1 hrFa sf1)))
 all_goals
  go_wp2
  obtain ⟨hP, hu1, hW, hf1, hP1⟩ := HZ.out
  have hsW := hW.size
  have hUF : Upd F w W := (Upd.trans ((Upd.refl _ _).alloc _) hu1).trans (hW.mono (by simp))
  refine bodyPost_ret (v := .tuple #[.agg #[.int .i64 (m : Int), .int .u32 (gm : Int)], .int .i64 kk, .int .i64 0]) (by simp [results, Tryz.results41, go_sem, r0, r1]) rfl ⟨rfl, ?_⟩
  exact Goes.chain hUF (fun x hx => by rcases hf1 x hx with e | e; exact Or.inl e; simp at e; exact Or.inr (by omega)) (PqAt.out hP HS.out.1 hn5 hu5 hf5 ((Upd.refl _ _).drew) ha6 hu6 hf6) (S := [w.heap.size]) (((Upd.refl _ _).setCell (Or.inl (by simp)) _).setCell (Or.inl (by simp)) _) (fun r hr => by simp at hr; subst hr; exact ⟨hrF1, by omega, Nat.le_refl _⟩)
end
end Go.Proofs.YtklibcncmbofpaaGreat
namespace Go.Proofs.YtklibcncmbofpaaGreat
open Go Go.RowKit Go.Maps
theorem laidH : laidOutB Tryz.prog = true := by kernel_rfl
theorem hKeyed : Keyed Tryz.prog 85 := Keyed.of_law (Go.deep_law_laid laidH (m := 3) (by omega) (of_decide_eq_true (by kernel_rfl)) (by kernel_rfl) (by rw [Tryz.underlying85]))
def hV (x g : Int) : Value := .agg #[.int .i64 x, .int .u32 g]
theorem hKey {x g : Int} (hx : -9223372036854775808 ≤ x ∧ x ≤ 9223372036854775807) (hg : 0 ≤ g ∧ g ≤ 4294967295) : ∃ l, keyOf Tryz.prog 85 (hV x g) = some l := by
 have h1 : Tryz.prog.keyType 85 = true := by kernel_rfl
 have h2 : (hV x g).formed Tryz.prog 85 = true := by
  unfold hV Value.formed
  simp only [Tryz.underlying85]
  rw [show Tryz.prog.cellsOf 85 = 2 by kernel_rfl]
  rfl
 have c0 : Tryz.prog.cellsOf 3 = 1 := by kernel_rfl
 have c1 : Tryz.prog.cellsOf 83 = 1 := by kernel_rfl
 have c2 : Tryz.prog.cellsOf 85 = 2 := by kernel_rfl
 have w0 : (Lit.int .i64 x).wf = true := WalkArith.wf_i64 hx
 have w1 : (Lit.int .u32 g).wf = true := by simp [Lit.wf, IntKind.min, IntKind.max, IntKind.signed, IntKind.bits]; omega
 have key : ∀ n, Tryz.prog.keyLits (n + 1 + 1) 85 [.int .i64 x, .int .u32 g] = some [.int .i64 x, .int .u32 g] := fun n => by
  simp [Program.keyLits, Tryz.underlying85, Tryz.underlying3, Tryz.underlying83, c0, c1, c2, w0, w1]
 have hpos : 0 < Tryz.prog.types.size := of_decide_eq_true (by kernel_rfl)
 obtain ⟨n, hn⟩ : ∃ n, Tryz.prog.types.size + 1 = n + 1 + 1 := ⟨Tryz.prog.types.size - 1, by omega⟩
 refine ⟨.string (keyBytes [.int .i64 x, .int .u32 g]), ?_⟩
 unfold keyOf
 rw [Tryz.underlying85]
 simp only []
 rw [if_pos (by rw [h1, h2]; rfl), hn, show (hV x g).cells.toList = [.int .i64 x, .int .u32 g] from rfl, key]
 rfl
theorem hV_inj {x g x' g' : Int} (h : hV x g = hV x' g') : x = x' ∧ g = g' := by
 unfold hV at h
 simp only [Value.agg.injEq] at h
 have h2 := congrArg Array.toList h
 simp at h2
 exact h2
def MapH (w : World) (b c : Nat) (f : Int → Int → Option Int) : Prop :=
 ∃ D : DataW Unit, w.ownsMap Tryz.prog 85 (plainElem Tryz.prog 3) b c D ∧ ∀ x g z kl, f x g = some z → keyOf Tryz.prog 85 (hV x g) = some kl → ∀ d, D.atKey kl d = .lit (.int .i64 z)
theorem MapH.upd {w w' : World} {S : List Nat} {b c : Nat} {f : Int → Int → Option Int} (h : MapH w b c f) (hu : Upd S w w') (hn : b ∉ S) : MapH w' b c f := by
 obtain ⟨D, h1, h3⟩ := h
 have hl := h1.lt
 obtain ⟨es, clock, h1, h2⟩ := h1
 exact ⟨D, ⟨es, clock, (hu.block b hl hn).trans h1, h2⟩, h3⟩
theorem MapH.lt {w : World} {b c : Nat} {f : Int → Int → Option Int} (h : MapH w b c f) : b < w.heap.size := by
 obtain ⟨D, h1, _⟩ := h
 exact h1.lt
theorem MapH.made (w : World) : MapH (w.alloc (.map #[] 0)) w.heap.size 0 (fun _ _ => none) :=
 ⟨.map [], World.ownsMap_made w _ _ _, fun x g z kl hz => by cases hz⟩
theorem MapH.look {w : World} {b c : Nat} {f : Int → Int → Option Int} (h : MapH w b c f) {x g z : Int} (hz : f x g = some z) (hx : -9223372036854775808 ≤ x ∧ x ≤ 9223372036854775807) (hg : 0 ≤ g ∧ g ≤ 4294967295) :
  (Instr.lookup 82 (.map (some b)) (hV x g) false).run Tryz.prog w = .ok (.int .i64 z) w := by
 obtain ⟨D, h1, h3⟩ := h
 obtain ⟨kl, hk⟩ := hKey hx hg
 obtain ⟨c', hrun, hat, _⟩ := h1.lookup_int hKeyed Tryz.underlying82 Tryz.underlying3 (intZero w) hk
 rw [hrun]
 rw [h3 x g z kl hz hk] at hat
 have : z = c' := by simpa using hat
 rw [this]
theorem MapH.store {w : World} {b c : Nat} {f : Int → Int → Option Int} (h : MapH w b c f) (hc : c < 9223372036854775807) (x g z : Int) (hx : -9223372036854775808 ≤ x ∧ x ≤ 9223372036854775807) (hg : 0 ≤ g ∧ g ≤ 4294967295) (hz : -9223372036854775808 ≤ z ∧ z ≤ 9223372036854775807) :
  ∃ w', (Instr.mapUpdate 82 (.map (some b)) (hV x g) (.int .i64 z)).run Tryz.prog w = .ok () w' ∧ MapH w' b (c + 1) (fun y e => if y = x ∧ e = g then some z else f y e) ∧ Upd [b] w w' := by
 obtain ⟨D, h1, h3⟩ := h
 obtain ⟨kl, hk⟩ := hKey hx hg
 obtain ⟨w', hrun, ho, ht⟩ := h1.store hKeyed Tryz.underlying82 (by unfold maxLen; omega) hk (plainElem_int Tryz.underlying3 (a := z) (WalkArith.wf_i64 hz))
 have hD := h1.isMap
 refine ⟨w', hrun, ⟨_, ho, fun y e u kl2 hf hk2 d => ?_⟩, mapTurned_upd ht⟩
 replace hf : (if y = x ∧ e = g then some z else f y e) = some u := hf
 by_cases e1 : y = x ∧ e = g
 ·rw [if_pos e1] at hf
  obtain ⟨rfl, rfl⟩ := e1
  rw [hk] at hk2
  cases hk2
  cases hf
  exact atKey_put_same hD (hKeyed.key hk) _ _
 ·rw [if_neg e1] at hf
  have hne : kl2 ≠ kl := fun e2 => e1 (hV_inj (hKeyed.inj (by rw [hk2, e2]) hk))
  rw [atKey_put_other hne]
  exact h3 y e u kl2 hf hk2 d
theorem wp_hput {w : World} {o : Oper} {a : Act} {K : Act → World → Prop} {Q : Exit → Act → World → Prop} (m x v : Operand) (hop : o.op = Op.mapUpdate 82 m x v)
  (b c : Nat) (f : Int → Int → Option Int) (hm : a.eval m = .map (some b)) (h : MapH w b c f) (hc : c < 9223372036854775807) (k g z : Int) (hx : a.eval x = hV k g) (hv : a.eval v = .int .i64 z) (hk : -9223372036854775808 ≤ k ∧ k ≤ 9223372036854775807) (hg : 0 ≤ g ∧ g ≤ 4294967295) (hz : -9223372036854775808 ≤ z ∧ z ≤ 9223372036854775807)
  (hK : ∀ w', MapH w' b (c + 1) (fun y e => if y = k ∧ e = g then some z else f y e) → Upd [b] w w' → K (a.put o.dst undef) w') : Oper.wp Tryz.prog o a w K Q := by
 obtain ⟨w', hrun, r1, r2⟩ := h.store hc k g z hk hg hz
 unfold Oper.wp
 simp [execOp, hop, hm, hx, hv, hrun, Result.andThen]
 exact hK w' r1 r2
end Go.Proofs.YtklibcncmbofpaaGreat
namespace Go.Proofs.YtklibcncmbofpaaGreat
theorem same_len_ne {a b : List Int} (h : a.length ≠ b.length) : a ≠ b := fun e => h (by rw [e])
theorem same_at {a b : List Int} (hl : a.length = b.length) (h : ∀ k, k < a.length → a.getD k 0 = b.getD k 0) : a = b := by
 apply List.ext_getElem hl
 intro i h1 h2
 have := h i h1
 simpa [List.getD_eq_getElem?_getD, h1, h2] using this
end Go.Proofs.YtklibcncmbofpaaGreat
namespace Go.Proofs.YtklibcncmbofpaaGreat
open Go Go.RowKit
set_option maxHeartbeats 1000000 in
theorem same_sl (w : World) (F1 F2 : List Nat) (va vb : Value) (za zb : List Int) (ha : SlI w F1 va za) (hb : SlI w F2 vb zb) :
  Calls Tryz.prog 20 #[va, vb] w fun e w' => e = .returned (.bool (decide (za = zb))) ∧ ∃ k, w' = w.drewN k := by
 obtain ⟨a, ca, rfl, hla, hca, hpa⟩ := ha
 obtain ⟨b, cb, rfl, hlb, hcb, hpb⟩ := hb
 have HA := Lib.hid hpa
 have HB := Lib.hid hpb
 clear hpa hpb
 by_cases hl : za.length = zb.length
 ·have hl' : ((za.length : Int) != (zb.length : Int)) = false := by rw [hl]; simp
  generalize hlen : za.length = len at *
  have HLEN := Lib.hid (And.intro hlen hl)
  have hll : zb.length = len := hl.symm
  rw [hll] at *
  clear hl hll hlen hl'
  go_enter Tryz.func20, Tryz.ntmps20
  go_wp2
  go_loopw [13] (fun i wr => ∃ k : Nat, k ≤ len ∧ i = .int .i64 (k : Int) ∧ (∀ j, j < k → za.getD j 0 = zb.getD j 0) ∧ ∃ d, wr = w.drewN d) (fun i _ => len - (intOf i).toNat)
  case atStart => exact ⟨0, by omega, rfl, fun j hj => by omega, 0, rfl⟩
  case round =>
   obtain ⟨k, hk, rfl, he, d, rfl⟩ := hrel
   have HE := Lib.hid he
   clear he
   by_cases hlt : k < len
   ·obtain ⟨ga, oa, rfl, _, _, c1⟩ := HA.out k (za.getD k 0) (by simp [List.getD_eq_getElem?_getD, HLEN.out.1, hlt])
    obtain ⟨gb, ob, rfl, _, _, c2⟩ := HB.out k (zb.getD k 0) (by simp [List.getD_eq_getElem?_getD, ← HLEN.out.2, hlt])
    have HP : Hid (∀ j, j < k + 1 → za.getD k 0 = zb.getD k 0 → za.getD j 0 = zb.getD j 0) := fun j hj e => by
     rcases (by omega : j < k ∨ j = k) with h | h
     ·exact HE.out j h
     ·rw [h]; exact e
    have HN : Hid (za.getD k 0 ≠ zb.getD k 0 → ¬ za = zb) := fun e1 e2 => e1 (by rw [e2])
    generalize za.getD k 0 = x1 at *
    generalize zb.getD k 0 = x2 at *
    by_cases hxx : x1 = x2
    ·have b1 : (x1 != x2) = false := by simpa using hxx
     have HXX := Lib.hid hxx
     clear hxx
     go_wp2
     go_quiet (fail)
     go_wp2
     go_roundw
     case rel => exact ⟨k + 1, by omega, by go_num, fun j hj => HP.out j hj HXX.out, _, rfl⟩
     case measure => simp [intOf]; omega
    ·have b1 : (x1 != x2) = true := by simpa using hxx
     have HXX := Lib.hid (HN.out hxx)
     clear hxx
     go_wp2
     go_quiet (fail)
     go_wp2
     go_ret
     exact ⟨ret_bool (by simp [HXX.out]), _, by rw [World.drewN_drewN]⟩
   ·obtain rfl : k = len := by omega
    have HE2 := Lib.hid (same_at (by rw [HLEN.out.1, HLEN.out.2]) (fun j hj => HE.out j (by rw [← HLEN.out.1]; exact hj)))
    go_wp2
    go_ret
    exact ⟨ret_bool (by simp [HE2.out]), _, rfl⟩
 ·have hl' : ((za.length : Int) != (zb.length : Int)) = true := by simp; omega
  have hne := Lib.hid (same_len_ne hl)
  clear hl
  go_enter Tryz.func20, Tryz.ntmps20
  go_wp2
  go_ret
  exact ⟨ret_bool (by simp [hne.out]), 0, rfl⟩
theorem same_yes (w : World) (F1 F2 : List Nat) (va vb : Value) (z : List Int) (ha : SlI w F1 va z) (hb : SlI w F2 vb z) :
  Calls Tryz.prog 20 #[va, vb] w fun e w' => e = .returned (.bool true) ∧ ∃ k, w' = w.drewN k :=
 (same_sl w F1 F2 va vb z z ha hb).mono fun e w' ⟨he, h⟩ => ⟨by rw [he, decide_eq_true rfl], h⟩
end Go.Proofs.YtklibcncmbofpaaGreat
namespace Go.Proofs.YtklibcncmbofpaaGreat
open Go Go.RowKit
structure Ed where
 f : Int
 t : Int
 w : Int
instance : Inhabited Ed := ⟨⟨0, 0, 0⟩⟩
end Go.Proofs.YtklibcncmbofpaaGreat
namespace Go.Proofs.YtklibcncmbofpaaGreat
open Go Go.RowKit
def SomeIdx (b : Bool) (w : World) (r : Ending) (w' : World) : Prop := ∃ i : Int, r = .returned (.int .i64 i) ∧ decide (0 ≤ i) = b ∧ Upd [] w w'
theorem any_take {α : Type} (P : α → Bool) (l : List α) (k : Nat) (x : α) (hx : l[k]? = some x) : (l.take (k + 1)).any P = ((l.take k).any P || P x) := by
 rw [List.take_add_one, hx]; simp
end Go.Proofs.YtklibcncmbofpaaGreat
namespace Go.Proofs.YtklibcncmbofpaaGreat
open Go Go.RowKit
structure TS where
 l : Nat → Int
 r : Nat → Int
 u : Nat → Int
def TS.none : TS := ⟨fun _ => -1, fun _ => -1, fun _ => -1⟩
def TS.kid (S : TS) (s : Bool) (x : Nat) : Int := if s then S.r x else S.l x
def treeCell (S : TS) (j : Nat) : Value := .int .i64 (if j % 3 = 0 then S.l (j / 3) else if j % 3 = 1 then S.r (j / 3) else S.u (j / 3))
theorem treeCell0 (S : TS) (x : Nat) : treeCell S (x * 3) = .int .i64 (S.l x) := by unfold treeCell; rw [if_pos (by omega), show x * 3 / 3 = x by omega]
theorem treeCell1 (S : TS) (x : Nat) : treeCell S (x * 3 + 1) = .int .i64 (S.r x) := by unfold treeCell; rw [if_neg (by omega), if_pos (by omega), show (x * 3 + 1) / 3 = x by omega]
theorem treeCell2 (S : TS) (x : Nat) : treeCell S (x * 3 + 2) = .int .i64 (S.u x) := by unfold treeCell; rw [if_neg (by omega), if_neg (by omega), show (x * 3 + 2) / 3 = x by omega]
structure TreesAt (w : World) (bt ba n : Nat) (S : TS) : Prop where
 head : RowAt w bt 257 1 (fun _ => .slice (some ⟨ba, 0, none⟩) n n)
 row : RowAt w ba 260 (n * 3) (treeCell S)
 ne : bt ≠ ba
 le : n ≤ 65536
theorem TreesAt.upd {w w' : World} {F : List Nat} {bt ba n : Nat} {S : TS} (h : TreesAt w bt ba n S) (hu : Upd F w w') (h1 : bt ∉ F) (h2 : ba ∉ F) : TreesAt w' bt ba n S :=
 ⟨h.head.upd hu h1, h.row.upd hu h2, h.ne, h.le⟩
theorem TreesAt.drewN {w : World} {bt ba n : Nat} {S : TS} (h : TreesAt w bt ba n S) (k : Nat) : TreesAt (w.drewN k) bt ba n S := ⟨h.head, h.row, h.ne, h.le⟩
theorem TreesAt.drew {w : World} {bt ba n : Nat} {S : TS} (h : TreesAt w bt ba n S) : TreesAt w.drew bt ba n S := ⟨h.head, h.row, h.ne, h.le⟩
theorem linksInfo : (Tryz.prog.info? 260).map (fun i => (i.zero, i.size, i.bytes)) = some (some (.agg #[.int .i64 0, .int .i64 0, .int .i64 0]), 3, 24) := by kernel_rfl
set_option maxHeartbeats 400000 in
theorem spineNew_yes (n : Nat) (w : World) (h : n ≤ 65536) :
  Calls Tryz.prog 112 #[.int .i64 (n : Int)] w fun e w' => ∃ bt ba, e = .returned (.tuple #[.pointer (some ⟨bt, 0, none⟩), .int .i64 0]) ∧ TreesAt w' bt ba n TS.none ∧ Upd [] w w' ∧ w.heap.size ≤ bt ∧ w.heap.size ≤ ba := by
 go_enter Tryz.func112, Tryz.ntmps112
 go_wp2_with (at_make; refine wpList_make_row rfl _ 255 rfl 260 (.agg #[.int .i64 0, .int .i64 0, .int .i64 0]) 3 24 Tryz.underlying255 linksInfo n rfl (by omega) (by unfold maxLen; omega) ?_; intro w1 hr1 hu1)
 have hlt := hr1.lt
 go_loopw [21] (fun i wr => ∃ (k : Nat) (f : Nat → Value), k ≤ n ∧ i = .int .i64 k ∧ RowAt wr w1.heap.size 257 1 (fun _ => .slice (some ⟨w.heap.size, 0, none⟩) n n) ∧ RowAt wr w.heap.size 260 (n * 3) f ∧ (∀ j, j < k * 3 → f j = .int .i64 (-1)) ∧ Upd [] w wr) (fun i _ => n - (intOf i).toNat)
 case atStart => exact ⟨0, _, by omega, rfl, rowAt_new _ _ _ |>.ext (fun j hj => by simp at hj; subst hj; rfl), hr1.alloc _, by omega, hu1.alloc _⟩
 case round =>
  obtain ⟨k, f, hk, rfl, hH, hR, hf, hu⟩ := hrel
  by_cases hkn : k < n
  ·have c0 := hH.cell 0 (by omega)
   have d0 := hR.cell (k * 3) (by omega)
   have d1 := hR.cell (k * 3 + 1) (by omega)
   have d2 := hR.cell (k * 3 + 2) (by omega)
   have e0 := hR.free (k * 3)
   have e1 := hR.free (k * 3 + 1)
   have e2 := hR.free (k * 3 + 2)
   have HF := Lib.hid hf
   clear hf
   go_wp2
   go_roundw
   case rel =>
    refine ⟨k + 1, _, by omega, by go_num, ((hH.far _ _ (by simp; omega)).far _ _ (by simp; omega)).far _ _ (by simp; omega), ((hR.set _ _).set _ _).set _ _, fun j hj => ?_, ((hu.setCell (Or.inr (by simp)) _).setCell (Or.inr (by simp)) _).setCell (Or.inr (by simp)) _⟩
    show (if j = k * 3 + 2 then _ else if j = k * 3 + 1 then _ else if j = k * 3 then _ else f j) = _
    split
    ·rfl
    ·split
     ·rfl
     ·split
      ·rfl
      ·exact HF.out j (by omega)
   case measure => simp [intOf]; omega
  ·obtain rfl : k = n := by omega
   go_wp2
   go_ret2
   exact ⟨_, _, rfl, ⟨hH, hR.ext (fun j hj => by rw [hf j hj]; unfold treeCell TS.none; simp), by omega, h⟩, hu, hu1.size, Nat.le_refl _⟩
theorem has_any (bt ba n : Nat) (S : TS) (x : Int) (w : World) (h : TreesAt w bt ba n S) (b : Bool) (hb : b = decide (0 ≤ x ∧ x < n)) :
  Calls Tryz.prog 257 #[.pointer (some ⟨bt, 0, none⟩), .int .i64 x] w fun e w' => e = .returned (.bool b) ∧ w' = w := by
 have hle := h.le
 have c0 := h.head.cell 0 (by omega)
 clear h
 subst hb
 by_cases h0 : 0 ≤ x
 ·by_cases h1 : x < n
  ·go_enter Tryz.func257, Tryz.ntmps257
   go_wp2
   go_ret
   exact ⟨ret_bool (by simp [h0, h1]), rfl⟩
  ·go_enter Tryz.func257, Tryz.ntmps257
   go_wp2
   go_ret
   exact ⟨ret_bool (by simp [h0, h1]), rfl⟩
 ·go_enter Tryz.func257, Tryz.ntmps257
  go_wp2
  go_ret
  exact ⟨ret_bool (by simp; omega), rfl⟩
theorem side_any (b : Bool) (w : World) : Calls Tryz.prog 253 #[.bool b] w fun e w' => e = .returned (.int .i64 (if b then 1 else 0)) ∧ w' = w := by
 cases b
 all_goals
  go_enter Tryz.func253, Tryz.ntmps253
  go_wp2
  go_ret
  exact ⟨rfl, rfl⟩
theorem told_none (w : World) : Calls Tryz.prog 256 #[.int .i64 (-1)] w fun e w' => e = .returned (.tuple #[.int .i64 0, .bool false]) ∧ w' = w := by
 go_enter Tryz.func256, Tryz.ntmps256
 go_wp2
 go_ret2
 exact ⟨rfl, rfl⟩
theorem told_some (x : Int) (w : World) (h : x ≠ -1) : Calls Tryz.prog 256 #[.int .i64 x] w fun e w' => e = .returned (.tuple #[.int .i64 x, .bool true]) ∧ w' = w := by
 have h' : (x == -1) = false := by simpa using h
 go_enter Tryz.func256, Tryz.ntmps256
 go_wp2
 go_ret2
 exact ⟨rfl, rfl⟩
def kidOf (n : Nat) (S : TS) (x : Int) (r : Bool) : Int := if 0 ≤ x ∧ x < n then S.kid r x.toNat else -1
def upOf (n : Nat) (S : TS) (x : Int) : Int := if 0 ≤ x ∧ x < n then S.u x.toNat else -1
set_option maxHeartbeats 400000 in
theorem kid_any (bt ba n : Nat) (S : TS) (x : Int) (r : Bool) (w : World) (h : TreesAt w bt ba n S) :
  Calls Tryz.prog 254 #[.pointer (some ⟨bt, 0, none⟩), .int .i64 x, .bool r] w fun e w' => e = .returned (.int .i64 (kidOf n S x r)) ∧ ∃ k, w' = w.drewN k := by
 by_cases hx : 0 ≤ x ∧ x < n
 ·obtain ⟨k, rfl⟩ : ∃ k : Nat, x = k := ⟨x.toNat, by omega⟩
  have hk : k < n := by omega
  have e : kidOf n S k r = S.kid r k := by unfold kidOf; rw [if_pos hx]; simp
  have hle := h.le
  have c0 := h.head.cell 0 (by omega)
  have d0 := h.row.cellAt (k * 3) (by omega) (treeCell0 S k)
  have d1 := h.row.cellAt (k * 3 + 1) (by omega) (treeCell1 S k)
  rw [e]
  clear e
  cases r
  all_goals
   unfold TS.kid
   simp only [if_true, if_false, Bool.false_eq_true]
   go_enter Tryz.func254, Tryz.ntmps254
   go_wp2_with (go_at_call 257; refine (has_any bt ba n S k _ h true (by simp [hk])).mono ?_; rintro e w' ⟨rfl, rfl⟩)
   go_quiet ((go_at_call 253; exact Calls.quiet_of_same (side_any _ _)))
   go_wp2
   go_ret
   exact ⟨rfl, _, rfl⟩
 ·have e : kidOf n S x r = -1 := by unfold kidOf; rw [if_neg hx]
  rw [e]
  clear e
  go_enter Tryz.func254, Tryz.ntmps254
  go_wp2_with (go_at_call 257; refine (has_any bt ba n S x _ h false (by simp [hx])).mono ?_; rintro e w' ⟨rfl, rfl⟩)
  go_ret
  exact ⟨rfl, 0, rfl⟩
set_option maxHeartbeats 400000 in
theorem above_any (bt ba n : Nat) (S : TS) (x : Int) (w : World) (h : TreesAt w bt ba n S) :
  Calls Tryz.prog 252 #[.pointer (some ⟨bt, 0, none⟩), .int .i64 x] w fun e w' => e = .returned (.int .i64 (upOf n S x)) ∧ w' = w := by
 by_cases hx : 0 ≤ x ∧ x < n
 ·obtain ⟨k, rfl⟩ : ∃ k : Nat, x = k := ⟨x.toNat, by omega⟩
  have hk : k < n := by omega
  have e : upOf n S k = S.u k := by unfold upOf; rw [if_pos hx]; simp
  have hle := h.le
  have c0 := h.head.cell 0 (by omega)
  have d0 := h.row.cellAt (k * 3 + 2) (by omega) (treeCell2 S k)
  rw [e]
  clear e
  go_enter Tryz.func252, Tryz.ntmps252
  go_wp2_with (go_at_call 257; refine (has_any bt ba n S k _ h true (by simp [hk])).mono ?_; rintro e w' ⟨rfl, rfl⟩)
  go_ret
  exact ⟨rfl, rfl⟩
 ·have e : upOf n S x = -1 := by unfold upOf; rw [if_neg hx]
  rw [e]
  clear e
  go_enter Tryz.func252, Tryz.ntmps252
  go_wp2_with (go_at_call 257; refine (has_any bt ba n S x _ h false (by simp [hx])).mono ?_; rintro e w' ⟨rfl, rfl⟩)
  go_ret
  exact ⟨rfl, rfl⟩
def tv (x : Int) : Int := if x = -1 then 0 else x
def tb (x : Int) : Bool := decide (x ≠ -1)
theorem told_any (x : Int) (w : World) : Calls Tryz.prog 256 #[.int .i64 x] w fun e w' => e = .returned (.tuple #[.int .i64 (tv x), .bool (tb x)]) ∧ w' = w := by
 by_cases h : x = -1
 ·subst h; exact told_none w
 ·have e1 : tv x = x := by unfold tv; rw [if_neg h]
  have e2 : tb x = true := by unfold tb; simp [h]
  rw [e1, e2]; exact told_some x w h
theorem left_any (bt ba n : Nat) (S : TS) (x : Int) (w : World) (h : TreesAt w bt ba n S) :
  Calls Tryz.prog 248 #[.pointer (some ⟨bt, 0, none⟩), .int .i64 x] w fun e w' => e = .returned (.tuple #[.int .i64 (tv (kidOf n S x false)), .bool (tb (kidOf n S x false))]) ∧ ∃ k, w' = w.drewN k := by
 generalize hy : kidOf n S x false = y
 have c1 := kid_any bt ba n S x false w h
 rw [hy] at c1
 have c2 := fun W => told_any y W
 go_enter Tryz.func248, Tryz.ntmps248
 go_wp2_with (first | (go_at_call 254; refine c1.mono ?_; rintro e w' ⟨rfl, k, rfl⟩) | (go_at_call 256; refine (c2 _).mono ?_; rintro e w' ⟨rfl, rfl⟩))
 go_ret2
 exact ⟨rfl, _, rfl⟩
theorem right_any (bt ba n : Nat) (S : TS) (x : Int) (w : World) (h : TreesAt w bt ba n S) :
  Calls Tryz.prog 249 #[.pointer (some ⟨bt, 0, none⟩), .int .i64 x] w fun e w' => e = .returned (.tuple #[.int .i64 (tv (kidOf n S x true)), .bool (tb (kidOf n S x true))]) ∧ ∃ k, w' = w.drewN k := by
 generalize hy : kidOf n S x true = y
 have c1 := kid_any bt ba n S x true w h
 rw [hy] at c1
 have c2 := fun W => told_any y W
 go_enter Tryz.func249, Tryz.ntmps249
 go_wp2_with (first | (go_at_call 254; refine c1.mono ?_; rintro e w' ⟨rfl, k, rfl⟩) | (go_at_call 256; refine (c2 _).mono ?_; rintro e w' ⟨rfl, rfl⟩))
 go_ret2
 exact ⟨rfl, _, rfl⟩
theorem up_any (bt ba n : Nat) (S : TS) (x : Int) (w : World) (h : TreesAt w bt ba n S) :
  Calls Tryz.prog 250 #[.pointer (some ⟨bt, 0, none⟩), .int .i64 x] w fun e w' => e = .returned (.tuple #[.int .i64 (tv (upOf n S x)), .bool (tb (upOf n S x))]) ∧ ∃ k, w' = w.drewN k := by
 generalize hy : upOf n S x = y
 have c1 := above_any bt ba n S x w h
 rw [hy] at c1
 have c2 := fun W => told_any y W
 go_enter Tryz.func250, Tryz.ntmps250
 go_wp2_with (first | (go_at_call 252; refine c1.mono ?_; rintro e w' ⟨rfl, rfl⟩) | (go_at_call 256; refine (c2 _).mono ?_; rintro e w' ⟨rfl, rfl⟩))
 go_ret2
 exact ⟨rfl, 0, rfl⟩
def TS.setKid (S : TS) (p : Nat) (s : Bool) (v : Int) : TS := if s then ⟨S.l, fun i => if i = p then v else S.r i, S.u⟩ else ⟨fun i => if i = p then v else S.l i, S.r, S.u⟩
def TS.setUp (S : TS) (p : Nat) (v : Int) : TS := ⟨S.l, S.r, fun i => if i = p then v else S.u i⟩
theorem TreesAt.setKid {w : World} {bt ba n : Nat} {S : TS} (h : TreesAt w bt ba n S) (p : Nat) (s : Bool) (v : Int) :
  TreesAt (w.setCell ⟨ba, p * 3 + (if s then 1 else 0), none⟩ (.int .i64 v)) bt ba n (S.setKid p s v) := by
 refine ⟨h.head.far _ _ h.ne, (h.row.set _ _).ext (fun j hj => ?_), h.ne, h.le⟩
 cases s
 ·unfold treeCell TS.setKid
  by_cases hj2 : j = p * 3
  ·subst hj2; simp
  ·have : ¬ (j % 3 = 0 ∧ j / 3 = p) := by omega
   by_cases h0 : j % 3 = 0
   ·simp [hj2, h0]; intro hh; exfalso; omega
   ·simp [hj2, h0]
 ·unfold treeCell TS.setKid
  by_cases hj2 : j = p * 3 + 1
  ·subst hj2; simp; intro hh; exfalso; omega
  ·by_cases h0 : j % 3 = 1
   ·simp [hj2, h0]; intro hh; exfalso; omega
   ·simp [hj2, h0]
theorem TreesAt.setUp {w : World} {bt ba n : Nat} {S : TS} (h : TreesAt w bt ba n S) (p : Nat) (v : Int) :
  TreesAt (w.setCell ⟨ba, p * 3 + 2, none⟩ (.int .i64 v)) bt ba n (S.setUp p v) := by
 refine ⟨h.head.far _ _ h.ne, (h.row.set _ _).ext (fun j hj => ?_), h.ne, h.le⟩
 unfold treeCell TS.setUp
 by_cases hj2 : j = p * 3 + 2
 ·subst hj2; simp; intro hh; exfalso; omega
 ·by_cases h0 : j % 3 = 0
  ·simp [hj2, h0]
  ·by_cases h1 : j % 3 = 1
   ·simp [hj2, h1]
   ·simp [hj2, h0, h1]; intro hh; exfalso; omega
end Go.Proofs.YtklibcncmbofpaaGreat
namespace Go.Proofs.YtklibcncmbofpaaGreat
open Go Go.RowKit
def hangS (S : TS) (p x : Int) (r : Bool) : TS := (S.setKid p.toNat r x).setUp x.toNat p
set_option maxHeartbeats 1000000 in
theorem hang_yes (bt ba n : Nat) (S : TS) (i j : Nat) (r : Bool) (w : World) (h : TreesAt w bt ba n S) (hi : i < n) (hj : j < n) (hne : i ≠ j) (hu : S.u j = -1) (hk : S.kid r i = -1) :
  Calls Tryz.prog 251 #[.pointer (some ⟨bt, 0, none⟩), .int .i64 (i : Int), .int .i64 (j : Int), .bool r] w fun e w' => e = .returned (.bool true) ∧ TreesAt w' bt ba n (hangS S i j r) ∧ Upd [ba] w w' := by
 have hle := h.le
 have hbne := h.ne
 have hbne' : ba ≠ bt := fun e => h.ne e.symm
 have c0 := h.head.cell 0 (by omega)
 have d0 := h.row.cellAt (i * 3) (by omega) (treeCell0 S i)
 have d1 := h.row.cellAt (i * 3 + 1) (by omega) (treeCell1 S i)
 have d2 := h.row.cellAt (j * 3 + 2) (by omega) (treeCell2 S j)
 have e0 := h.row.free (i * 3)
 have e1 := h.row.free (i * 3 + 1)
 have e2 := h.row.free (j * 3 + 2)
 have k1 := has_any bt ba n S i w h true (by simp [hi])
 have k2 := has_any bt ba n S j w h true (by simp [hj])
 have k3 := above_any bt ba n S j w h
 rw [show upOf n S j = -1 by unfold upOf; rw [if_pos (by omega)]; simpa using hu] at k3
 have k4 := kid_any bt ba n S i r w h
 rw [show kidOf n S i r = -1 by unfold kidOf; rw [if_pos (by omega)]; simpa using hk] at k4
 have hij : ((i : Int) == (j : Int)) = false := by simp; omega
 have H := Lib.hid h
 clear h hu hk
 cases r
 ·go_enter Tryz.func251, Tryz.ntmps251
  go_wp2_with (first
   | (go_at_call 257; (with_reducible refine (k1).mono ?_); rintro e w' ⟨rfl, rfl⟩)
   | (go_at_call 257; (with_reducible refine (k2).mono ?_); rintro e w' ⟨rfl, rfl⟩)
   | (go_at_call 252; (with_reducible refine (k3).mono ?_); rintro e w' ⟨rfl, rfl⟩)
   | (go_at_call 254; (with_reducible refine (k4).mono ?_); rintro e w' ⟨rfl, kd, rfl⟩))
  go_region_held3 (fun W => W.cell? ⟨bt, 0, none⟩ = some (.slice (some ⟨ba, 0, none⟩) n n)) (go_keep) ((go_at_call 253; refine (side_any _ _).mono ?_; rintro e w' ⟨rfl, rfl⟩))
  go_wp2
  go_ret
  exact ⟨rfl, ((H.out.drewN _).setKid i false j).setUp j i, (((Upd.refl _ _).drewN _).setCell (Or.inl (by simp)) _).setCell (Or.inl (by simp)) _⟩
 ·go_enter Tryz.func251, Tryz.ntmps251
  go_wp2_with (first
   | (go_at_call 257; (with_reducible refine (k1).mono ?_); rintro e w' ⟨rfl, rfl⟩)
   | (go_at_call 257; (with_reducible refine (k2).mono ?_); rintro e w' ⟨rfl, rfl⟩)
   | (go_at_call 252; (with_reducible refine (k3).mono ?_); rintro e w' ⟨rfl, rfl⟩)
   | (go_at_call 254; (with_reducible refine (k4).mono ?_); rintro e w' ⟨rfl, kd, rfl⟩))
  go_region_held3 (fun W => W.cell? ⟨bt, 0, none⟩ = some (.slice (some ⟨ba, 0, none⟩) n n)) (go_keep) ((go_at_call 253; refine (side_any _ _).mono ?_; rintro e w' ⟨rfl, rfl⟩))
  go_wp2
  go_ret
  exact ⟨rfl, ((H.out.drewN _).setKid i true j).setUp j i, (((Upd.refl _ _).drewN _).setCell (Or.inl (by simp)) _).setCell (Or.inl (by simp)) _⟩
theorem cut_no (bt ba n : Nat) (S : TS) (x : Int) (w : World) (h : TreesAt w bt ba n S) (hu : upOf n S x = -1) :
  Calls Tryz.prog 244 #[.pointer (some ⟨bt, 0, none⟩), .int .i64 x] w fun e w' => e = .returned (.tuple #[.int .i64 0, .bool false]) ∧ w' = w := by
 have k3 := above_any bt ba n S x w h
 rw [hu] at k3
 clear h hu
 go_enter Tryz.func244, Tryz.ntmps244
 go_wp2_with ((go_at_call 252; (with_reducible refine (k3).mono ?_); rintro e w' ⟨rfl, rfl⟩))
 go_ret2
 exact ⟨rfl, rfl⟩
def cutS (S : TS) (i j : Nat) : TS := (S.setKid i (decide (S.r i = j)) (-1)).setUp j (-1)
set_option maxHeartbeats 1000000 in
theorem cut_yes (bt ba n : Nat) (S : TS) (i j : Nat) (w : World) (h : TreesAt w bt ba n S) (hi : i < n) (hj : j < n) (hu : S.u j = i) :
  Calls Tryz.prog 244 #[.pointer (some ⟨bt, 0, none⟩), .int .i64 (j : Int)] w fun e w' => e = .returned (.tuple #[.int .i64 (i : Int), .bool true]) ∧ TreesAt w' bt ba n (cutS S i j) ∧ Upd [ba] w w' := by
 have hle := h.le
 have hbne : ba ≠ bt := fun e => h.ne e.symm
 have c0 := h.head.cell 0 (by omega)
 have d0 := h.row.cellAt (i * 3) (by omega) (treeCell0 S i)
 have d1 := h.row.cellAt (i * 3 + 1) (by omega) (treeCell1 S i)
 have d2 := h.row.cellAt (j * 3 + 2) (by omega) (treeCell2 S j)
 have e0 := h.row.free (i * 3)
 have e1 := h.row.free (i * 3 + 1)
 have e2 := h.row.free (j * 3 + 2)
 have k3 := above_any bt ba n S j w h
 rw [show upOf n S j = i by unfold upOf; rw [if_pos (by omega)]; simpa using hu] at k3
 have k4 := fun W (hW : TreesAt W bt ba n S) => kid_any bt ba n S i true W hW
 rw [show kidOf n S i true = S.r i by unfold kidOf TS.kid; rw [if_pos (by omega)]; simp] at k4
 have H := Lib.hid h
 have hi1 : ((i : Int) == -1) = false := by simp
 clear h
 by_cases hr : S.r i = j
 ·have hb : (S.r i == (j : Int)) = true := by simpa using hr
  have ec : cutS S i j = (S.setKid i true (-1)).setUp j (-1) := by unfold cutS; rw [decide_eq_true hr]
  have EC := Lib.hid ec
  clear hr ec hu
  go_enter Tryz.func244, Tryz.ntmps244
  go_wp2_with ((go_at_call 252; (with_reducible refine (k3).mono ?_); rintro e w' ⟨rfl, rfl⟩))
  go_region_held3 (fun W => W.cell? ⟨bt, 0, none⟩ = some (.slice (some ⟨ba, 0, none⟩) n n)) (go_keep)
   (first | ((go_at_call 253; refine (side_any _ _).mono ?_; rintro e w' ⟨rfl, rfl⟩)) | ((go_at_call 254; refine (k4 _ (H.out.drew)).mono ?_; rintro e w' ⟨rfl, kd, rfl⟩)))
  go_wp2
  go_ret2
  exact ⟨rfl, by rw [EC.out]; exact ((H.out.drewN _).setKid i true (-1)).setUp j (-1), (((Upd.refl _ _).drewN _).setCell (Or.inl (by simp)) _).setCell (Or.inl (by simp)) _⟩
 ·have hb : (S.r i == (j : Int)) = false := by simpa using hr
  have ec : cutS S i j = (S.setKid i false (-1)).setUp j (-1) := by unfold cutS; rw [decide_eq_false hr]
  have EC := Lib.hid ec
  clear hr ec hu
  go_enter Tryz.func244, Tryz.ntmps244
  go_wp2_with ((go_at_call 252; (with_reducible refine (k3).mono ?_); rintro e w' ⟨rfl, rfl⟩))
  go_region_held3 (fun W => W.cell? ⟨bt, 0, none⟩ = some (.slice (some ⟨ba, 0, none⟩) n n)) (go_keep)
   (first | ((go_at_call 253; refine (side_any _ _).mono ?_; rintro e w' ⟨rfl, rfl⟩)) | ((go_at_call 254; refine (k4 _ (H.out.drew)).mono ?_; rintro e w' ⟨rfl, kd, rfl⟩)))
  go_wp2
  go_ret2
  exact ⟨rfl, by rw [EC.out]; exact ((H.out.drewN _).setKid i false (-1)).setUp j (-1), (((Upd.refl _ _).drewN _).setCell (Or.inl (by simp)) _).setCell (Or.inl (by simp)) _⟩
def turnS (S : TS) (i : Nat) : TS := (S.setKid i false (S.r i)).setKid i true (S.l i)
set_option maxHeartbeats 1000000 in
theorem turn_yes (bt ba n : Nat) (S : TS) (i : Nat) (w : World) (h : TreesAt w bt ba n S) (hi : i < n) :
  Calls Tryz.prog 259 #[.pointer (some ⟨bt, 0, none⟩), .int .i64 (i : Int)] w fun e w' => e = .returned (.bool true) ∧ TreesAt w' bt ba n (turnS S i) ∧ Upd [ba] w w' := by
 have hle := h.le
 have c0 := h.head.cell 0 (by omega)
 have d0 := h.row.cellAt (i * 3) (by omega) (treeCell0 S i)
 have d1 := h.row.cellAt (i * 3 + 1) (by omega) (treeCell1 S i)
 have e0 := h.row.free (i * 3)
 have e1 := h.row.free (i * 3 + 1)
 have k1 := has_any bt ba n S i w h true (by simp [hi])
 have H := Lib.hid h
 clear h
 go_enter Tryz.func259, Tryz.ntmps259
 go_wp2_with ((go_at_call 257; (with_reducible refine (k1).mono ?_); rintro e w' ⟨rfl, rfl⟩))
 go_region
 go_wp2
 go_ret
 exact ⟨rfl, ((H.out.setKid i false (S.r i)).setKid i true (S.l i)).drew, (((Upd.refl _ _).setCell (Or.inl (by simp)) _).setCell (Or.inl (by simp)) _).drew⟩
end Go.Proofs.YtklibcncmbofpaaGreat
