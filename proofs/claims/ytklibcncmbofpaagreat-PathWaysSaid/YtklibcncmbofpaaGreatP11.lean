/-
  Lemmas for PathWays: Pq4, Pq5, Pq6, Pq7. Conditions: those of each lemma.
-/
import Derived.WalkKit
import Derived.WalkSpells
import Derived.WalkLawsBesides
import Derived.BigQuiet
import Derived.Deep.RegionHeld3
import Derived.ProofKit
import Derived.OpenShut
import Derived.Lib.Hide
import Derived.Test.YtklibcncmbofpaaGreatProg
import Derived.Maps.AppendAt
import Derived.StillTailTactics
import Derived.Maps.OwnSet
import Derived.Maps.OwnOps
import Derived.Maps.RangeWalk
import Derived.Deep.RegionLaw
import Derived.Deep.DeepCutAuto
import Derived.Test.YtklibcncmbofpaaGreatP01
import Derived.Test.YtklibcncmbofpaaGreatP03
import Derived.Test.YtklibcncmbofpaaGreatP04
import Derived.Test.YtklibcncmbofpaaGreatP05
import Derived.Test.YtklibcncmbofpaaGreatP06
import Derived.Test.YtklibcncmbofpaaGreatP07
import Derived.Test.YtklibcncmbofpaaGreatP08
import Derived.Test.YtklibcncmbofpaaGreatP09
import Derived.Test.YtklibcncmbofpaaGreatP10
set_option linter.unusedVariables false
set_option linter.unusedSimpArgs false
namespace Go.Proofs.YtklibcncmbofpaaGreat
open Go Go.RowKit
section
variable {K : NestQ} {w : World} {p pa pn : Nat} {Fa Fn F : List Nat} {kd d : Int} {R : AR} {A : NS} {q : Nat}
theorem PqM.moved (h : PqM K w p pa pn Fa Fn kd d R A q) {w' : World} {Fn' : List Nat} (hn : K.at_ w' pn Fn' A) (hu : Upd Fn w w') (hf : ∀ x, x ∈ Fn' → x ∈ Fn ∨ w.heap.size ≤ x) : Goes (p :: (Fa ++ Fn)) w w' (fun F' => PqAt K w' p F' kd d R A q) := by
 refine ⟨p :: (Fa ++ Fn'), ⟨pa, pn, Fa, Fn', rfl, h.nestG hn hu hf rfl (h.ar.upd hu (fun x hx hm => h.s3 x hm hx)) rfl h.link⟩, hu.mono (fun x hx => by simp [hx]), fun x hx => ?_⟩
 simp only [List.mem_cons, List.mem_append] at hx ⊢
 rcases hx with hx | hx | hx
 ·exact Or.inl (Or.inl hx)
 ·exact Or.inl (Or.inr (Or.inl hx))
 ·rcases hf x hx with hx | hx
  ·exact Or.inl (Or.inr (Or.inr hx))
  ·exact Or.inr hx
theorem Goes.after {F : List Nat} {w w0 w' : World} {P : List Nat → Prop} (h : Goes F w0 w' P) (hu : Upd [] w w0) : Goes F w w' P := by
 obtain ⟨F', h1, h2, h3⟩ := h
 exact ⟨F', h1, (hu.mono (by simp)).trans h2, fun x hx => by rcases h3 x hx with h | h; exact Or.inl h; exact Or.inr (Nat.le_trans hu.size h)⟩
theorem Goes.beh {F S : List Nat} {w w0 w1 w2 : World} {p : Nat} {kd d : Int} (h : Goes F w0 w1 (fun F' => PqAt K w1 p F' kd d R A q)) (hu : Upd S w1 w2) (hw : Upd [] w w0) (hS : ∀ r, r ∈ S → r < w0.heap.size ∧ r ∉ F ∧ w.heap.size ≤ r) : Goes F w w2 (fun F' => PqAt K w2 p F' kd d R A q) := by
 obtain ⟨F', h1, h2, h3⟩ := h
 refine ⟨F', h1.upd hu (fun r hr hm => ?_), ((hw.mono (by simp)).trans h2).joined hu (fun r hr => Or.inr (hS r hr).2.2), fun x hx => by rcases h3 x hx with h | h; exact Or.inl h; exact Or.inr (Nat.le_trans hw.size h)⟩
 rcases h3 r hm with e | e
 ·exact (hS r hr).2.1 e
 ·have := (hS r hr).1; omega
set_option maxRecDepth 10000 in
theorem pfirst_nohas (h : PqAt K w p F kd d R A q) (hh : Int) (hB : hasN A hh = false) :
  Calls Tryz.prog 68 #[.pointer (some ⟨p, 0, none⟩), .int .i64 hh] w fun e w' => e = .returned (.tuple #[.agg #[.int .i64 0, .int .u32 0], .int .i64 171]) ∧ Upd [] w w' := by
 obtain ⟨pa, pn, Fa, Fn, rfl, h⟩ := h
 have c3 := h.c3
 have hpl := h.head.lt
 have hN := K.upd h.nest (((Upd.refl [] w).alloc (.cells #[.int .i64 0, .int .u32 0] 85))) (by simp)
 obtain ⟨f, fv, hen, hfv⟩ := K.has hh hN
 unfold Enters at hen
 have hm := (hfv _ (Upd.refl _ _)).1
 have hc := (hfv _ (Upd.refl _ _)).2
 rw [hB] at hc
 clear h hfv hN
 go_enter Tryz.func68, Tryz.ntmps68
 go_wp2_with (first
  | ((with_reducible refine (hc).mono ?_); rintro e w1 ⟨rfl, rfl⟩)
  | fail)
 exact bodyPost_ret (v := .tuple #[.agg #[.int .i64 0, .int .u32 0], .int .i64 171]) (by simp [results, Tryz.results68, go_sem]) rfl ⟨rfl, by (repeat (first | assumption | exact Upd.refl _ _ | refine Upd.alloc ?_ _ | refine Upd.drew ?_ | refine Upd.drewN ?_ _ | refine Upd.setCell ?_ ?_ _ | focus (left; simp; done) | focus (right; simp; done) | focus (right; simp; omega)))⟩
set_option maxHeartbeats 1000000 in
set_option maxRecDepth 10000 in
theorem pfirst_none (h : PqAt K w p F kd d R A q) (hh : Int) (hB : hasN A hh = true) (hb : -9223372036854775808 ≤ hh ∧ hh ≤ 9223372036854775807) (hM : minN A hh = none) :
  Calls Tryz.prog 68 #[.pointer (some ⟨p, 0, none⟩), .int .i64 hh] w fun e w' => e = .returned (.tuple #[.agg #[.int .i64 0, .int .u32 0], .int .i64 172]) ∧ Goes F w w' (fun F' => PqAt K w' p F' kd d R A q) := by
 obtain ⟨hh, rfl⟩ : ∃ n : Nat, hh = n := ⟨hh.toNat, by have := (hasN_iff _ _).1 hB; omega⟩
 obtain ⟨pa, pn, Fa, Fn, rfl, h⟩ := h
 have c3 := h.c3
 have hpl := h.head.lt
 have hu0 : Upd [] w (w.alloc (.cells #[.int .i64 0, .int .u32 0] 85)) := (Upd.refl [] w).alloc _
 have hN := K.upd h.nest hu0 (by simp)
 obtain ⟨f, fv, hen, hfv⟩ := K.has hh hN
 obtain ⟨f2, fv2, hen2, hfv2⟩ := K.min hh hB hN
 unfold Enters at hen hen2
 have hm := (hfv _ (Upd.refl _ _)).1
 have hc := (hfv _ (Upd.refl _ _)).2
 have hm2 := (hfv2 _ (Upd.refl _ _)).1
 have hc2 := (hfv2 _ (Upd.refl _ _)).2
 rw [hB] at hc
 rw [hM, show slotV none = 0 from rfl, show (none : Option Nat).isSome = false from rfl] at hc2
 have hrFn : w.heap.size ∉ Fn := fun e => by have := K.lt h.nest _ e; omega
 have HG := Lib.hid (fun w1 Fn' (hn : K.at_ w1 pn Fn' A) (hu : Upd Fn (w.alloc (.cells #[.int .i64 0, .int .u32 0] 85)) w1) hf w2 (hu2 : Upd [w.heap.size] w1 w2) => ((h.upd hu0 (by simp)).moved hn hu hf).beh hu2 hu0 (fun r hr => by simp at hr; subst hr; exact ⟨by simp, fun e => by have := h.lt _ e; omega, Nat.le_refl _⟩))
 clear h hfv hN hfv2
 go_enter Tryz.func68, Tryz.ntmps68
 go_wp2_with (first
  | ((with_reducible refine (hc).mono ?_); rintro e w1 ⟨rfl, rfl⟩)
  | ((with_reducible refine (hc2).mono ?_); rintro e w2 ⟨rfl, Fn', hn, hu, hf⟩; (have q0 : w2.cell? ⟨w.heap.size, 0, none⟩ = some (.int .i64 0) := hu.kept (by go_simp) hrFn); (have q1 : w2.cell? ⟨w.heap.size, 1, none⟩ = some (.int .u32 0) := hu.kept (by go_simp) hrFn); (have f0 : w2.frozen? ⟨w.heap.size, 0, none⟩ = false := hu.keptF (v := .int .i64 0) (by go_simp) hrFn (by go_simp)); (have f1 : w2.frozen? ⟨w.heap.size, 1, none⟩ = false := hu.keptF (v := .int .u32 0) (by go_simp) hrFn (by go_simp)); (have hrl := World.block_lt_of_cell? w2 _ q0))
  | fail)
 exact bodyPost_ret (v := .tuple #[.agg #[.int .i64 0, .int .u32 0], .int .i64 172]) (by simp [results, Tryz.results68, go_sem, q0, q1]) rfl ⟨rfl, HG.out _ _ hn hu hf _ (((Upd.refl _ _).setCell (Or.inl (by simp)) _).setCell (Or.inl (by simp)) _)⟩
set_option maxHeartbeats 2000000 in
set_option maxRecDepth 10000 in
theorem pfirst_some (h : PqAt K w p F kd d R A q) (hh : Int) {m : Nat} (hM : minN A hh = some m) :
  Calls Tryz.prog 68 #[.pointer (some ⟨p, 0, none⟩), .int .i64 hh] w fun e w' => e = .returned (.tuple #[.agg #[.int .i64 (m : Int), .int .u32 (R.g m : Int)], .int .i64 0]) ∧ Goes F w w' (fun F' => PqAt K w' p F' kd d R A q) := by
 obtain ⟨pa, pn, Fa, Fn, rfl, h⟩ := h
 have hok := K.ok h.nest
 obtain ⟨m1, m2, m3, m4⟩ := minN_in hM
 have hB : hasN A hh = true := by rw [← m3]; have := inN_has hok m4; simpa using this
 obtain ⟨hh, rfl⟩ : ∃ n : Nat, hh = n := ⟨hh.toNat, by have := (hasN_iff _ _).1 hB; omega⟩
 have hb4 := (hasN_iff _ _).1 hB
 have hhs := hok.h1
 have hv : R.v m = true := by rw [h.link]; exact m4
 have c2' := h.c2
 have c3 := h.c3
 have hpl := h.head.lt
 have hu0 : Upd [] w (w.alloc (.cells #[.int .i64 0, .int .u32 0] 85)) := (Upd.refl [] w).alloc _
 have hN := K.upd h.nest hu0 (by simp)
 obtain ⟨f, fv, hen, hfv⟩ := K.has hh hN
 obtain ⟨f2, fv2, hen2, hfv2⟩ := K.min hh hB hN
 unfold Enters at hen hen2
 have hm := (hfv _ (Upd.refl _ _)).1
 have hc := (hfv _ (Upd.refl _ _)).2
 have hm2 := (hfv2 _ (Upd.refl _ _)).1
 have hc2 := (hfv2 _ (Upd.refl _ _)).2
 rw [hB] at hc
 rw [hM, show slotV (some m) = (m : Int) from rfl, show (some m).isSome = true from rfl] at hc2
 have hrFn : w.heap.size ∉ Fn := fun e => by have := K.lt h.nest _ e; omega
 have hs3 := h.s3
 have ka := fun W (hu : Upd Fn (w.alloc (.cells #[.int .i64 0, .int .u32 0] 85)) W) => arat_any ((h.ar.upd hu0 (by simp)).upd hu (fun x hx hm => hs3 x hm hx)) m hv
 have hpn := h.s2
 have HG := Lib.hid (fun w1 Fn' (hn : K.at_ w1 pn Fn' A) (hu : Upd Fn (w.alloc (.cells #[.int .i64 0, .int .u32 0] 85)) w1) hf w2 (hu2 : Upd [w.heap.size] w1 w2) => ((h.upd hu0 (by simp)).moved hn hu hf).beh hu2 hu0 (fun r hr => by simp at hr; subst hr; exact ⟨by simp, fun e => by have := h.lt _ e; omega, Nat.le_refl _⟩))
 clear h hfv hN hfv2 hok hB hv m4 hb4 hhs
 generalize R.g m = gm at *
 go_enter Tryz.func68, Tryz.ntmps68
 go_wp2_with (first
  | ((with_reducible refine (hc).mono ?_); rintro e w1 ⟨rfl, rfl⟩)
  | ((with_reducible refine (hc2).mono ?_); rintro e w2 ⟨rfl, Fn', hn, hu, hf⟩; (have q0 : w2.cell? ⟨w.heap.size, 0, none⟩ = some (.int .i64 0) := hu.kept (by go_simp) hrFn); (have q1 : w2.cell? ⟨w.heap.size, 1, none⟩ = some (.int .u32 0) := hu.kept (by go_simp) hrFn); (have f0 : w2.frozen? ⟨w.heap.size, 0, none⟩ = false := hu.keptF (v := .int .i64 0) (by go_simp) hrFn (by go_simp)); (have f1 : w2.frozen? ⟨w.heap.size, 1, none⟩ = false := hu.keptF (v := .int .u32 0) (by go_simp) hrFn (by go_simp)); (have c2 := hu.kept (hu0.was c2') hpn); (have ka2 := ka _ hu))
  | ((go_at_call 84; (with_reducible refine (ka2).mono ?_)); rintro e w3 ⟨rfl, hu3⟩; (have t0 := hu3.was q0); (have t1 := hu3.was q1); (have tf0 := hu3.keptF q0 (by simp) f0); (have tf1 := hu3.keptF q1 (by simp) f1); (have hrl := World.block_lt_of_cell? w3 _ t0))
  | fail)
 exact bodyPost_ret (v := .tuple #[.agg #[.int .i64 (m : Int), .int .u32 (gm : Int)], .int .i64 0]) (by simp [results, Tryz.results68, go_sem, t0, t1, hrl]) rfl ⟨rfl, HG.out _ _ hn hu hf _ ((((hu3.mono (by simp)).setCell (Or.inl (by simp)) _).setCell (Or.inl (by simp)) _).alloc _)⟩
end
end Go.Proofs.YtklibcncmbofpaaGreat
namespace Go.Proofs.YtklibcncmbofpaaGreat
open Go Go.RowKit
section
variable {K : NestQ} {w : World} {p : Nat} {F : List Nat} {kd d : Int} {R : AR} {A : NS} {q : Nat}
def pminE (A : NS) (hh : Int) : Int := if hasN A hh then (match minN A hh with | some _ => 0 | none => 172) else 171
def pminX (A : NS) (hh : Int) : Int := match minN A hh with | some m => (m : Int) | none => 0
def pminG (R : AR) (A : NS) (hh : Int) : Int := match minN A hh with | some m => (R.g m : Int) | none => 0
theorem pfirst_any (h : PqAt K w p F kd d R A q) (hh : Int) (hb : -9223372036854775808 ≤ hh ∧ hh ≤ 9223372036854775807) :
  Calls Tryz.prog 68 #[.pointer (some ⟨p, 0, none⟩), .int .i64 hh] w fun e w' => e = .returned (.tuple #[.agg #[.int .i64 (pminX A hh), .int .u32 (pminG R A hh)], .int .i64 (pminE A hh)]) ∧ Goes F w w' (fun F' => PqAt K w' p F' kd d R A q) := by
 unfold pminX pminG pminE
 have hok := h.ok.1
 cases hm : minN A hh with
 | some m =>
  have hB : hasN A hh = true := by
   obtain ⟨m1, m2, m3, m4⟩ := minN_in hm
   rw [← m3]; have := inN_has hok m4; simpa using this
  rw [hB, if_pos rfl]
  exact pfirst_some h hh hm
 | none =>
  cases hB : hasN A hh with
  | true => rw [if_pos rfl]; exact pfirst_none h hh hB hb hm
  | false =>
   rw [if_neg (by simp)]
   refine (pfirst_nohas h hh hB).mono fun e w' ⟨h1, h2⟩ => ⟨h1, F, h.upd0 h2, h2.mono (by simp), fun x hx => Or.inl hx⟩
set_option maxHeartbeats 2000000 in
set_option maxRecDepth 10000 in
theorem pmin_err (h : PqAt K w p F kd d R A q) (hh : Int) (hb : -9223372036854775808 ≤ hh ∧ hh ≤ 9223372036854775807) (hE : minN A hh = none) :
  Calls Tryz.prog 43 #[.pointer (some ⟨p, 0, none⟩), .int .i64 hh] w fun e w' => e = .returned (.tuple #[.agg #[.int .i64 0, .int .u32 0], .int .i64 0, .int .i64 (pminE A hh)]) ∧ Goes F w w' (fun F' => PqAt K w' p F' kd d R A q) := by
 have hu0 : Upd [] w (w.alloc (.cells #[.int .i64 0, .int .u32 0] 85)) := (Upd.refl [] w).alloc _
 have k := pfirst_any (h.upd0 hu0) hh hb
 have eX : pminX A hh = 0 := by unfold pminX; rw [hE]
 have eG : pminG R A hh = 0 := by unfold pminG; rw [hE]
 have eE : pminE A hh ≠ 0 := by unfold pminE; rw [hE]; split <;> simp
 rw [eX, eG] at k
 have hlF := h.lt
 have hrF : w.heap.size ∉ F := fun e => by have := hlF _ e; omega
 have HG := Lib.hid (fun (w1 w2 : World) (hg : Goes F (w.alloc (.cells #[.int .i64 0, .int .u32 0] 85)) w1 (fun F' => PqAt K w1 p F' kd d R A q)) (hu2 : Upd [w.heap.size] w1 w2) => hg.beh hu2 hu0 (fun r hr => by simp at hr; subst hr; exact ⟨by simp, hrF, Nat.le_refl _⟩))
 generalize pminE A hh = er at *
 have eb : (er != 0) = true := by simpa using eE
 clear h hE eX eG eE hlF
 go_enter Tryz.func43, Tryz.ntmps43
 go_wp2_with (first
  | ((go_at_call 68; (with_reducible refine (k).mono ?_)); rintro e w1 ⟨rfl, hg⟩; (have hu1 : Upd F (w.alloc (.cells #[.int .i64 0, .int .u32 0] 85)) w1 := by obtain ⟨_, _, h2, _⟩ := hg; exact h2); (have q0 : w1.cell? ⟨w.heap.size, 0, none⟩ = some (.int .i64 0) := hu1.kept (by go_simp) hrF); (have q1 : w1.cell? ⟨w.heap.size, 1, none⟩ = some (.int .u32 0) := hu1.kept (by go_simp) hrF); (have f0 : w1.frozen? ⟨w.heap.size, 0, none⟩ = false := hu1.keptF (v := .int .i64 0) (by go_simp) hrF (by go_simp)); (have f1 : w1.frozen? ⟨w.heap.size, 1, none⟩ = false := hu1.keptF (v := .int .u32 0) (by go_simp) hrF (by go_simp)); (have hrl := World.block_lt_of_cell? w1 _ q0))
  | fail)
 exact bodyPost_ret (v := .tuple #[.agg #[.int .i64 0, .int .u32 0], .int .i64 0, .int .i64 er]) (by simp [results, Tryz.results43, go_sem, q0, q1, hrl]) rfl ⟨rfl, HG.out _ _ hg ((((Upd.refl _ _).setCell (Or.inl (by simp)) _).setCell (Or.inl (by simp)) _).alloc _)⟩
set_option maxHeartbeats 4000000 in
set_option maxRecDepth 10000 in
theorem pmin_some (h : PqAt K w p F kd d R A q) (hh : Int) {m : Nat} (hM : minN A hh = some m) :
  Calls Tryz.prog 43 #[.pointer (some ⟨p, 0, none⟩), .int .i64 hh] w fun e w' => e = .returned (.tuple #[.agg #[.int .i64 (m : Int), .int .u32 (R.g m : Int)], .int .i64 (A.c m).k, .int .i64 0]) ∧ Goes F w w' (fun F' => PqAt K w' p F' kd d R A q) := by
 have hu0 : Upd [] w (w.alloc (.cells #[.int .i64 0, .int .u32 0] 85)) := (Upd.refl [] w).alloc _
 have k := pfirst_some (h.upd0 hu0) hh hM
 have hv : R.v m = true := by rw [h.ok.2.2.2]; exact (minN_in hM).2.2.2
 have hlF := h.lt
 have hrF : w.heap.size ∉ F := fun e => by have := hlF _ e; omega
 have HG := Lib.hid (fun (w1 w2 : World) (hg : Goes F (w.alloc (.cells #[.int .i64 0, .int .u32 0] 85)) w1 (fun F' => PqAt K w1 p F' kd d R A q)) (hu2 : Upd [w.heap.size] w1 w2) => hg.beh hu2 hu0 (fun r hr => by simp at hr; subst hr; exact ⟨by simp, hrF, Nat.le_refl _⟩))
 have ke := fun W F' (hP : PqAt K W p F' kd d R A q) => pentry_yes hP m hv
 clear h hv hM hlF
 generalize R.g m = gm at *
 generalize (A.c m).k = kk at *
 generalize (A.c m).s = ss at *
 go_enter Tryz.func43, Tryz.ntmps43
 go_upto_region 5 with (first
  | ((go_at_call 68; (with_reducible refine (k).mono ?_)); rintro e w1 ⟨rfl, hg⟩; (have hu1 : Upd F (w.alloc (.cells #[.int .i64 0, .int .u32 0] 85)) w1 := by obtain ⟨_, _, h2, _⟩ := hg; exact h2); (have q0 : w1.cell? ⟨w.heap.size, 0, none⟩ = some (.int .i64 0) := hu1.kept (by go_simp) hrF); (have q1 : w1.cell? ⟨w.heap.size, 1, none⟩ = some (.int .u32 0) := hu1.kept (by go_simp) hrF); (have f0 : w1.frozen? ⟨w.heap.size, 0, none⟩ = false := hu1.keptF (v := .int .i64 0) (by go_simp) hrF (by go_simp)); (have f1 : w1.frozen? ⟨w.heap.size, 1, none⟩ = false := hu1.keptF (v := .int .u32 0) (by go_simp) hrF (by go_simp)); (have ke2 : ∀ W, Upd [] w1 W → Calls Tryz.prog 69 #[.pointer (some ⟨p, 0, none⟩), .agg #[.int .i64 (m : Int), .int .u32 (gm : Int)]] W fun e w' => e = .returned (.tuple #[.agg #[.int .i64 kk, .int .u64 ss], .int .i64 0]) ∧ Upd [] W w' := by obtain ⟨F1, hP1, _, _⟩ := hg; exact fun W hW => ke W F1 (hP1.upd0 hW)))
  | ((go_at_call 69; (with_reducible refine (ke2 _ (by (repeat (first | assumption | exact Upd.refl _ _ | refine Upd.alloc ?_ _ | refine Upd.drew ?_ | refine Upd.drewN ?_ _ | refine Upd.setCell ?_ ?_ _ | focus (left; simp; done) | focus (right; simp; done) | focus (right; simp; omega))))).mono ?_)); rintro e w2 ⟨rfl, hu2⟩; (have x0 : w2.cell? ⟨w1.heap.size, 0, none⟩ = some (.int .i64 (m : Int)) := hu2.was (by go_simp)); (have x1 : w2.cell? ⟨w1.heap.size, 1, none⟩ = some (.int .u32 (gm : Int)) := hu2.was (by go_simp)); (have hv2 : Upd [] w1 w2 := Upd.trans (by (repeat (first | assumption | exact Upd.refl _ _ | refine Upd.alloc ?_ _ | refine Upd.drew ?_ | refine Upd.drewN ?_ _ | refine Upd.setCell ?_ ?_ _ | focus (left; simp; done) | focus (right; simp; done) | focus (right; simp; omega)))) hu2))
  | fail)
 refine wp_nm (fun W => W.cell? ⟨w1.heap.size, 0, none⟩ = some (.int .i64 (m : Int)) ∧ W.cell? ⟨w1.heap.size, 1, none⟩ = some (.int .u32 (gm : Int)) ∧ W.cell? ⟨w2.heap.size, 0, none⟩ = some (.int .i64 kk) ∧ Upd [] w1 W) ⟨by have := World.block_lt_of_cell? w2 _ x0; go_simp, by have := World.block_lt_of_cell? w2 _ x1; go_simp, by go_simp, by (repeat (first | assumption | exact Upd.refl _ _ | refine Upd.alloc ?_ _ | refine Upd.drew ?_ | refine Upd.drewN ?_ _ | refine Upd.setCell ?_ ?_ _ | focus (left; simp; done) | focus (right; simp; done) | focus (right; simp; omega)))⟩ ?_
 rintro W ⟨y0, y1, y2, hW⟩
 have t0 := hW.was q0
 have t1 := hW.was q1
 have ft0 := hW.keptF q0 (by simp) f0
 have ft1 := hW.keptF q1 (by simp) f1
 have hrl := World.block_lt_of_cell? w1 _ q0
 have hz2 := hv2.size
 dsimp only at hrl
 have hne1 : ¬ w2.heap.size = w.heap.size := by omega
 have hne2 : ¬ w1.heap.size = w.heap.size := by omega
 have hne3 : ¬ w.heap.size = w2.heap.size := by omega
 have hne4 : ¬ w.heap.size = w1.heap.size := by omega
 have HW := Lib.hid hW
 clear hW q0 q1 f0 f1 ke2 x0 x1 hv2 hu2 ke k hu1
 go_region
 all_goals
  go_wp2
  exact bodyPost_ret (v := .tuple #[.agg #[.int .i64 (m : Int), .int .u32 (gm : Int)], .int .i64 kk, .int .i64 0]) (by simp [results, Tryz.results43, go_sem, t0, t1, hne1, hne2, hne3, hne4]) rfl ⟨rfl, HG.out _ _ hg ((((HW.out.mono (by simp)).setCell (Or.inl (by simp)) _).setCell (Or.inl (by simp)) _).drew)⟩
end
end Go.Proofs.YtklibcncmbofpaaGreat
namespace Go.Proofs.YtklibcncmbofpaaGreat
open Go Go.RowKit
section
variable {K : NestQ} {w : World} {p : Nat} {F : List Nat} {kd d : Int} {R : AR} {A : NS} {q : Nat}
theorem give_v {R : AR} {x : Nat} (hv : R.v x = true) (y : Nat) : (giveR R x).v y = (R.v y && !decide (y = x)) := by
 show (R.put x (R.g x, false)).v y = _
 rw [AR.v_put]
 by_cases e : y = x
 ·rw [if_pos ⟨e, AR.v_lt hv⟩, decide_eq_true e]; simp
 ·rw [if_neg (fun h => e h.1), decide_eq_false e]; simp
theorem drop_in {A : NS} {x : Nat} (hx : inN A (x : Int) = true) (y : Nat) : inN (dropN A (x : Int)) (y : Int) = (inN A (y : Int) && !decide (y = x)) := by
 have hc := drop_c hx y
 have hl := drop_len A (x : Int)
 by_cases e : y = x
 ·rw [if_pos e] at hc
  rw [decide_eq_true e]
  have : ¬ inN (dropN A (x : Int)) (y : Int) = true := fun h => by
   have := (inN_nat _ _).1 h
   rw [hc] at this
   exact absurd this.2 (by simp [Cl.z])
  simpa using this
 ·rw [if_neg e] at hc
  rw [decide_eq_false e]
  have e1 : inN (dropN A (x : Int)) (y : Int) = true ↔ inN A (y : Int) = true := by rw [inN_nat, inN_nat, hl, hc]
  cases h1 : inN (dropN A (x : Int)) (y : Int) <;> cases h2 : inN A (y : Int) <;> simp_all
theorem giveR_len (R : AR) (x : Nat) : (giveR R x).sl.length = R.sl.length := by show (R.put x _).sl.length = _; rw [AR.len_put]
set_option maxHeartbeats 2000000 in
set_option maxRecDepth 10000 in
theorem pext_err (h : PqAt K w p F kd d R A q) (hh : Int) (hb : -9223372036854775808 ≤ hh ∧ hh ≤ 9223372036854775807) (hE : minN A hh = none) :
  Calls Tryz.prog 41 #[.pointer (some ⟨p, 0, none⟩), .int .i64 hh] w fun e w' => e = .returned (.tuple #[.agg #[.int .i64 0, .int .u32 0], .int .i64 0, .int .i64 (pminE A hh)]) ∧ Goes F w w' (fun F' => PqAt K w' p F' kd d R A q) := by
 have hu0 : Upd [] w (w.alloc (.cells #[.int .i64 0, .int .u32 0] 85)) := (Upd.refl [] w).alloc _
 have k := pmin_err (h.upd0 hu0) hh hb hE
 have eE : pminE A hh ≠ 0 := by unfold pminE; rw [hE]; split <;> simp
 have hlF := h.lt
 have hrF : w.heap.size ∉ F := fun e => by have := hlF _ e; omega
 have HG := Lib.hid (fun (w1 w2 : World) (hg : Goes F (w.alloc (.cells #[.int .i64 0, .int .u32 0] 85)) w1 (fun F' => PqAt K w1 p F' kd d R A q)) (hu2 : Upd [w.heap.size] w1 w2) => hg.beh hu2 hu0 (fun r hr => by simp at hr; subst hr; exact ⟨by simp, hrF, Nat.le_refl _⟩))
 generalize pminE A hh = er at *
 have eb : (er != 0) = true := by simpa using eE
 clear h hE eE hlF
 go_enter Tryz.func41, Tryz.ntmps41
 go_wp2_with (first
  | ((go_at_call 43; (with_reducible refine (k).mono ?_)); rintro e w1 ⟨rfl, hg⟩; (have hu1 : Upd F (w.alloc (.cells #[.int .i64 0, .int .u32 0] 85)) w1 := by obtain ⟨_, _, h2, _⟩ := hg; exact h2); (have q0 : w1.cell? ⟨w.heap.size, 0, none⟩ = some (.int .i64 0) := hu1.kept (by go_simp) hrF); (have q1 : w1.cell? ⟨w.heap.size, 1, none⟩ = some (.int .u32 0) := hu1.kept (by go_simp) hrF); (have f0 : w1.frozen? ⟨w.heap.size, 0, none⟩ = false := hu1.keptF (v := .int .i64 0) (by go_simp) hrF (by go_simp)); (have f1 : w1.frozen? ⟨w.heap.size, 1, none⟩ = false := hu1.keptF (v := .int .u32 0) (by go_simp) hrF (by go_simp)); (have hrl := World.block_lt_of_cell? w1 _ q0))
  | fail)
 exact bodyPost_ret (v := .tuple #[.agg #[.int .i64 0, .int .u32 0], .int .i64 0, .int .i64 er]) (by simp [results, Tryz.results41, go_sem, q0, q1, hrl]) rfl ⟨rfl, HG.out _ _ hg ((((Upd.refl _ _).setCell (Or.inl (by simp)) _).setCell (Or.inl (by simp)) _).alloc _)⟩
theorem PqAt.out {kd d : Int} {m : Nat} {w1 : World} {pa pn : Nat} {Fa Fn : List Nat} (h : PqM K w p pa pn Fa Fn kd d R A q) (hm : inN A (m : Int) = true) {Fn' : List Nat} (hn : K.at_ w1 pn Fn' (dropN A m)) (hu : Upd Fn w w1) (hf : ∀ x, x ∈ Fn' → x ∈ Fn ∨ w.heap.size ≤ x)
  {w2 w3 : World} (hu2 : Upd [] w1 w2) {Fa' : List Nat} (ha : ArAt w3 pa Fa' (giveR R m)) (hu3 : Upd Fa w2 w3) (hf3 : ∀ x, x ∈ Fa' → x ∈ Fa ∨ w2.heap.size ≤ x) : Goes (p :: (Fa ++ Fn)) w w3 (fun F' => PqAt K w3 p F' kd d (giveR R m) (dropN A m) q) := by
 have hA := h.ar.lt
 have hN := K.lt h.nest
 have hN1 := K.lt hn
 have hs12 := hu2.size
 have hs01 := hu.size
 have hv : R.v m = true := by rw [h.link]; exact hm
 have hpl := h.head.lt
 have hnn : ∀ x, x ∈ Fa → x ∉ Fn' := fun x hx e => by rcases hf x e with e | e; exact h.s3 x hx e; have := hA x hx; omega
 refine ⟨p :: (Fa' ++ Fn'), ⟨pa, pn, Fa', Fn', rfl, ⟨((h.head.upd hu h.s2).upd hu2 (by simp)).upd hu3 h.s1, ha, K.upd (K.upd hn hu2 (by simp)) hu3 hnn, fun e => ?_, fun e => ?_, fun x h1 h2 => ?_, ?_, fun y => ?_⟩⟩, ?_, fun x hx => ?_⟩
 ·rcases hf3 _ e with e | e
  ·exact h.s1 e
  ·omega
 ·rcases hf _ e with e | e
  ·exact h.s2 e
  ·omega
 ·rcases hf3 x h1 with e | e
  ·exact hnn x e h2
  ·have := hN1 x h2; omega
 ·rw [giveR_len, drop_len]; exact h.len
 ·rw [give_v hv, drop_in hm, h.link]
 ·exact ((hu.mono (fun x hx => by simp [hx])).trans (hu2.mono (by simp))).trans (hu3.mono (fun x hx => by simp [hx]))
 ·simp only [List.mem_cons, List.mem_append] at hx ⊢
  rcases hx with hx | hx | hx
  ·exact Or.inl (Or.inl hx)
  ·rcases hf3 x hx with e | e
   ·exact Or.inl (Or.inr (Or.inl e))
   ·exact Or.inr (by omega)
  ·rcases hf x hx with e | e
   ·exact Or.inl (Or.inr (Or.inr e))
   ·exact Or.inr e
end
end Go.Proofs.YtklibcncmbofpaaGreat
namespace Go.Proofs.YtklibcncmbofpaaGreat
open Go Go.RowKit
section
variable {K : NestQ} {w : World} {p : Nat} {F : List Nat} {kd d : Int} {R : AR} {A : NS} {q : Nat}
theorem Goes.chain {F G S : List Nat} {w W w2 w3 : World} {R' : AR} {A' : NS} {q' : Nat} (h1 : Upd F w W) (hf : ∀ x, x ∈ G → x ∈ F ∨ w.heap.size ≤ x) (h2 : Goes G W w2 (fun F' => PqAt K w2 p F' kd d R' A' q')) (hr : Upd S w2 w3) (hS : ∀ r, r ∈ S → r ∉ G ∧ r < W.heap.size ∧ w.heap.size ≤ r) :
  Goes F w w3 (fun F' => PqAt K w3 p F' kd d R' A' q') := by
 obtain ⟨F2, hP, hu, hf2⟩ := h2
 have hs := h1.size
 refine ⟨F2, hP.upd hr (fun r hr hm => ?_), (h1.joined hu hf).joined hr (fun r hr => Or.inr (hS r hr).2.2), fun x hx => ?_⟩
 ·rcases hf2 r hm with e | e
  ·exact (hS r hr).1 e
  ·have := (hS r hr).2.1; omega
 ·rcases hf2 x hx with e | e
  ·exact hf x e
  ·exact Or.inr (Nat.le_trans hs e)
set_option maxHeartbeats 4000000 in
set_option maxRecDepth 10000 in
theorem pext_some (h : PqAt K w p F kd d R A q) (hh : Int) {m : Nat} (hM : minN A hh = some m) :
  Calls Tryz.prog 41 #[.pointer (some ⟨p, 0, none⟩), .int .i64 hh] w fun e w' => e = .returned (.tuple #[.agg #[.int .i64 (m : Int), .int .u32 (R.g m : Int)], .int .i64 (A.c m).k, .int .i64 0]) ∧ Goes F w w' (fun F' => PqAt K w' p F' kd d (giveR R m) (dropN A m) q) := by
 obtain ⟨hh, rfl⟩ : ∃ n : Nat, hh = n := ⟨hh.toNat, by have := (minN_in hM).1; omega⟩
 have hu0 : Upd [] w (w.alloc (.cells #[.int .i64 0, .int .u32 0] 85)) := (Upd.refl [] w).alloc _
 have k := pmin_some (h.upd0 hu0) hh hM
 have hin := (minN_in hM).2.2.2
 have hv : R.v m = true := by rw [h.ok.2.2.2]; exact hin
 have hb : -9223372036854775808 ≤ (hh : Int) ∧ (hh : Int) ≤ 9223372036854775807 := by
  obtain ⟨m1, m2, m3, m4⟩ := minN_in hM
  have := inN_has h.ok.1 m4
  have h4 := (hasN_iff _ _).1 this
  have h5 := h.ok.1.h1
  rw [show ((m : Nat) : Int).toNat = m by omega, m3] at h4
  omega
 have hex : extN A hh = dropN A m := by unfold extN; rw [hM]
 have hlF := h.lt
 have hrF : w.heap.size ∉ F := fun e => by have := hlF _ e; omega
 have HS := Lib.hid (And.intro hin (And.intro hv (And.intro hb (And.intro hex hM))))
 clear h hM hin hv hb hex
 generalize hgm : R.g m = gm at *
 generalize (A.c m).k = kk at *
 have HGM := Lib.hid hgm
 clear hgm
 go_enter Tryz.func41, Tryz.ntmps41
 go_upto_region 4 with (first
  | ((go_at_call 43; (with_reducible refine (k).mono ?_)); rintro e w1 ⟨rfl, hg⟩; (have hu1 : Upd F (w.alloc (.cells #[.int .i64 0, .int .u32 0] 85)) w1 := by obtain ⟨_, _, h2, _⟩ := hg; exact h2); (have q0 : w1.cell? ⟨w.heap.size, 0, none⟩ = some (.int .i64 0) := hu1.kept (by go_simp) hrF); (have q1 : w1.cell? ⟨w.heap.size, 1, none⟩ = some (.int .u32 0) := hu1.kept (by go_simp) hrF); (have f0 : w1.frozen? ⟨w.heap.size, 0, none⟩ = false := hu1.keptF (v := .int .i64 0) (by go_simp) hrF (by go_simp)); (have f1 : w1.frozen? ⟨w.heap.size, 1, none⟩ = false := hu1.keptF (v := .int .u32 0) (by go_simp) hrF (by go_simp)); (have hrl := World.block_lt_of_cell? w1 _ q0))
  | fail)
 refine wp_nm (fun W => W.cell? ⟨w1.heap.size, 0, none⟩ = some (.int .i64 (m : Int)) ∧ W.cell? ⟨w1.heap.size, 1, none⟩ = some (.int .u32 (gm : Int)) ∧ Upd [] w1 W) ⟨by go_simp, by go_simp, by (repeat (first | assumption | exact Upd.refl _ _ | refine Upd.alloc ?_ _ | refine Upd.drew ?_ | refine Upd.drewN ?_ _ | refine Upd.setCell ?_ ?_ _ | focus (left; simp; done) | focus (right; simp; done) | focus (right; simp; omega)))⟩ ?_
 rintro W ⟨y0, y1, hW⟩
 obtain ⟨F1, ⟨pa, pn, Fa, Fn, rfl, hP1⟩, hu1', hf1⟩ := hg
 have hP := hP1.upd hW (by simp)
 have c2 := hP.c2
 have c3 := hP.c3
 have hPl := hP1.lt
 have hrF1 : w.heap.size ∉ p :: (Fa ++ Fn) := fun e => by rcases hf1 _ e with e | e; exact hrF e; simp at e; omega
 have hxF1 : w1.heap.size ∉ p :: (Fa ++ Fn) := fun e => by have := hPl _ e; omega
 obtain ⟨f, fv, hen, hfv⟩ := K.extract hh m HS.out.2.2.2.2 hP.nest
 unfold Enters at hen
 have hm := (hfv _ (Upd.refl _ _)).1
 have hc := (hfv _ (Upd.refl _ _)).2
 have t0 := hW.was q0
 have t1 := hW.was q1
 have ft0 := hW.keptF q0 (by simp) f0
 have ft1 := hW.keptF q1 (by simp) f1
 have hrFn : w.heap.size ∉ Fn := fun e => hrF1 (by simp [e])
 have hxFn : w1.heap.size ∉ Fn := fun e => hxF1 (by simp [e])
 have hpFn := hP.s2
 have hrFa : w.heap.size ∉ Fa := fun e => hrF1 (by simp [e])
 have hxFa : w1.heap.size ∉ Fa := fun e => hxF1 (by simp [e])
 have HZ := Lib.hid (And.intro hP (And.intro hu1 (And.intro hW (And.intro hf1 hP1))))
 have ka : ∀ (w5 : World) (hu5 : Upd Fn W w5) (X : World) (hX : Upd [] w5 X), Calls Tryz.prog 67 #[.pointer (some ⟨pa, 0, none⟩), .agg #[.int .i64 (m : Int), .int .u32 (gm : Int)]] X fun e w' => e = .returned (.int .i64 0) ∧ Goes Fa X w' (fun F' => ArAt w' pa F' (giveR R m)) := fun w5 hu5 X hX => by
  have := argive_any ((hP.ar.upd hu5 (fun x hx hm => hP.s3 x hm hx)).upd hX (by simp)) m HS.out.2.1
  rw [HGM.out] at this
  exact this
 clear hfv hP hu1 hW hu1' hf1 hP1 q0 q1 f0 f1 hPl hlF hrF k
 go_upto_region 5 with (first
  | ((with_reducible refine (hc).mono ?_); rintro e w5 ⟨rfl, Fn', hn5, hu5, hf5⟩; (have z0 := hu5.kept y0 hxFn); (have z1 := hu5.kept y1 hxFn); (have z2 := hu5.kept c2 hpFn); (have s0 := hu5.kept t0 hrFn); (have s1 := hu5.kept t1 hrFn); (have sf0 := hu5.keptF t0 hrFn ft0); (have sf1 := hu5.keptF t1 hrFn ft1))
  | fail)
 have ka5 := ka w5 hu5 w5.drew ((Upd.refl _ _).drew)
 clear ka
 go_region_law
  (first
   | (go_simp; go_at_call 67; (with_reducible refine (ka5).mono ?_); rintro e w6 ⟨rfl, Fa', ha6, hu6, hf6⟩; (have v0 := hu6.kept z0 hxFa); (have v1 := hu6.kept z1 hxFa); (have r0 := hu6.kept s0 hrFa); (have r1 := hu6.kept s1 hrFa); (have rf0 := hu6.keptF s0 hrFa sf0); (have rf1 := hu6.keptF s1 hrFa sf1)))
 all_goals
  go_wp2
  obtain ⟨hP, hu1, hW, hf1, hP1⟩ := HZ.out
  have hsW := hW.size
  have hUF : Upd F w W := (Upd.trans ((Upd.refl _ _).alloc _) hu1).trans (hW.mono (by simp))
  refine bodyPost_ret (v := .tuple #[.agg #[.int .i64 (m : Int), .int .u32 (gm : Int)], .int .i64 kk, .int .i64 0]) (by simp [results, Tryz.results41, go_sem, r0, r1]) rfl ⟨rfl, ?_⟩
  exact Goes.chain hUF (fun x hx => by rcases hf1 x hx with e | e; exact Or.inl e; simp at e; exact Or.inr (by omega)) (PqAt.out hP HS.out.1 hn5 hu5 hf5 ((Upd.refl _ _).drew) ha6 hu6 hf6) (S := [w.heap.size]) (((Upd.refl _ _).setCell (Or.inl (by simp)) _).setCell (Or.inl (by simp)) _) (fun r hr => by simp at hr; subst hr; exact ⟨hrF1, by omega, Nat.le_refl _⟩)
end
end Go.Proofs.YtklibcncmbofpaaGreat
