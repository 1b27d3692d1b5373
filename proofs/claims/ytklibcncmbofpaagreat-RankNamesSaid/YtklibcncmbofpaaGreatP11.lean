/-
  Lemmas for RankNames: Sf4, Sf5, Sf6, Dr, Dr2. Conditions: those of each lemma.
-/
import Derived.Deep.DeepCutAuto
import Derived.Deep.RegionLaw
import Derived.Deep.RegionHeldLaw
import Derived.IntWalk
import Derived.WalkKit
import Derived.WalkSpells
import Derived.WalkLawsBesides
import Derived.BigQuiet
import Derived.Deep.RegionHeld3
import Derived.ProofKit
import Derived.OpenShut
import Derived.Lib.Hide
import Derived.Test.YtklibcncmbofpaaGreatProg
import Derived.Maps.AppendAt
import Derived.Maps.OwnSet
import Derived.Maps.OwnOps
import Derived.Maps.RangeWalk
import Derived.StillTailTactics
import Derived.Test.YtklibcncmbofpaaGreatP01
import Derived.Test.YtklibcncmbofpaaGreatP02
import Derived.Test.YtklibcncmbofpaaGreatP03
import Derived.Test.YtklibcncmbofpaaGreatP10
set_option linter.unusedVariables false
set_option linter.unusedSimpArgs false
namespace Go.Proofs.YtklibcncmbofpaaGreat
open Go Go.RowKit
set_option maxHeartbeats 4000000 in
set_option maxRecDepth 10000 in
theorem rdown_any (O : OrdQ) {w : World} {rp mb g cap d : Nat} {f : Int → Option Int} {L : List Nat} (hO : O.at_ w) (h : RwM w rp mb g cap d f L) (hd : 2 ≤ d ∧ d ≤ 16) (hl : L.length ≤ 65536) (i x : Nat) (hH : HoleI O.R d L i) (hP : PlHole f L i x)
  (hn : (L.set i x).Nodup) (hdom : ∀ y, y ∈ L.set i x → O.dom y) (h16 : ∀ y, y ∈ L.set i x → y ≤ 65536) (hsep : SepQ O rp mb g) (hT : i = 0 ∨ O.R (L.getD (par d i) 0) x) :
  Calls Tryz.prog 161 #[.pointer (some ⟨rp, 0, none⟩), .iface O.ty (.pointer (some ⟨O.p, 0, none⟩)), .int .i64 (i : Int), .int .i64 (x : Int)] w fun e w' => ∃ (f' : Int → Option Int) (L' : List Nat), e = .returned (.tuple #[]) ∧ RwM w' rp mb g cap d f' L' ∧ PlOf f' L' ∧ L'.Perm (L.set i x) ∧ O.at_ w' ∧ Upd (g :: mb :: O.wr) w w' ∧ Hp O.R d L' := by
 have hi0 := hH.lt
 have hxm : x ∈ L.set i x := List.mem_of_getElem? (show (L.set i x)[i]? = some x by simp [hi0])
 have hdx := hdom x hxm
 have hxl := h16 x hxm
 have HX := Lib.hid (And.intro hn (And.intro hdom (And.intro h16 (And.intro hsep hd))))
 have hwr := hsep.wr
 go_enter Tryz.func161, Tryz.ntmps161
 go_wp2
 go_loopw [2, 8, 9] (fun iv _ _ wr => ∃ (i' : Nat) (f' : Int → Option Int) (L' : List Nat), iv = .int .i64 (i' : Int) ∧ RwM wr rp mb g cap d f' L' ∧ HoleI O.R d L' i' ∧ PlHole f' L' i' x ∧ L'.length = L.length ∧ (L'.set i' x).Perm (L.set i x) ∧ O.at_ wr ∧ Upd (g :: mb :: O.wr) w wr ∧ (i' = 0 ∨ O.R (L'.getD (par d i') 0) x)) (fun iv _ _ _ => L.length - (intOf iv).toNat)
 case atStart => exact ⟨i, f, L, rfl, h, hH, hP, rfl, List.Perm.refl _, hO, Upd.refl _ _, hT⟩
 case round =>
  clear h hH hP hO hT
  obtain ⟨i1, f1, L1, rfl, h, hH, hP, hl1, hpm, hO, hu, hT⟩ := hrel
  rename World => wr
  have hi1 := hH.lt
  have hn1 : (L1.set i1 x).Nodup := hpm.nodup_iff.2 HX.out.1
  have kf := rfirst_any O hO h hd (by omega) i1 x hi1 hn1 (fun y hy => HX.out.2.1 y (hpm.mem_iff.1 hy)) HX.out.2.2.2.1
  have ks := fun W (hW : Upd O.wr wr W) => rset_any (h.upd hW hwr.1 hwr.2.1 hwr.2.2) i1 x hi1 hxl (by omega)
  have hrpw := hwr.1
  have hgw := hwr.2.2
  have hcg := h.h1
  have hlt := h.lt
  by_cases hz : d * i1 + 1 < L1.length
  ·rw [decide_eq_true hz] at kf
   have hcell := fun c hc => h.cell c hc
   have hdl := fun c (hc : FirstC O.R d L1 i1 c) => HX.out.2.1 (L1.getD c 0) (hpm.mem_iff.1 (getN_mem hc.lt (by have := par_lt hd.1 hc.c0; have := hc.pc; omega)))
   have ks2 := fun c (hc : FirstC O.R d L1 i1 c) W (hW : Upd O.wr wr W) => rset_any (h.upd hW hwr.1 hwr.2.1 hwr.2.2) i1 (L1.getD c 0) hi1 (HX.out.2.2.1 _ (hpm.mem_iff.1 (getN_mem hc.lt (by have := par_lt hd.1 hc.c0; have := hc.pc; omega)))) (by omega)
   have HF := Lib.hid (And.intro hH (And.intro hP (And.intro hn1 (And.intro hpm (And.intro hO (And.intro hT (And.intro hu (And.intro hl1 (And.intro hz h)))))))))
   clear hH hP hn1 hpm hT hu hl1 h
   go_upto_region 1 with (first
    | ((go_at_call 167; (with_reducible refine (kf).mono ?_)); rintro e w1 ⟨c, rfl, hon1, hfc⟩)
    | fail)
   have hc := hfc hz
   have hcl := hc.lt
   have hcI : (c : Int) < (L1.length : Int) := by omega
   have hdc := hdl c hc
   have hcc := hcell c hcl
   have ks2 := ks2 c hc
   have HC := Lib.hid (And.intro hc hon1)
   clear hcell hdl hc hfc hz kf
   generalize hy : L1.getD c 0 = y at *
   have hO1 : O.On w1 w1 := .start hon1.at_
   have cp1 : ∀ W, O.On w1 W → W.cell? ⟨g, c, none⟩ = some (.int .i64 (y : Int)) := fun W hW => hW.upd.kept (hon1.upd.kept hcc hgw) hgw
   have cg1 : ∀ W, O.On w1 W → W.cell? ⟨rp, 1, none⟩ = some (.slice (some ⟨g, 0, none⟩) L1.length cap) := fun W hW => hW.upd.kept (hon1.upd.kept hcg hrpw) hrpw
   have hm : ∀ W, O.On w1 W → _ := fun W hW => O.meth hW.at_
   have hnl := O.nila
   have hen := O.ent
   unfold Enters at hen
   go_region_held3 (O.On w1) (first | assumption | exact hO1 | (refine OrdQ.On.drew ?_; first | assumption | exact hO1) | (refine OrdQ.On.drewN ?_ _; first | assumption | exact hO1))
    (first
     | ((with_reducible refine (O.ask y x (OrdQ.On.at_ (w0 := w1) (by first | assumption | exact hO1 | (refine OrdQ.On.drew ?_; first | assumption | exact hO1) | (refine OrdQ.On.drewN ?_ _; first | assumption | exact hO1))) hdc hdx).mono ?_); rintro e w5 ⟨rfl, hO5, hu5⟩; (have hOn5 : O.On w1 w5 := OrdQ.On.asked (by first | assumption | exact hO1 | (refine OrdQ.On.drew ?_; first | assumption | exact hO1) | (refine OrdQ.On.drewN ?_ _; first | assumption | exact hO1)) hO5 hu5)))
   have hu5' : Upd O.wr wr w5 := HC.out.2.upd.trans hOn5.upd
   have ks5 := ks w5 hu5'
   have ks6 := ks2 w5 hu5'
   have HY := Lib.hid (And.intro hy (And.intro hOn5.at_ hu5'))
   have cp5 := cp1 w5 hOn5
   have cg5 := cg1 w5 hOn5
   clear ks ks2 cp1 cg1 hm hO1 hOn5 hu5 hO5 hO hcc hcg hon1
   cases hxy : O.lt y x with
   | false =>
    clear ks6
    go_wp2_with (first
     | ((go_at_call 166; (with_reducible refine (ks5).mono ?_)); rintro e w2 ⟨rfl, hR, hu2⟩)
     | fail)
    obtain ⟨hH, hP, hn1, hpm, hO, hT, hu, hl1, hz, h⟩ := HF.out
    obtain ⟨hy, hat, hu5⟩ := HY.out
    obtain ⟨hc, hon1⟩ := HC.out
    have hne : L1.getD c 0 ≠ x := getN_ne hi1 hc.lt (by have := par_lt hd.1 hc.c0; have := hc.pc; omega) hn1
    have hxc : O.R x (L1.getD c 0) := by
     rcases O.total x (L1.getD c 0) (fun e => hne e.symm) with e | e
     ·exact e
     ·rw [hy] at e; rw [e] at hxy; cases hxy
    exact bodyPost_ret (v := .tuple #[]) (by simp [results, Tryz.results161, go_sem]) rfl ⟨_, _, rfl, hR, hP.fill hi1 hn1, hpm, O.upd hat hu2 (fun y hy => by have := HX.out.2.2.2.1; simp at hy; rcases hy with rfl | rfl; exact this.c; exact this.b), (hu.trans (hu5.mono (by simp +contextual))).trans (hu2.mono (by simp +contextual)), hH.fill hd.1 (below_first O.tr hc hxc) hT⟩
   | true =>
    clear ks5
    go_wp2_with (first
     | ((go_at_call 166; (with_reducible refine (ks6).mono ?_)); rintro e w2 ⟨rfl, hR, hu2⟩)
     | fail)
    go_roundw
    case rel =>
     obtain ⟨hH, hP, hn1, hpm, hO, hT, hu, hl1, hz, h⟩ := HF.out
     obtain ⟨hy, hat, hu5⟩ := HY.out
     obtain ⟨hc, hon1⟩ := HC.out
     have hci : i1 < c := by have := par_lt hd.1 hc.c0; have := hc.pc; omega
     have hdn := hH.down O.tr hd.1 hc (x := x) (by rw [hy]; exact hxy)
     rw [hy] at hdn
     have hmv := hP.move hi1 (p := c) hc.lt (by omega) hn1
     rw [hy] at hmv
     have hpr := move_perm (L := L1) (i := i1) (p := c) (x := x) hi1 hc.lt (by omega)
     rw [hy] at hpr
     exact ⟨c, _, _, rfl, hR, hdn.1, hmv, by rw [List.length_set]; exact hl1, hpr.trans hpm, O.upd hat hu2 (fun y hy => by have := HX.out.2.2.2.1; simp at hy; rcases hy with rfl | rfl; exact this.c; exact this.b), (hu.trans (hu5.mono (by simp +contextual))).trans (hu2.mono (by simp +contextual)), Or.inr hdn.2⟩
    case measure =>
     have hci : i1 < c := by have hc := HC.out.1; have := par_lt hd.1 hc.c0; have := hc.pc; omega
     have := HF.out.2.2.2.2.2.2.2.1
     simp [intOf]; omega
  ·rw [decide_eq_false hz] at kf
   have HF := Lib.hid (And.intro hH (And.intro hP (And.intro hn1 (And.intro hpm (And.intro hO (And.intro hT (And.intro hu (And.intro hl1 hz))))))))
   clear hH hP hn1 hpm hT hu hl1 h hz
   go_upto_region 1 with (first
    | ((go_at_call 167; (with_reducible refine (kf).mono ?_)); rintro e w1 ⟨c, rfl, hon1, -⟩)
    | fail)
   go_quiet (fail)
   have hu5' : Upd O.wr wr (w1.drewN nq) := (hon1.drewN nq).upd
   have hat := (hon1.drewN nq).at_
   have ks5 := ks _ hu5'
   clear ks kf hon1
   go_wp2_with (first
    | ((go_at_call 166; (with_reducible refine (ks5).mono ?_)); rintro e w2 ⟨rfl, hR, hu2⟩)
    | fail)
   obtain ⟨hH, hP, hn1, hpm, hO, hT, hu, hl1, hz⟩ := HF.out
   exact bodyPost_ret (v := .tuple #[]) (by simp [results, Tryz.results161, go_sem]) rfl ⟨_, _, rfl, hR, hP.fill hi1 hn1, hpm, O.upd hat hu2 (fun y hy => by have := HX.out.2.2.2.1; simp at hy; rcases hy with rfl | rfl; exact this.c; exact this.b), (hu.trans (hu5'.mono (by simp +contextual))).trans (hu2.mono (by simp +contextual)), hH.fill hd.1 (below_none hd.1 (by omega)) hT⟩
end Go.Proofs.YtklibcncmbofpaaGreat
namespace Go.Proofs.YtklibcncmbofpaaGreat
open Go Go.RowKit
def RwAt (w : World) (rp : Nat) (G : List Nat) (d : Nat) (L : List Nat) : Prop :=
 ∃ mb f v, RowAt w rp 247 3 (fun j => [Value.int .i64 (d : Int), v, .map (some mb)].getD j undef) ∧ w.ownsRow 0 3 1 v L.length (intsZ (natsZ L)) ∧ MapI w mb f ∧ PlOf f L ∧ rp ≠ mb ∧ (∀ g, v.ownBlock = some g → rp ≠ g ∧ mb ≠ g) ∧ G = rp :: mb :: v.ownBlock.toList
theorem RwM.at_ {w : World} {rp mb g cap d : Nat} {f : Int → Option Int} {L : List Nat} (h : RwM w rp mb g cap d f L) (hP : PlOf f L) : RwAt w rp [rp, mb, g] d L :=
 ⟨mb, f, .slice (some ⟨g, 0, none⟩) L.length cap, h.head, by have := h.row.own; rwa [natsZ_ln] at this, h.map, hP, h.sep.1, fun g' hg => by cases hg; exact ⟨h.sep.2.1, h.sep.2.2⟩, rfl⟩
theorem RwAt.open {w : World} {rp d : Nat} {G L : List Nat} (h : RwAt w rp G d L) (hl : 0 < L.length) : ∃ mb g cap f, RwM w rp mb g cap d f L ∧ PlOf f L ∧ G = [rp, mb, g] := by
 obtain ⟨mb, f, v, h1, h2, h3, h4, h5, h6, rfl⟩ := h
 obtain ⟨g, cap, e, hI, -⟩ := IZ.of_own (l := natsZ L) (by rw [natsZ_ln]; exact h2) (by rw [natsZ_ln]; exact hl)
 rw [natsZ_ln] at e
 subst e
 obtain ⟨s1, s2⟩ := h6 g rfl
 exact ⟨mb, g, cap, f, ⟨h1, hI, h3, h5, s1, s2⟩, h4, rfl⟩
theorem RwAt.lt {w : World} {rp d : Nat} {G L : List Nat} (h : RwAt w rp G d L) : ∀ z, z ∈ G → z < w.heap.size := by
 obtain ⟨mb, f, v, h1, h2, h3, h4, h5, h6, rfl⟩ := h
 intro z hz
 simp only [List.mem_cons] at hz
 rcases hz with rfl | rfl | hz
 ·exact h1.lt
 ·exact h3.lt
 ·exact (h2.lt z (by simpa using hz)).2
theorem RwAt.upd {w w' : World} {rp d : Nat} {G L S : List Nat} (h : RwAt w rp G d L) (hu : Upd S w w') (hS : ∀ z, z ∈ S → z ∉ G) : RwAt w' rp G d L := by
 obtain ⟨mb, f, v, h1, h2, h3, h4, h5, h6, rfl⟩ := h
 have hn : ∀ z, z ∈ rp :: mb :: v.ownBlock.toList → z ∉ S := fun z hz hm => hS z hm hz
 exact ⟨mb, f, v, h1.upd hu (hn _ (by simp)), owns_upd h2 hu (fun k hk => hn k (by simp [hk])), h3.upd hu (hn _ (by simp)), h4, h5, h6, rfl⟩
theorem pl_none {f : Int → Option Int} {L : List Nat} (h : PlOf f L) {x : Nat} (hx : x ∉ L) : f x = none := by
 cases hf : f x with
 | none => rfl
 | some v =>
  obtain ⟨y, j, e1, -, hj⟩ := (h x v).1 hf
  have : y = x := by omega
  subst this
  exact absurd (List.mem_of_getElem? hj) hx
theorem pl_some {f : Int → Option Int} {L : List Nat} (h : PlOf f L) {x i : Nat} (hx : L[i]? = some x) : f x = some (i : Int) := (h x i).2 ⟨x, i, rfl, rfl, hx⟩
theorem pl_snoc {f : Int → Option Int} {L : List Nat} (h : PlOf f L) (x : Nat) : PlHole f (L ++ [x]) L.length x := fun z v hz => by
 rw [h z v]
 constructor
 ·rintro ⟨y, j, rfl, rfl, hj⟩
  have := (List.getElem?_eq_some_iff.1 hj).1
  exact ⟨y, j, rfl, rfl, by omega, by rw [List.getElem?_append_left this]; exact hj⟩
 ·rintro ⟨y, j, rfl, rfl, hne, hj⟩
  have h1 := (List.getElem?_eq_some_iff.1 hj).1
  simp at h1
  rw [List.getElem?_append_left (by omega)] at hj
  exact ⟨y, j, rfl, rfl, hj⟩
set_option maxHeartbeats 1000000 in
theorem rnew_row (d : Nat) (hd : 2 ≤ d ∧ d ≤ 16) (w : World) :
  Calls Tryz.prog 108 #[.int .i64 (d : Int)] w fun e w' => ∃ rp G, e = .returned (.tuple #[.pointer (some ⟨rp, 0, none⟩), .int .i64 0]) ∧ RwAt w' rp G d [] ∧ Upd [] w w' ∧ ∀ z, z ∈ G → w.heap.size ≤ z := by
 have kf : ∀ W, Calls Tryz.prog 115 #[.int .i64 (d : Int)] W fun e w' => e = .returned (.bool true) ∧ w' = W := fun W => by
  have h1 : (d : Int) ≥ 2 := by omega
  have h2 : (d : Int) ≤ 16 := by omega
  go_enter Tryz.func115, Tryz.ntmps115
  go_wp2
  go_ret
  exact ⟨rfl, rfl⟩
 have hmm := @run_makeMap Tryz.prog
 go_enter Tryz.func108, Tryz.ntmps108
 go_wp2_with (first | (go_at_call 115; (with_reducible refine (kf _).mono ?_); rintro e w9 ⟨rfl, hw9⟩; rw [hw9]; clear hw9 w9) | fail)
 go_ret2
 have hm := MapI.made w
 have hh := rowAt_new (w.alloc (.map #[] 0)) [.int .i64 (d : Int), .slice none 0 0, .map (some w.heap.size)] 247
 have e1 : (w.alloc (.map #[] 0)).heap.size = w.heap.size + 1 := by rw [World.size_alloc]
 rw [e1] at hh
 have hv : Upd [] (w.alloc (.map #[] 0)) ((w.alloc (.map #[] 0)).alloc (.cells #[.int .i64 (d : Int), .slice none 0 0, .map (some w.heap.size)] 247)) := (Upd.refl _ _).alloc _
 refine ⟨w.heap.size + 1, [w.heap.size + 1, w.heap.size], rfl, ⟨w.heap.size, fun _ => none, .slice none 0 0, hh, ⟨rfl, Or.inl ⟨rfl, rfl⟩⟩, hm.upd hv (by simp), fun z v => by simp, by omega, fun g hg => (by cases hg), rfl⟩, by (repeat (first | assumption | exact Upd.refl _ _ | refine Upd.alloc ?_ _ | refine Upd.drew ?_ | refine Upd.drewN ?_ _ | refine Upd.setCell ?_ ?_ _ | focus (left; simp; done) | focus (right; simp; done) | focus (right; simp; omega))), fun z hz => ?_⟩
 simp at hz; omega
set_option maxHeartbeats 1000000 in
theorem rat_none {w : World} {rp d : Nat} {G : List Nat} (h : RwAt w rp G d []) : Calls Tryz.prog 157 #[.pointer (some ⟨rp, 0, none⟩), .int .i64 0] w fun e w' => e = .returned (.tuple #[.int .i64 0, .bool false]) ∧ w' = w := by
 obtain ⟨mb, f, v, h1, h2, -, -, -, -, -⟩ := h
 obtain ⟨a, c, rfl, hc⟩ := own_slice h2
 have c1 := h1.cellAt 1 (v := .slice a 0 c) (by omega) rfl
 clear h1 h2
 go_enter Tryz.func157, Tryz.ntmps157
 go_wp2
 go_ret2
 exact ⟨rfl, rfl⟩
set_option maxHeartbeats 1000000 in
theorem rat_some {w : World} {rp d x : Nat} {G L : List Nat} (h : RwAt w rp G d (x :: L)) : Calls Tryz.prog 157 #[.pointer (some ⟨rp, 0, none⟩), .int .i64 0] w fun e w' => e = .returned (.tuple #[.int .i64 (x : Int), .bool true]) ∧ w' = w := by
 obtain ⟨mb, g, cap, f, hM, -, -⟩ := h.open (by simp)
 have c1 := hM.h1
 have c2 := hM.cell 0 (by simp)
 rw [show (x :: L).getD 0 0 = x from rfl] at c2
 have hn : 0 < (x :: L).length := by simp
 generalize (x :: L).length = n at *
 have hn1 : ¬ (0 : Int) ≥ (n : Int) := by omega
 have hn2 : (0 : Int) < (n : Int) := by omega
 have hn3 : ¬ n = 0 := by omega
 clear hM h
 go_enter Tryz.func157, Tryz.ntmps157
 go_wp2
 go_ret2
 exact ⟨rfl, rfl⟩
set_option maxHeartbeats 4000000 in
set_option maxRecDepth 10000 in
theorem radd_any (O : OrdQ) {w : World} {rp d : Nat} {G L : List Nat} (hO : O.at_ w) (h : RwAt w rp G d L) (hd : 2 ≤ d ∧ d ≤ 16) (hl : L.length + 1 ≤ 65536) (hH : Hp O.R d L) (x : Nat) (hx : x ∉ L) (hn : L.Nodup)
  (hdom : ∀ y, y ∈ x :: L → O.dom y) (h16 : ∀ y, y ∈ x :: L → y ≤ 65536) (hsep : ∀ z, z ∈ G → z ∉ O.rd) :
  Calls Tryz.prog 155 #[.pointer (some ⟨rp, 0, none⟩), .iface O.ty (.pointer (some ⟨O.p, 0, none⟩)), .int .i64 (x : Int)] w fun e w' => e = .returned (.bool true) ∧ ∃ G' L', RwAt w' rp G' d L' ∧ L'.Perm (x :: L) ∧ Hp O.R d L' ∧ O.at_ w' ∧ Upd (G ++ O.wr) w w' ∧ ∀ z, z ∈ G' → z ∈ G ∨ w.heap.size ≤ z := by
 obtain ⟨mb, f, v, h1, h2, h3, h4, h5, h6, rfl⟩ := h
 have hfx := pl_none h4 hx
 have HXx := Lib.hid hx
 have hxl := h16 x (by simp)
 obtain ⟨a, cc, rfl, hcc⟩ := own_slice h2
 have c1 := h1.cellAt 1 (v := .slice a L.length cc) (by omega) rfl
 have c2 := h1.cellAt 2 (v := .map (some mb)) (by omega) rfl
 have f1 := h1.free 1
 have hlr := h1.lt
 have hlo := h2.lt
 have hms : ∀ z, z ∈ (Value.slice a L.length cc).ownBlock.toList → rp ≠ z ∧ mb ≠ z := fun z hz => h6 z (by simpa using hz)
 have hp := hH.snoc O.tr hd.1 (x := x)
 have hpl := pl_snoc h4 x
 have hset : (L ++ [x]).set L.length x = L ++ [x] := by simp
 have hper : (L ++ [x]).Perm (x :: L) := List.perm_append_comm (l₁ := L) (l₂ := [x])
 have HX := Lib.hid (And.intro hO (And.intro h1 (And.intro h3 (And.intro h5 (And.intro hms (And.intro hp (And.intro hpl (And.intro hset (And.intro hper (And.intro hn (And.intro hdom (And.intro h16 (And.intro hsep hlo)))))))))))))
 have hmb : MapI w mb f := h3
 have hgl : (Value.slice a L.length cc).ownBlock.toList = (Value.slice a L.length cc).ownBlock.toList := rfl
 clear h1 h3 h4 h6 hH hx hn hdom h16 hsep hO hms hp hpl hset hper hlo
 generalize hnl : L.length = n at *
 have HN := Lib.hid hnl
 clear hnl
 go_enter Tryz.func155, Tryz.ntmps155
 go_upto_region 5 with (first
  | (at_lookup; refine wpList_mlook_ok rfl _ _ rfl mb f rfl hmb (x : Int) rfl (by omega) ?_; rw [hfx]; simp only [Option.getD_none, Option.isSome_none])
  | ((at_builtin; refine wpList_append_sep rfl _ _ 26 rfl 0 3 (.int .i64 0) 1 8 Tryz.underlying26 intInfo rfl (by decide) _ _ _ rfl (h2) [.int .i64 (x : Int)] rfl (by simp [Value.oneCell']) (by first | rfl | (rw [World.size_alloc]; rfl)) (by unfold maxLen; omega) (by omega) ((by omega)) ?_; intro v2 w2 ho2 hu2 hsep2); obtain ⟨a2, cc2, rfl, hcc2⟩ := own_slice ho2; (have d1 : w2.cell? ⟨rp, 1, none⟩ = some (.slice a n cc) := hu2.kept c1 (fun hm => (HX.out.2.2.2.2.1 rp hm).1 rfl)); (have e1 := hu2.keptF c1 (fun hm => (HX.out.2.2.2.2.1 rp hm).1 rfl) f1))
  | fail)
 obtain ⟨hO, h1, h3, h5, hms, hp, hpl, hset, hper, hn, hdom, h16, hsep, hlo⟩ := HX.out
 have hnz : natsZ (L ++ [x]) = natsZ L ++ [(x : Int)] := by unfold natsZ; simp
 have hL1 : (L ++ [x]).length = n + 1 := by rw [List.length_append, HN.out]; rfl
 obtain ⟨g2, cap2, e2, hI2, -⟩ := IZ.of_own (l := natsZ (L ++ [x])) (by rw [natsZ_ln, hL1, hnz, intsZ_append]; exact ho2) (by rw [natsZ_ln, hL1]; omega)
 rw [natsZ_ln, hL1] at e2
 cases e2
 have hg2 : rp ≠ g2 ∧ mb ≠ g2 ∧ (g2 ∈ (Value.slice a n cc).ownBlock.toList ∨ w.heap.size < g2) := by
  rcases hsep2 with e | e
  ·have hm : g2 ∈ (Value.slice a n cc).ownBlock.toList := by have e' : (Value.slice a n cc).ownBlock = some g2 := e.symm; rw [e']; simp
   have := hms g2 hm
   exact ⟨this.1, this.2, Or.inl hm⟩
  ·have h7 := e g2 rfl
   have h8 := h3.lt
   exact ⟨by omega, by omega, Or.inr h7⟩
 have hw0 : Upd (Value.slice a n cc).ownBlock.toList w w2 := hu2
 have hsW : Upd [rp] w2 (w2.setCell ⟨rp, 1, none⟩ (.slice (some ⟨g2, 0, none⟩) (n + 1) cc2)) := by (repeat (first | assumption | exact Upd.refl _ _ | refine Upd.alloc ?_ _ | refine Upd.drew ?_ | refine Upd.drewN ?_ _ | refine Upd.setCell ?_ ?_ _ | focus (left; simp; done) | focus (right; simp; done) | focus (right; simp; omega)))
 have hnm : ∀ z, z ∈ (Value.slice a n cc).ownBlock.toList → rp ≠ z ∧ mb ≠ z := hms
 have hR : RwM (w2.setCell ⟨rp, 1, none⟩ (.slice (some ⟨g2, 0, none⟩) (n + 1) cc2)) rp mb g2 cc2 d f (L ++ [x]) := by
  refine ⟨((h1.upd hw0 (fun hm => (hnm rp hm).1 rfl)).set 1 _).ext (fun j hj => ?_), hI2.upd hsW (by simp; exact fun e => hg2.1 e.symm), (h3.upd hw0 (fun hm => (hnm mb hm).2 rfl)).upd hsW (by simp; exact fun e => h5 e.symm), h5, hg2.1, hg2.2.1⟩
  rw [hL1]
  rcases (by omega : j = 0 ∨ j = 1 ∨ j = 2) with rfl | rfl | rfl <;> rfl
 have hrd : ∀ z, z ∈ (Value.slice a n cc).ownBlock.toList → z ∉ O.rd := fun z hz => hsep z (List.mem_cons_of_mem _ (List.mem_cons_of_mem _ hz))
 have hOl := O.low hO
 have hat : O.at_ (w2.setCell ⟨rp, 1, none⟩ (.slice (some ⟨g2, 0, none⟩) (n + 1) cc2)) := O.upd (O.upd hO hw0 hrd) hsW (fun z hz => by simp at hz; rw [hz]; exact hsep rp (by simp))
 have ku := rup_any O hat hR hd (by omega) n x hp.1 hpl (by rw [hset]; exact hper.nodup_iff.2 (List.nodup_cons.2 ⟨HXx.out, hn⟩)) (fun y hy => hdom y (hper.mem_iff.1 (by rw [← hset]; exact hy))) (fun y hy => h16 y (hper.mem_iff.1 (by rw [← hset]; exact hy)))
  ⟨hsep rp (by simp), hsep mb (by simp), fun hm => by rcases hg2.2.2 with e | e; exact hrd g2 e hm; have := hOl g2 hm; omega⟩
 rw [hset] at ku
 have k1 : ((n + 1 : Nat) : Int) - 1 = (n : Int) := by omega
 have HR := Lib.hid (And.intro hp.2 (And.intro hper (And.intro hg2 (And.intro hw0 hsW))))
 have c9 := hR.h1
 rw [hL1] at c9
 have hwr9 : wrap64 ((n : Int) + 1 - 1) = (n : Int) := by rw [show (n : Int) + 1 - 1 = n by omega]; exact IntWalk.wrap64_in _ (by omega)
 clear hR hat hp hpl hper hms hdom h16 hI2 ho2 hu2 hsep2 d1 e1 hw0 hsW hsep hset
 go_wp2_with (first
  | ((go_at_call 159; (with_reducible refine (ku).mono ?_)); rintro e w5 ⟨k, f', L', rfl, hR5, hP5, hpr5, hO5, hu5, hk5, hH5⟩)
  | fail)
 obtain ⟨hb, hper, hg2, hw0, hsW⟩ := HR.out
 have hsz := hw0.size
 go_ret
 refine ⟨rfl, _, L', hR5.at_ hP5, hpr5.trans hper, hH5 (Or.inr hb), hO5, ?_, fun z hz => ?_⟩
 ·refine ((hw0.mono (fun z hz => by simp [hz])).trans (hsW.mono (fun z hz => by simp at hz; simp [hz]))).joined hu5 (fun z hz => ?_)
  simp only [List.mem_cons, List.mem_append] at hz ⊢
  rcases hz with rfl | rfl | hz
  ·rcases hg2.2.2 with e | e
   ·exact Or.inl (Or.inr (Or.inr (Or.inl e)))
   ·exact Or.inr (by omega)
  ·exact Or.inl (Or.inr (Or.inl rfl))
  ·exact Or.inl (Or.inr (Or.inr (Or.inr hz)))
 ·simp only [List.mem_cons, List.not_mem_nil, or_false] at hz
  rcases hz with rfl | rfl | rfl
  ·exact Or.inl (by simp)
  ·exact Or.inl (by simp)
  ·rcases hg2.2.2 with e | e
   ·exact Or.inl (by simp [e])
   ·exact Or.inr (by omega)
set_option maxHeartbeats 1000000 in
theorem rraise_any (O : OrdQ) {w : World} {rp d : Nat} {G L : List Nat} (hO : O.at_ w) (h : RwAt w rp G d L) (hd : 2 ≤ d ∧ d ≤ 16) (hl : L.length ≤ 65536) (i x : Nat) (hx : L[i]? = some x) (hn : L.Nodup) (hH : HoleI O.R d L i) (hB : Below O.R d L i x)
  (hdom : ∀ y, y ∈ L → O.dom y) (h16 : ∀ y, y ∈ L → y ≤ 65536) (hsep : ∀ z, z ∈ G → z ∉ O.rd) :
  Calls Tryz.prog 148 #[.pointer (some ⟨rp, 0, none⟩), .iface O.ty (.pointer (some ⟨O.p, 0, none⟩)), .int .i64 (x : Int)] w fun e w' => e = .returned (.bool true) ∧ ∃ L', RwAt w' rp G d L' ∧ L'.Perm L ∧ Hp O.R d L' ∧ O.at_ w' ∧ Upd (G ++ O.wr) w w' := by
 have hi := hH.lt
 obtain ⟨mb, g, cap, f, hM, hP, rfl⟩ := h.open (by omega)
 have hset : L.set i x = L := by
  obtain ⟨_, e⟩ := List.getElem?_eq_some_iff.1 hx
  rw [← e]; simp
 have hxm := List.mem_of_getElem? hx
 have ku := rup_any O hO hM hd hl i x hH (hP.hole hx) (by rw [hset]; exact hn) (fun y hy => hdom y (by rw [← hset]; exact hy)) (fun y hy => h16 y (by rw [← hset]; exact hy)) ⟨hsep rp (by simp), hsep mb (by simp), hsep g (by simp)⟩
 rw [hset] at ku
 have c2 := hM.h2
 have hfx := pl_some hP hx
 have hmb := hM.map
 have hxl := h16 x hxm
 have HB := Lib.hid hB
 clear h hM hP hx hn hH hB hdom h16 hsep hO hset hxm
 go_enter Tryz.func148, Tryz.ntmps148
 go_wp2_with (first
  | (at_lookup; refine wpList_mlook_ok rfl _ _ rfl mb f rfl hmb (x : Int) rfl (by omega) ?_; rw [hfx]; simp only [Option.getD_some, Option.isSome_some])
  | ((go_at_call 159; (with_reducible refine (ku).mono ?_)); rintro e w5 ⟨k, f', L', rfl, hR5, hP5, hpr5, hO5, hu5, hk5, hH5⟩)
  | fail)
 go_ret
 refine ⟨rfl, L', hR5.at_ hP5, hpr5, hH5 (Or.inr HB.out), hO5, hu5.mono (fun z hz => ?_)⟩
 simp only [List.mem_cons, List.mem_append] at hz ⊢
 rcases hz with rfl | rfl | hz
 ·simp
 ·simp
 ·simp [hz]
end Go.Proofs.YtklibcncmbofpaaGreat
namespace Go.Proofs.YtklibcncmbofpaaGreat
open Go Go.RowKit
theorem IZ.take {w : World} {g cap : Nat} {l : List Int} (h : IZ w g cap l) (n : Nat) (hn : n ≤ l.length) : IZ w g cap (l.take n) := by
 rcases h.own.2 with ⟨h1, _⟩ | ⟨g', cap', cur, h1, hb, hg, hc, hm, hs, ht⟩
 ·cases h1
 ·cases h1
  have hl : (l.take n).length = n := by simp; omega
  refine ⟨⟨by rw [intsZ_len]; omega, Or.inr ⟨g, cap, cur, rfl, by omega, hg, by omega, hm, hs, ?_⟩⟩⟩
  rw [hl]
  have : cur.toList.take (n * 1) = (cur.toList.take (l.length * 1)).take (n * 1) := by rw [List.take_take]; congr 1; omega
  rw [this, ht]
  unfold intsZ
  rw [← List.map_take, Nat.mul_one]
theorem natsZ_tk (L : List Nat) (n : Nat) : natsZ (L.take n) = (natsZ L).take n := by unfold natsZ; rw [List.map_take]
def delF (f : Int → Option Int) (k : Int) : Int → Option Int := fun q => if q = k then none else f q
theorem dropLast_get {L : List Nat} {n : Nat} (hl : L.length = n + 1) : L = L.take n ++ [L.getD n 0] := by
 have h1 : L[n]? = some (L.getD n 0) := by simp [List.getD_eq_getElem?_getD, hl]
 have h2 : L.drop n = [L.getD n 0] := by
  apply List.ext_getElem?
  intro j
  rw [List.getElem?_drop]
  cases j with
  | zero => simpa using h1
  | succ j => rw [List.getElem?_eq_none (by omega)]; simp
 calc L = L.take n ++ L.drop n := (List.take_append_drop n L).symm
  _ = _ := by rw [h2]
theorem pl_last {f : Int → Option Int} {L : List Nat} {n : Nat} (h : PlOf f L) (hl : L.length = n + 1) (hn : L.Nodup) : PlOf (delF f (L.getD n 0 : Nat)) (L.take n) := fun z v => by
 have h1 : L[n]? = some (L.getD n 0) := by simp [List.getD_eq_getElem?_getD, hl]
 unfold delF
 by_cases e : z = ((L.getD n 0 : Nat) : Int)
 ·rw [if_pos e]
  constructor
  ·intro h; cases h
  ·rintro ⟨y, j, rfl, rfl, hj⟩
   rw [List.getElem?_take] at hj
   split at hj
   ·rename_i hjn
    have ey : y = L.getD n 0 := by omega
    rw [← ey] at h1
    obtain ⟨g1, e1⟩ := List.getElem?_eq_some_iff.1 hj
    obtain ⟨g2, e2⟩ := List.getElem?_eq_some_iff.1 h1
    have := (List.getElem_inj hn).1 (e1.trans e2.symm)
    omega
   ·cases hj
 ·rw [if_neg e, h z v]
  constructor
  ·rintro ⟨y, j, rfl, rfl, hj⟩
   have hjl := (List.getElem?_eq_some_iff.1 hj).1
   have hjn : j ≠ n := fun e2 => by rw [e2, h1] at hj; cases hj; exact e rfl
   exact ⟨y, j, rfl, rfl, by rw [List.getElem?_take, if_pos (by omega)]; exact hj⟩
  ·rintro ⟨y, j, rfl, rfl, hj⟩
   rw [List.getElem?_take] at hj
   split at hj
   ·exact ⟨y, j, rfl, rfl, hj⟩
   ·cases hj
theorem pl_gone {f : Int → Option Int} {L : List Nat} {n i x : Nat} (h : PlOf f L) (hl : L.length = n + 1) (hx : L[i]? = some x) (hi : i < n) (hn : L.Nodup) : PlHole (delF f x) (L.take n) i (L.getD n 0) := fun z v hz => by
 have h1 : L[n]? = some (L.getD n 0) := by simp [List.getD_eq_getElem?_getD, hl]
 unfold delF
 by_cases e : z = (x : Int)
 ·rw [if_pos e]
  constructor
  ·intro h; cases h
  ·rintro ⟨y, j, rfl, rfl, hji, hj⟩
   rw [List.getElem?_take] at hj
   split at hj
   ·have ey : y = x := by omega
    rw [ey] at hj
    obtain ⟨g1, e1⟩ := List.getElem?_eq_some_iff.1 hj
    obtain ⟨g2, e2⟩ := List.getElem?_eq_some_iff.1 hx
    exact absurd ((List.getElem_inj hn).1 (e1.trans e2.symm)) hji
   ·cases hj
 ·rw [if_neg e, h z v]
  constructor
  ·rintro ⟨y, j, rfl, rfl, hj⟩
   have hjl := (List.getElem?_eq_some_iff.1 hj).1
   have hjn : j ≠ n := fun e2 => by rw [e2, h1] at hj; cases hj; exact hz rfl
   have hji : j ≠ i := fun e2 => by rw [e2, hx] at hj; cases hj; exact e rfl
   exact ⟨y, j, rfl, rfl, hji, by rw [List.getElem?_take, if_pos (by omega)]; exact hj⟩
  ·rintro ⟨y, j, rfl, rfl, hji, hj⟩
   rw [List.getElem?_take] at hj
   split at hj
   ·exact ⟨y, j, rfl, rfl, hj⟩
   ·cases hj
theorem gone_perm {L : List Nat} {n i x : Nat} (hl : L.length = n + 1) (hx : L[i]? = some x) (hi : i < n) : (x :: (L.take n).set i (L.getD n 0)).Perm L := by
 have h0 := dropLast_get hl
 have hit : (L.take n)[i]? = some x := by rw [List.getElem?_take, if_pos hi]; exact hx
 have hlt : (L.take n).length = n := by simp; omega
 generalize L.getD n 0 = y at *
 generalize L.take n = T at *
 obtain ⟨hiT, hxT⟩ := List.getElem?_eq_some_iff.1 hit
 rw [h0]
 have e1 : T.set i y = T.take i ++ y :: T.drop (i + 1) := by rw [List.set_eq_take_append_cons_drop, if_pos hiT]
 have e2 : T = T.take i ++ x :: T.drop (i + 1) := by
  have h2 : T.set i x = T := by rw [← hxT]; simp
  rw [List.set_eq_take_append_cons_drop, if_pos hiT] at h2
  exact h2.symm
 rw [e1]
 have p1 : (x :: (T.take i ++ y :: T.drop (i + 1))).Perm (x :: y :: (T.take i ++ T.drop (i + 1))) := List.Perm.cons x List.perm_middle
 have p2 : (T ++ [y]).Perm (y :: x :: (T.take i ++ T.drop (i + 1))) := by
  refine (List.perm_append_comm (l₁ := T) (l₂ := [y])).trans (List.Perm.cons y ?_)
  have p3 : (T.take i ++ x :: T.drop (i + 1)).Perm (x :: (T.take i ++ T.drop (i + 1))) := List.perm_middle
  rw [← e2] at p3
  exact p3
 exact p1.trans ((List.Perm.swap y x _).trans p2.symm)
set_option maxHeartbeats 4000000 in
set_option maxRecDepth 10000 in
theorem rremove_any (O : OrdQ) {w : World} {rp d : Nat} {G L : List Nat} (hO : O.at_ w) (h : RwAt w rp G d L) (hd : 2 ≤ d ∧ d ≤ 16) (hl : L.length ≤ 65536) (x : Nat) (hxm : x ∈ L) (hn : L.Nodup) (hH : Hp O.R d L)
  (hdom : ∀ y, y ∈ L → O.dom y) (h16 : ∀ y, y ∈ L → y ≤ 65536) (hsep : ∀ z, z ∈ G → z ∉ O.rd) :
  Calls Tryz.prog 150 #[.pointer (some ⟨rp, 0, none⟩), .iface O.ty (.pointer (some ⟨O.p, 0, none⟩)), .int .i64 (x : Int)] w fun e w' => e = .returned (.bool true) ∧ ∃ L', RwAt w' rp G d L' ∧ (x :: L').Perm L ∧ Hp O.R d L' ∧ O.at_ w' ∧ Upd (G ++ O.wr) w w' := by
 obtain ⟨i, hi, hxi⟩ := List.mem_iff_getElem.1 hxm
 have hx : L[i]? = some x := by rw [List.getElem?_eq_getElem hi, hxi]
 obtain ⟨n, hln⟩ : ∃ n, L.length = n + 1 := ⟨L.length - 1, by omega⟩
 obtain ⟨mb, g, cap, f, hM, hP, rfl⟩ := h.open (by omega)
 have c1 := hM.h1
 have c2 := hM.h2
 have hcp := hM.row.cap
 rw [natsZ_ln] at hcp
 have fr := hM.head.free 1
 have cl := hM.cell n (by omega)
 have hfx := pl_some hP hx
 have hmb : MapI w mb f := hM.map
 have hxl := h16 x hxm
 have hlt := hM.lt
 have hsM := hM.sep
 have hlast : L[n]? = some (L.getD n 0) := by simp [List.getD_eq_getElem?_getD, hln]
 have hym := List.mem_of_getElem? hlast
 have hyl := h16 _ hym
 have hTn : (L.take n).length = n := by simp; omega
 rw [hln] at c1 hcp
 have hRow : ∀ W f', IZ W g cap (natsZ L) → MapI W mb f' → RowAt W rp 247 3 (fun j => [Value.int .i64 (d : Int), .slice (some ⟨g, 0, none⟩) n cap, .map (some mb)].getD j undef) → RwM W rp mb g cap d f' (L.take n) := fun W f' h1 h2 h3 =>
  ⟨by rw [hTn]; exact h3, by rw [natsZ_tk]; exact h1.take n (by rw [natsZ_ln]; omega), h2, hsM⟩
 have hsW : Upd [rp] w (w.setCell ⟨rp, 1, none⟩ (.slice (some ⟨g, 0, none⟩) n cap)) := by (repeat (first | assumption | exact Upd.refl _ _ | refine Upd.alloc ?_ _ | refine Upd.drew ?_ | refine Upd.drewN ?_ _ | refine Upd.setCell ?_ ?_ _ | focus (left; simp; done) | focus (right; simp; done) | focus (right; simp; omega)))
 have hh1 : RowAt (w.setCell ⟨rp, 1, none⟩ (.slice (some ⟨g, 0, none⟩) n cap)) rp 247 3 (fun j => [Value.int .i64 (d : Int), .slice (some ⟨g, 0, none⟩) n cap, .map (some mb)].getD j undef) :=
  (hM.head.set 1 _).ext (fun j hj => by rcases (by omega : j = 0 ∨ j = 1 ∨ j = 2) with rfl | rfl | rfl <;> rfl)
 have hI1 := hM.row.upd hsW (by simp; exact fun e => hsM.2.1 e.symm)
 have hm1 := hM.map.upd hsW (by simp; exact fun e => hsM.1 e.symm)
 have hat1 := O.upd hO hsW (fun z hz => by simp at hz; rw [hz]; exact hsep rp (by simp))
 have HX := Lib.hid (And.intro hP (And.intro hn (And.intro hH (And.intro hdom (And.intro h16 (And.intro hsep (And.intro hx (And.intro hln (And.intro hTn (And.intro hRow (And.intro hsW (And.intro hh1 (And.intro hI1 (And.intro hat1 hsM))))))))))))))
 have hiI : (i : Int) < (n : Int) + 1 := by omega
 have hin : i ≤ n := by omega
 clear hM hP hn hH hdom h16 hsep hO hx hxi hTn hRow hh1 hI1 hat1 hlast hym
 generalize hy : L.getD n 0 = y at *
 have HYy := Lib.hid hy
 have hwr : wrap64 ((n : Int) + 1 - 1) = (n : Int) := by rw [show (n : Int) + 1 - 1 = n by omega]; exact IntWalk.wrap64_in _ (by omega)
 have hwr2 : (n : Int) + 1 - 1 = (n : Int) := by omega
 have hnI : (n : Int) < (n : Int) + 1 := by omega
 have hncI : (n : Int) ≤ (cap : Int) := by omega
 have hwr3 : IntKind.i64.wrap (n : Int) = (n : Int) := IntWalk.i64_in _ (by omega)
 have hn0I : (0 : Int) ≤ (n : Int) := by omega
 have HF := Lib.hid (And.intro hin hxm)
 clear hin
 go_enter Tryz.func150, Tryz.ntmps150
 go_upto_region 4 with (first
  | (at_lookup; refine wpList_mlook_ok rfl _ _ rfl mb f rfl hmb (x : Int) rfl (by omega) ?_; rw [hfx]; simp only [Option.getD_some, Option.isSome_some])
  | fail)
 go_quiet (fail)
 go_upto_region 5 with (fail)
 go_region_law (fail)
 all_goals
  go_upto_region 6 with (fail)
  refine wp_nm (fun W => Upd [] (w.setCell ⟨rp, 1, none⟩ (.slice (some ⟨g, 0, none⟩) n cap)) W) ⟨rfl, rfl, rfl, Nat.le_refl _, fun _ _ _ => rfl⟩ ?_
  intro W hW
  obtain ⟨hP, hn, hH, hdom, h16, hsep, hx, hln, hTn, hRow, hsW, hh1, hI1, hat1, hsM⟩ := HX.out
  have hmW := hm1.upd hW (by simp)
  have hhW := hh1.upd hW (by simp)
  have hIW := hI1.upd hW (by simp)
  have hatW := O.upd hat1 hW (by simp)
  have c2W := hhW.cellAt 2 (v := .map (some mb)) (by omega) rfl
  have huW : Upd [rp] w W := hsW.then hW
  clear hm1 hh1 hI1 hat1 hW c1 c2 fr cl
  have hRd : ∀ w3, MapI w3 mb (delF f x) → Upd [mb] W w3 → RwM w3 rp mb g cap d (delF f x) (L.take n) ∧ O.at_ w3 := fun w3 hm3 hu3 =>
   ⟨hRow w3 _ (hIW.upd hu3 (by simp; exact fun e => hsM.2.2 e.symm)) hm3 (hhW.upd hu3 (by simp; exact hsM.1)), O.upd hatW hu3 (fun z hz => by simp at hz; rw [hz]; exact hsep mb (by simp))⟩
  by_cases hin2 : i = n
  ·have hyx : y = x := by
    have h1 : L[n]? = some y := by rw [← HYy.out]; simp [List.getD_eq_getElem?_getD, hln]
    rw [← hin2, hx] at h1; cases h1; rfl
   have hyx2 : ((y : Int) == (x : Int)) = true := by simp [hyx]
   have HG := Lib.hid (And.intro hP (And.intro hn (And.intro hH (And.intro hRd (And.intro huW (And.intro hyx hln))))))
   clear hP hn hH hdom h16 hsep hx hln hTn hRow hsW hsM hhW hIW hatW hRd huW hyx hin2
   go_upto_region 7 with (first
    | (at_delete; refine wpList_mdel rfl _ _ rfl mb _ rfl hmW (x : Int) rfl (by omega) ?_; intro w3 hm3 hu3)
    | fail)
   go_wp2
   go_ret
   obtain ⟨hP, hn, hH, hRd, huW, hyx, hln⟩ := HG.out
   obtain ⟨hR3, hO3⟩ := hRd w3 hm3 hu3
   have hpl := pl_last hP hln hn
   rw [HYy.out, hyx] at hpl
   refine ⟨rfl, L.take n, hR3.at_ hpl, ?_, hH.take hd.1, hO3, (huW.mono (fun z hz => by simp at hz; simp [hz])).trans (hu3.mono (fun z hz => by simp at hz; simp [hz]))⟩
   have h0 := dropLast_get hln
   rw [HYy.out, hyx] at h0
   conv => rhs; rw [h0]
   exact (List.perm_append_comm (l₁ := L.take n) (l₂ := [x])).symm
  ·have hi2 : i < n := by omega
   have hyx : y ≠ x := fun e => by
    have h1 : L[n]? = some y := by rw [← HYy.out]; simp [List.getD_eq_getElem?_getD, hln]
    rw [e] at h1
    obtain ⟨g1, e1⟩ := List.getElem?_eq_some_iff.1 h1
    obtain ⟨g2, e2⟩ := List.getElem?_eq_some_iff.1 hx
    exact hin2 ((List.getElem_inj hn).1 (e1.trans e2.symm)).symm
   have hyx2 : ((y : Int) == (x : Int)) = false := by simp; omega
   have hgp := gone_perm hln hx hi2
   have hgo := pl_gone hP hln hx hi2 hn
   rw [HYy.out] at hgp hgo
   have hHo := (hH.take (n := n) hd.1).hole O.tr hd.1 (i := i) (by rw [hTn]; exact hi2)
   have hnd := List.nodup_cons.1 (hgp.nodup_iff.2 hn)
   have hdm : ∀ z, z ∈ (L.take n).set i y → O.dom z := fun z hz => hdom z (hgp.mem_iff.1 (List.mem_cons_of_mem _ hz))
   have h6m : ∀ z, z ∈ (L.take n).set i y → z ≤ 65536 := fun z hz => h16 z (hgp.mem_iff.1 (List.mem_cons_of_mem _ hz))
   have hsq : SepQ O rp mb g := ⟨hsep rp (by simp), hsep mb (by simp), hsep g (by simp)⟩
   have ku := fun w3 hm3 hu3 => rup_any O (hRd w3 hm3 hu3).2 (hRd w3 hm3 hu3).1 hd (by omega) i y hHo hgo hnd.2 hdm h6m hsq
   have hit : ((L.take n).set i y)[i]? = some y := by simp [hTn, hi2]
   have hss : ((L.take n).set i y).set i y = (L.take n).set i y := by rw [List.set_set]
   have kd := fun (w5 : World) (f5 : Int → Option Int) (hO5 : O.at_ w5) (hR5 : RwM w5 rp mb g cap d f5 ((L.take n).set i y)) (hP5 : PlOf f5 ((L.take n).set i y)) (hT : i = 0 ∨ O.R ((L.take n).getD (par d i) 0) y) =>
    rdown_any O hO5 hR5 hd (by rw [List.length_set, hTn]; omega) i y (hHo.any hd.1 y) (hP5.hole hit) (by rw [hss]; exact hnd.2) (fun z hz => hdm z (by rw [← hss]; exact hz)) (fun z hz => h6m z (by rw [← hss]; exact hz)) hsq
     (by rcases Nat.eq_zero_or_pos i with h | h; exact Or.inl h; rcases hT with e | e; exact Or.inl e; exact Or.inr (by have := par_lt hd.1 h; rw [getN_set, if_neg (by omega)]; exact e))
   simp only [hss] at kd
   have HG := Lib.hid (And.intro hgp (And.intro huW hnd))
   have hiI2 : (i : Int) < (n : Int) := by omega
   clear hP hn hH hdom h16 hsep hx hln hTn hRow hsW hsM hhW hIW hatW hRd huW hyx hin2 hgp hgo hHo hnd hdm h6m hsq hit hss
   go_upto_region 9 with (first
    | (at_delete; refine wpList_mdel rfl _ _ rfl mb _ rfl hmW (x : Int) rfl (by omega) ?_; intro w3 hm3 hu3)
    | fail)
   have ku3 := ku w3 hm3 hu3
   clear ku
   go_wp2_with (first
    | ((go_at_call 159; (with_reducible refine (ku3).mono ?_)); rintro e w5 ⟨k, f', L', rfl, hR5, hP5, hpr5, hO5, hu5, hk5, hH5⟩)
    | ((go_at_call 161; (have hki : k = i := by have h := (by assumption : ((k : Int) == (i : Int)) = true); simp at h; omega); (obtain ⟨hL5, hT5⟩ := hk5 hki); (rw [hL5] at hR5 hP5);  (refine (kd w5 f' hO5 hR5 hP5 hT5).mono ?_)); rintro e w6 ⟨f6, L6, rfl, hR6, hP6, hpr6, hO6, hu6, hH6⟩)
    | fail)
   all_goals
    go_ret
    obtain ⟨hgp, huW, hnd⟩ := HG.out
    have hU5 : Upd (rp :: mb :: g :: O.wr) w w5 := ((huW.mono (fun z hz => by simp at hz; simp [hz])).trans (hu3.mono (fun z hz => by simp at hz; simp [hz]))).trans (hu5.mono (fun z hz => by simp only [List.mem_cons] at hz ⊢; rcases hz with h | h | h; exact Or.inr (Or.inr (Or.inl h)); exact Or.inr (Or.inl h); exact Or.inr (Or.inr (Or.inr h))))
    first
     | (refine ⟨rfl, L6, hR6.at_ hP6, (hpr6.cons x).trans hgp, hH6, hO6, hU5.trans (hu6.mono (fun z hz => by simp only [List.mem_cons] at hz ⊢; rcases hz with h | h | h; exact Or.inr (Or.inr (Or.inl h)); exact Or.inr (Or.inl h); exact Or.inr (Or.inr (Or.inr h))))⟩)
     | (refine ⟨rfl, L', hR5.at_ hP5, (hpr5.cons x).trans hgp, hH5 (Or.inl (by have h := (by assumption : ((k : Int) == (i : Int)) = false); simp at h; omega)), hO5, hU5⟩)
end Go.Proofs.YtklibcncmbofpaaGreat
namespace Go.Proofs.YtklibcncmbofpaaGreat
open Go Go.RowKit
theorem dr_via_ahead (p c : Nat) : ∀ W : World, W.cell? ⟨p, 0, none⟩ = some (.pointer (some ⟨c, 0, none⟩)) → (method 429 170 (.pointer (some ⟨p, 0, none⟩)) "Ahead").run Tryz.prog W = .ok (174, .pointer (some ⟨c, 0, none⟩)) W := (by intro W h; unfold method; have hm : ∃ m, (Array.find? (fun x => x.name == "Ahead") Tryz.t170.methods) = some m ∧ m.path.toList = [⟨207, 0, true⟩] ∧ m.func = some (174, true) ∧ m.path.isEmpty = false := ⟨(Array.find? (fun x => x.name == "Ahead") Tryz.t170.methods).get!, by kernel_rfl, by kernel_rfl, by kernel_rfl, by kernel_rfl⟩; obtain ⟨m, h1, h2, h3, h4⟩ := hm; go_simp; simp only [follow, Place.get]; go_simp; (try unfold receiverAt); (try simp only [Place.get]); (try go_simp))
theorem dr_nil_ahead (p : Nat) : ∀ W : World, (nilAhead 429 170 (.pointer (some ⟨p, 0, none⟩)) "Ahead").run Tryz.prog W = .ok (some false) W := fun W => by kernel_rfl
structure DB where
 n0 : Nat
 c : Nat
 d : Nat
def rowK (d : Nat) : RwK := ⟨fun w p G L => RwAt w p G d L, fun h hu hS => h.upd hu hS, fun h => h.lt⟩
def hasF (A : NS) (h : Nat) : Bool := hasN A (h : Int)
structure DrM (w : World) (B : DB) (F Z : List Nat) (gr cr : Nat) (A : NS) (st : Nat) (ptr : Nat → Option Nat) (G L : Nat → List Nat) : Prop where
 head : RowAt w B.n0 207 3 (fun j => [Value.pointer (some ⟨B.c, 0, none⟩), .int .i64 (B.d : Int), .slice (some ⟨gr, 0, none⟩) A.hs.length cr].getD j undef)
 cells : CellsAt w B.c F A st
 fam : FamM (rowK B.d) 202 w gr cr A.hs.length (hasF A) Z ptr G L
 sepF : B.n0 ∉ F ∧ gr ∉ F ∧ B.n0 ≠ gr
 sepZ : ∀ z, z ∈ Z → z ∉ F ∧ z ≠ B.n0
 dd : 2 ≤ B.d ∧ B.d ≤ 16
def DB.blk (B : DB) (F Z : List Nat) (gr : Nat) : List Nat := B.n0 :: gr :: (F ++ Z)
section
variable {w : World} {B : DB} {F Z : List Nat} {gr cr st : Nat} {A : NS} {ptr : Nat → Option Nat} {G L : Nat → List Nat}
theorem DrM.upd {w' : World} {S : List Nat} (h : DrM w B F Z gr cr A st ptr G L) (hu : Upd S w w') (hS : ∀ x, x ∈ S → x ∉ B.blk F Z gr) : DrM w' B F Z gr cr A st ptr G L := by
 have h1 : ∀ x, x ∈ B.blk F Z gr → x ∉ S := fun x hx hg => hS x hg hx
 exact ⟨h.head.upd hu (h1 _ (by simp [DB.blk])), h.cells.upd hu (fun x hx hm => hS x hx (by simp [DB.blk, hm])), h.fam.upd hu (fun z hz => ⟨fun e => hS z hz (by simp [DB.blk, e]), fun e => hS z hz (by simp [DB.blk, e])⟩), h.sepF, h.sepZ, h.dd⟩
theorem DrM.upd0 {w' : World} (h : DrM w B F Z gr cr A st ptr G L) (hu : Upd [] w w') : DrM w' B F Z gr cr A st ptr G L := h.upd hu (by simp)
theorem DrM.lt (h : DrM w B F Z gr cr A st ptr G L) : ∀ x, x ∈ B.blk F Z gr → x < w.heap.size := by
 intro x hx
 simp only [DB.blk, List.mem_cons, List.mem_append] at hx
 rcases hx with rfl | rfl | hx | hx
 ·exact h.head.lt
 ·exact h.fam.lt
 ·exact h.cells.lt x hx
 ·exact h.fam.ltZ x hx
theorem DrM.h0 (h : DrM w B F Z gr cr A st ptr G L) : w.cell? ⟨B.n0, 0, none⟩ = some (.pointer (some ⟨B.c, 0, none⟩)) := h.head.cellAt 0 (by omega) rfl
theorem DrM.h1 (h : DrM w B F Z gr cr A st ptr G L) : w.cell? ⟨B.n0, 1, none⟩ = some (.int .i64 (B.d : Int)) := h.head.cellAt 1 (by omega) rfl
theorem DrM.h2 (h : DrM w B F Z gr cr A st ptr G L) : w.cell? ⟨B.n0, 2, none⟩ = some (.slice (some ⟨gr, 0, none⟩) A.hs.length cr) := h.head.cellAt 2 (by omega) rfl
theorem DrM.setC {w' : World} {F' : List Nat} {A' : NS} {st' : Nat} (h : DrM w B F Z gr cr A st ptr G L) (hu : Upd F w w') (hC : CellsAt w' B.c F' A' st') (hF : ∀ x, x ∈ F' → x ∈ F ∨ w.heap.size ≤ x) (h2 : A'.hs = A.hs) : DrM w' B F' Z gr cr A' st' ptr G L := by
 have f := h.sepF
 have g := h.lt
 have hf : ∀ x, x < w.heap.size → x ∉ F → x ∉ F' := fun x hx hn hm => by rcases hF x hm with h' | h'; exact hn h'; omega
 have l0 := g B.n0 (by simp [DB.blk]); have l1 := g gr (by simp [DB.blk])
 have hh : hasF A' = hasF A := funext fun k => by unfold hasF hasN; rw [h2]
 exact ⟨by rw [h2]; exact h.head.upd hu f.1, hC, by rw [h2, hh]; exact h.fam.upd hu (fun z hz => ⟨fun e => f.2.1 (by rw [← e]; exact hz), fun hm => (h.sepZ z hm).1 hz⟩), ⟨hf _ l0 f.1, hf _ l1 f.2.1, f.2.2⟩, fun z hz => ⟨hf z (h.fam.ltZ z hz) (h.sepZ z hz).1, (h.sepZ z hz).2⟩, h.dd⟩
def drO (B : DB) (F : List Nat) (A : NS) (hc : B.c ∈ F) : OrdQ where
 ty := 170
 p := B.n0
 rd := B.n0 :: F
 wr := [B.c]
 lt := fun a b => decide (lt3 A a b)
 dom := fun x => inN A (x : Int) = true
 at_ := fun w => w.cell? ⟨B.n0, 0, none⟩ = some (.pointer (some ⟨B.c, 0, none⟩)) ∧ B.n0 ∉ F ∧ ∃ st, CellsAt w B.c F A st
 sub := fun x hx => by simp at hx; rw [hx]; exact List.mem_cons_of_mem _ hc
 low := fun h x hx => by
  obtain ⟨h1, h3, st, h2⟩ := h
  rcases List.mem_cons.1 hx with e | e
  ·rw [e]; exact World.block_lt_of_cell? _ _ h1
  ·exact h2.lt x e
 upd := fun h hu hS => by
  obtain ⟨h1, h3, st, h2⟩ := h
  exact ⟨hu.kept h1 (fun hm => hS _ hm (by simp)), h3, st, h2.upd hu (fun x hx hm => hS x hx (by simp [hm]))⟩
 trans := fun a b c h1 h2 => decide_eq_true (lt3_trans (of_decide_eq_true h1) (of_decide_eq_true h2))
 total := fun a b h => by rcases lt3_total (A := A) h with h | h; exact Or.inl (decide_eq_true h); exact Or.inr (decide_eq_true h)
 asym := fun a b h => decide_eq_false (lt3_asym (of_decide_eq_true h))
 fn := 174
 recv := .pointer (some ⟨B.c, 0, none⟩)
 ent := fun _ _ => by kernel_rfl
 meth := fun h => dr_via_ahead _ _ _ h.1
 nila := dr_nil_ahead _
 ask := fun {w} x y h hx hy => by
  obtain ⟨h1, h3, st, h2⟩ := h
  refine (cahead_yes h2 x y hx hy).mono ?_
  rintro e w' ⟨rfl, hC, hu⟩
  exact ⟨rfl, ⟨hu.kept h1 (fun hm => h3 (by simp at hm; rw [hm]; exact h2.mem)), h3, _, hC⟩, hu⟩
theorem DrM.ord (h : DrM w B F Z gr cr A st ptr G L) : (drO B F A h.cells.mem).at_ w := ⟨h.h0, h.sepF.1, st, h.cells⟩
end
def DrAt (w : World) (B : DB) (F Z : List Nat) (gr : Nat) (A : NS) (st : Nat) : Prop := ∃ cr ptr G L, DrM w B F Z gr cr A st ptr G L ∧ DrI B.d A L
section
variable {w : World} {B : DB} {F Z : List Nat} {gr st : Nat} {A : NS}
theorem DrAt.upd {w' : World} {S : List Nat} (h : DrAt w B F Z gr A st) (hu : Upd S w w') (hS : ∀ x, x ∈ S → x ∉ B.blk F Z gr) : DrAt w' B F Z gr A st := by
 obtain ⟨cr, ptr, G, L, hM, hI⟩ := h
 exact ⟨cr, ptr, G, L, hM.upd hu hS, hI⟩
theorem DrAt.upd0 {w' : World} (h : DrAt w B F Z gr A st) (hu : Upd [] w w') : DrAt w' B F Z gr A st := h.upd hu (by simp)
theorem dmin_has (h : DrAt w B F Z gr A st) (g : Nat) (hn : hasN A g = true) :
  Calls Tryz.prog 145 #[.pointer (some ⟨B.n0, 0, none⟩), .int .i64 (g : Int)] w fun e w' => e = .returned (.tuple #[.int .i64 (slotV (minN A g)), .bool (minN A g).isSome]) ∧ w' = w := by
 obtain ⟨cr, ptr, G, L, hM, hI⟩ := h
 have k := chas_any hM.cells g
 rw [hn] at k
 have h0 := hM.h0
 have h2 := hM.h2
 obtain ⟨rp, hp, hR⟩ := hM.fam.row g hn
 have hg := (hasN_iff _ _).1 hn
 have hc := hM.fam.cell (by omega) hp
 have hgI : (g : Int) < (A.hs.length : Int) := by omega
 have hR' : RwAt w rp (G g) B.d (L g) := hR
 cases hl : L g with
 | nil =>
  rw [hl] at hR'
  have ka := rat_none hR'
  rw [hI.none hn hl]
  clear hM hI hn hR hR' hp hl
  go_enter Tryz.func145, Tryz.ntmps145
  go_wp2_with (first | (go_at_call 139; (with_reducible refine (k).mono ?_); rintro e w9 ⟨rfl, hw9⟩; rw [hw9]; clear hw9 w9) | (go_at_call 157; (with_reducible refine (ka).mono ?_); rintro e w9 ⟨rfl, hw9⟩; rw [hw9]; clear hw9 w9))
  go_ret2
  exact ⟨rfl, rfl⟩
 | cons m l =>
  rw [hl] at hR'
  have ka := rat_some hR'
  rw [hI.first hM.dd.1 hn hl]
  clear hM hI hn hR hR' hp hl
  go_enter Tryz.func145, Tryz.ntmps145
  go_wp2_with (first | (go_at_call 139; (with_reducible refine (k).mono ?_); rintro e w9 ⟨rfl, hw9⟩; rw [hw9]; clear hw9 w9) | (go_at_call 157; (with_reducible refine (ka).mono ?_); rintro e w9 ⟨rfl, hw9⟩; rw [hw9]; clear hw9 w9))
  go_ret2
  exact ⟨rfl, rfl⟩
end
end Go.Proofs.YtklibcncmbofpaaGreat
namespace Go.Proofs.YtklibcncmbofpaaGreat
open Go Go.RowKit
theorem sfRowInfo : (Tryz.prog.info? 202).map (fun i => (i.zero, i.size, i.bytes)) = some (some (.pointer none), 1, 8) := by kernel_rfl
theorem hasF_new (n h : Nat) : hasF (NS.new n) h = false := by
 unfold hasF
 cases hh : hasN (NS.new n) (h : Int) with
 | false => rfl
 | true => have := (hasN_iff _ _).1 hh; simp [NS.new] at this; omega
set_option maxHeartbeats 2000000 in
theorem dnew_yes (n d : Nat) (w : World) (h : n ≤ 65536) (hd : 2 ≤ d ∧ d ≤ 16) :
  Calls Tryz.prog 91 #[.int .i64 (n : Int), .int .i64 (d : Int)] w fun e w' => ∃ B F gr, e = .returned (.tuple #[.pointer (some ⟨B.n0, 0, none⟩), .int .i64 0]) ∧ DrAt w' B F [] gr (NS.new n) 0 ∧ Upd [] w w' ∧ (∀ x, x ∈ B.blk F [] gr → w.heap.size ≤ x) ∧ B.d = d := by
 go_enter Tryz.func91, Tryz.ntmps91
 go_wp2_with (first
  | ((go_at_call 107; (with_reducible refine (cnew_yes n _ h).mono ?_)); rintro e w1 ⟨c, F, rfl, hC, hu1, hF⟩)
  | ((go_at_call 108; (with_reducible refine (rnew_row d hd _).mono ?_)); rintro e w2 ⟨rp, G, rfl, hR, hu2, hG⟩)
  | fail)
 go_ret2
 have l1 := hu1.size
 have l2 := hu2.size
 have l7 := hC.lt
 have e3 : ((w2.alloc (.cells #[.pointer none] 202)).heap.size) = w2.heap.size + 1 := by rw [World.size_alloc]
 have hh := rowAt_new (w2.alloc (.cells #[.pointer none] 202)) [.pointer (some ⟨c, 0, none⟩), .int .i64 (d : Int), .slice (some ⟨w2.heap.size, 0, none⟩) 1 1] 207
 rw [e3] at hh
 have hv : Upd [] w2 (w2.alloc (.cells #[.pointer none] 202)) := (Upd.refl _ _).alloc _
 have hv2 : Upd [] (w2.alloc (.cells #[.pointer none] 202)) ((w2.alloc (.cells #[.pointer none] 202)).alloc (.cells #[.pointer (some ⟨c, 0, none⟩), .int .i64 (d : Int), .slice (some ⟨w2.heap.size, 0, none⟩) 1 1] 207)) := (Upd.refl _ _).alloc _
 have hw : Upd [] w2 ((w2.alloc (.cells #[.pointer none] 202)).alloc (.cells #[.pointer (some ⟨c, 0, none⟩), .int .i64 (d : Int), .slice (some ⟨w2.heap.size, 0, none⟩) 1 1] 207)) := hv.trans hv2
 have ho := own_lit w2 [.pointer none] 202 0 1 1 rfl (by omega) (by unfold maxLen; omega)
 have hnF : ∀ x, w1.heap.size ≤ x → x ∉ F := fun x hx hm => by have := l7 x hm; omega
 refine ⟨⟨w2.heap.size + 1, c, d⟩, F, w2.heap.size, rfl, ⟨1, fun _ => none, fun _ => [], fun _ => [], ⟨hh, (hC.upd0 hu2).upd0 hw, ⟨?_, fun k hk => ?_, fun k hk => ?_, fun k j hk => ?_, fun z hz => by simp at hz, by simp⟩, ⟨hnF _ (by first | omega | (simp only; omega)), hnF _ (by omega), by simp⟩, fun z hz => by simp at hz, hd⟩, ⟨fun k hk => ?_, fun k hk => ?_, fun k x hk => ?_⟩⟩, (hu1.trans hu2).trans hw, fun x hx => ?_, rfl⟩
 ·exact owns_upd ho hv2 (by simp)
 ·rw [hasF_new] at hk; cases hk
 ·rw [hasF_new] at hk; cases hk
 ·rw [hasF_new] at hk; cases hk
 ·have := hasF_new n k; unfold hasF at this; rw [this] at hk; cases hk
 ·have := hasF_new n k; unfold hasF at this; rw [this] at hk; cases hk
 ·have := hasF_new n k; unfold hasF at this; rw [this] at hk; cases hk
 ·simp only [DB.blk, List.mem_cons, List.append_nil] at hx
  rcases hx with rfl | rfl | hx
  ·omega
  ·omega
  ·exact hF x hx
section
variable {w : World} {B : DB} {F Z : List Nat} {gr st : Nat} {A : NS}
set_option maxHeartbeats 1000000 in
theorem dmake_no (h : DrAt w B F Z gr A st) (hl : 65536 < A.hs.length) :
  Calls Tryz.prog 143 #[.pointer (some ⟨B.n0, 0, none⟩)] w fun e w' => e = .returned (.int .i64 0) ∧ Goes (B.blk F Z gr) w w' (fun F' => ∃ F1, F' = B.blk F1 Z gr ∧ DrAt w' B F1 Z gr A st) := by
 obtain ⟨cr, ptr, G, L, hM, hI⟩ := h
 have k := cmake_any hM.cells
 have e1 : makeV A = 0 := by unfold makeV; rw [if_pos hl]
 have e2 : makeN A = A := by unfold makeN; rw [if_pos hl]
 rw [e1, e2] at k
 have h0 := hM.h0
 have HM := Lib.hid (And.intro hM hI)
 clear hM hI e1 e2
 go_enter Tryz.func143, Tryz.ntmps143
 go_wp2_with (first | ((go_at_call 156; (with_reducible refine (k).mono ?_)); rintro e w1 ⟨rfl, F1, hC, hu, hF⟩))
 go_ret
 refine ⟨rfl, B.blk F1 Z gr, ⟨F1, rfl, cr, ptr, G, L, HM.out.1.setC hu hC hF rfl, HM.out.2⟩, hu.mono (fun y hy => by simp [DB.blk, hy]), fun x hx => ?_⟩
 simp only [DB.blk, List.mem_cons, List.mem_append] at hx ⊢
 rcases hx with rfl | rfl | hx | hx
 ·simp
 ·simp
 ·rcases hF x hx with h | h
  ·simp [h]
  ·exact Or.inr h
 ·simp [hx]
set_option maxHeartbeats 4000000 in
theorem dmake_yes (h : DrAt w B F Z gr A st) (hl : ¬ 65536 < A.hs.length) :
  Calls Tryz.prog 143 #[.pointer (some ⟨B.n0, 0, none⟩)] w fun e w' => e = .returned (.int .i64 (A.hs.length : Int)) ∧ Goes (B.blk F Z gr) w w' (fun F' => ∃ F1 Z1 gr1, F' = B.blk F1 Z1 gr1 ∧ DrAt w' B F1 Z1 gr1 (makeN A) st) := by
 obtain ⟨cr, ptr, G, L, hM, hI⟩ := h
 have k := cmake_any hM.cells
 have e1 : makeV A = A.hs.length := by unfold makeV; rw [if_neg hl]
 rw [e1] at k
 have hhs : (makeN A).hs.length = A.hs.length + 1 := by unfold makeN; rw [if_neg hl]; simp
 have hh0 := hM.cells.ok.h0
 have hI2 := hI.make hM.dd.1 hM.cells.ok hl (by omega)
 have h0 := hM.h0
 have kr := fun W => rnew_row B.d hM.dd W
 have HM := Lib.hid (And.intro hM (And.intro hI2 hhs))
 clear hM hI e1 hI2 hhs
 generalize hm : A.hs.length = m at *
 have HMm := Lib.hid hm
 clear hm
 go_enter Tryz.func143, Tryz.ntmps143
 go_wp2_with (first
  | ((go_at_call 156; (with_reducible refine (k).mono ?_)); rintro e w1 ⟨rfl, F1, hC, hu, hF⟩; (have q1 := hu.kept HM.out.1.h1 HM.out.1.sepF.1); (have q2 := hu.kept HM.out.1.h2 HM.out.1.sepF.1); (have f2 := hu.keptF HM.out.1.h2 HM.out.1.sepF.1 (HM.out.1.head.free 2)); (have ho1 := owns_upd HM.out.1.fam.rows hu (fun k hk hm => by cases hk; exact HM.out.1.sepF.2.1 hm)); (rw [HMm.out] at q2 ho1))
  | ((go_at_call 108; (with_reducible refine (kr _).mono ?_)); rintro e w2 ⟨rp, G2, rfl, hR, hu2, hG2⟩; (have q3 := hu2.was q2); (have f3 := hu2.keptF q2 (by simp) f2); (have ho2 := owns_upd ho1 hu2 (by simp)))
  | (at_builtin; refine wpList_append_sep rfl _ _ 205 rfl 0 202 (.pointer none) 1 8 Tryz.underlying205 sfRowInfo rfl (by decide) _ _ _ rfl (ho2) [ptrV (some rp)] rfl (by simp [Value.oneCell', ptrV]) (by first | rfl | (rw [World.size_alloc]; rfl)) (by unfold maxLen; omega) (by omega) (by omega) ?_; intro v3 w3 ho3 hu3 hsep3; (have hu3 : Upd [gr] w2 w3 := hu3); obtain ⟨g3, c3, ev, -⟩ := own_shape ho3 (by omega); subst ev; (have d4 := hu3.kept q3 (by simp; exact HM.out.1.sepF.2.2)); (have f4 := hu3.keptF q3 (by simp; exact HM.out.1.sepF.2.2) f3))
  | fail)
 go_ret
 obtain ⟨hM, hI2, hhs⟩ := HM.out
 have hlt := hM.lt
 have l0 := hlt B.n0 (by simp [DB.blk])
 have l1 := hlt gr (by simp [DB.blk])
 have hs1 := hu.size
 have hs2 := hu2.size
 have hs3 := hu3.size
 have hC1 := hC.lt
 have hg3 : g3 = gr ∨ w2.heap.size < g3 := by
  rcases hsep3 with h | h
  ·exact Or.inl (Option.some.inj h)
  ·exact Or.inr (h g3 rfl)
 have hw4 : Upd [B.n0] w3 (w3.setCell ⟨B.n0, 2, none⟩ (.slice (some ⟨g3, 0, none⟩) (m + 1) c3)) := by (repeat (first | assumption | exact Upd.refl _ _ | refine Upd.alloc ?_ _ | refine Upd.drew ?_ | refine Upd.drewN ?_ _ | refine Upd.setCell ?_ ?_ _ | focus (left; simp; done) | focus (right; simp; done) | focus (right; simp; omega)))
 have hnF : ∀ y, y < w.heap.size → y ∉ F → y ∉ F1 := fun y hy hn hm => by rcases hF y hm with h' | h'; exact hn h'; omega
 have hn3 : B.n0 ≠ g3 := by have := hM.sepF.2.2; omega
 have hg3F : g3 ∉ F1 := by
  rcases hg3 with e | e
  ·rw [e]; exact hnF gr l1 hM.sepF.2.1
  ·exact fun hm => by have := hC1 g3 hm; omega
 have hF1n : ∀ z, z ∈ F1 → z ≠ gr ∧ z ≠ B.n0 := fun z hz => ⟨fun e => hnF gr l1 hM.sepF.2.1 (by rw [← e]; exact hz), fun e => hnF _ l0 hM.sepF.1 (by rw [← e]; exact hz)⟩
 have hG2l := hR.lt
 have hRk : (rowK B.d).at_ (w3.setCell ⟨B.n0, 2, none⟩ (.slice (some ⟨g3, 0, none⟩) (m + 1) c3)) rp G2 [] := (hR.upd hu3 (fun z hz hm => by simp at hz; have := hG2 z hm; omega)).upd hw4 (fun z hz hm => by simp at hz; have := hG2 z hm; omega)
 have huA : Upd (B.n0 :: gr :: F) w (w3.setCell ⟨B.n0, 2, none⟩ (.slice (some ⟨g3, 0, none⟩) (m + 1) c3)) := (((hu.mono (fun y hy => by simp [hy])).then hu2).trans (hu3.mono (fun y hy => by simp at hy; simp [hy]))).trans (hw4.mono (fun y hy => by simp at hy; simp [hy]))
 have hfs := hM.fam.snoc (by rw [HMm.out]; cases hh : hasF A m with
  | false => rfl
  | true => have := (hasN_iff _ _).1 hh; have := HMm.out; omega) huA (fun z hz => by
   simp only [List.mem_cons] at hz
   rcases hz with rfl | rfl | hz
   ·exact fun hm => (hM.sepZ _ hm).2 rfl
   ·exact hM.fam.grZ
   ·exact fun hm => (hM.sepZ z hm).1 hz) hRk (fun z hz => by have := hG2 z hz; omega) (gr' := g3) (cr' := c3) (by
   rcases hg3 with e | e
   ·rw [e]; exact hM.fam.grZ
   ·exact fun hm => by have := hM.fam.ltZ _ hm; omega) (by
   rcases hg3 with e | e
   ·rw [e]; exact fun hm => by have := hG2 _ hm; omega
   ·exact fun hm => by have := hG2l _ hm; omega) (by rw [HMm.out]; exact owns_upd ho3 hw4 (fun k hk hm => by cases hk; simp at hm; exact hn3 hm.symm))
 rw [HMm.out] at hfs
 have hhF : (fun h => hasF A h || h == m) = hasF (makeN A) := funext fun q => by unfold hasF; rw [← HMm.out]; exact (has_make A (by rw [HMm.out]; exact hl) (by have := HMm.out; omega) q).symm
 rw [hhF] at hfs
 refine ⟨rfl, B.blk F1 (Z ++ G2) g3, ⟨F1, Z ++ G2, g3, rfl, c3, setF ptr m (some rp), setF G m G2, setF L m [], ⟨?_, ?_, by rw [hhs]; exact hfs, ⟨hnF _ l0 hM.sepF.1, hg3F, hn3⟩, fun z hz => ?_, hM.dd⟩, hI2⟩, huA.mono (fun y hy => ?_), fun y hy => ?_⟩
 ·rw [hhs]
  refine ((((hM.head.upd hu hM.sepF.1).upd hu2 (by simp)).upd hu3 (by simp; exact hM.sepF.2.2)).set 2 _).ext (fun j hj => ?_)
  rcases (by omega : j = 0 ∨ j = 1 ∨ j = 2) with rfl | rfl | rfl <;> rfl
 ·exact ((hC.upd0 hu2).upd hu3 (fun z hz hm => by simp at hz; exact (hF1n z hm).1 hz)).upd hw4 (fun z hz hm => by simp at hz; exact (hF1n z hm).2 hz)
 ·rcases List.mem_append.1 hz with h | h
  ·exact ⟨hnF z (hM.fam.ltZ z h) (hM.sepZ z h).1, (hM.sepZ z h).2⟩
  ·have := hG2 z h
   exact ⟨fun hm => by have := hC1 z hm; omega, by omega⟩
 ·simp only [DB.blk, List.mem_cons, List.mem_append] at hy ⊢
  rcases hy with h | h | h
  ·exact Or.inl h
  ·exact Or.inr (Or.inl h)
  ·exact Or.inr (Or.inr (Or.inl h))
 ·simp only [DB.blk, List.mem_cons, List.mem_append] at hy ⊢
  rcases hy with h | h | h | h | h
  ·exact Or.inl (Or.inl h)
  ·rcases hg3 with e | e
   ·exact Or.inl (Or.inr (Or.inl (by rw [h, e])))
   ·exact Or.inr (by omega)
  ·rcases hF y h with h | h
   ·exact Or.inl (Or.inr (Or.inr (Or.inl h)))
   ·exact Or.inr h
  ·exact Or.inl (Or.inr (Or.inr (Or.inr h)))
  ·exact Or.inr (by have := hG2 y h; omega)
end
end Go.Proofs.YtklibcncmbofpaaGreat
