/-
  Lemmas for PathWays: Pst, Pbg, Pst2. Conditions: those of each lemma.
-/
import Derived.WalkKit
import Derived.WalkSpells
import Derived.WalkLawsBesides
import Derived.BigQuiet
import Derived.Deep.RegionHeld3
import Derived.ProofKit
import Derived.OpenShut
import Derived.Lib.Hide
import Derived.Test.YtklibcncmbofpaaGreatProg
import Derived.Maps.AppendAt
import Derived.StillTailTactics
import Derived.Maps.OwnSet
import Derived.Maps.OwnOps
import Derived.Maps.RangeWalk
import Derived.Deep.RegionLaw
import Derived.Deep.DeepCutAuto
import Derived.DeepKeys4
import Derived.IntWalk
import Derived.Deep.Slices
import Derived.Deep.Strs
import Derived.Lib.Mul64
import Derived.Laws.Bits64b
import Derived.Lib.MinMax
import Derived.Shelf.Bits.Mul64
import Derived.Shelf.Slices.Reverse
import Derived.Ground.Names2Prog
import Derived.Shelf.Slices.Clone
import Derived.Shelf.Slices.Cells
import Derived.Ground.SlgnProg
import Derived.Shelf.SlicesE.Clone
import Derived.Deep.LoopGhost
import Derived.Deep.OwnRows
import Derived.Test.YtklibcncmbofpaaGreatP01
import Derived.Test.YtklibcncmbofpaaGreatP02
import Derived.Test.YtklibcncmbofpaaGreatP03
import Derived.Test.YtklibcncmbofpaaGreatP04
import Derived.Test.YtklibcncmbofpaaGreatP05
import Derived.Test.YtklibcncmbofpaaGreatP06
import Derived.Test.YtklibcncmbofpaaGreatP07
import Derived.Test.YtklibcncmbofpaaGreatP08
import Derived.Test.YtklibcncmbofpaaGreatP09
import Derived.Test.YtklibcncmbofpaaGreatP10
import Derived.Test.YtklibcncmbofpaaGreatP11
import Derived.Test.YtklibcncmbofpaaGreatP12
import Derived.Test.YtklibcncmbofpaaGreatP13
import Derived.Test.YtklibcncmbofpaaGreatP21
import Derived.Test.YtklibcncmbofpaaGreatP22
set_option linter.unusedVariables false
set_option linter.unusedSimpArgs false
namespace Go.Proofs.YtklibcncmbofpaaGreat
open Go Go.RowKit
def rowZ (n : Nat) (b : Nat → Int) : List Int := (List.range n).map b
theorem rowZ_len (n : Nat) (b : Nat → Int) : (rowZ n b).length = n := by unfold rowZ; simp
theorem rowZ_get {n : Nat} {b : Nat → Int} {v : Nat} (hv : v < n) : (rowZ n b).getD v 0 = b v := by unfold rowZ; simp [List.getD_eq_getElem?_getD, hv]
theorem rowZ_set {n : Nat} {b : Nat → Int} {x : Nat} {y : Int} : (rowZ n b).set x y = rowZ n (fun u => if u = x then y else b u) := by
 apply List.ext_getElem?
 intro j
 unfold rowZ
 rw [List.getElem?_set]
 by_cases h : x = j
 ·subst h
  by_cases hx : x < n
  ·simp [hx]
  ·simp [hx]
 ·simp [h]
  by_cases hj : j < n
  ·simp [hj]
   intro e; exact absurd e.symm h
  ·simp [hj]
def St (K : NestQ) (X : SrB) (kd dd : Int) (E : List Ed) (s N m : Nat) (w : World) (F : List Nat) (d : Nat → Nat) (bt : Nat → Int) (S : List Nat) (W Rl : Nat → Prop) : Prop :=
 ∃ R A q c hc f sl, SrM K w X F kd dd N (rowN N d) (rowZ N bt) hc c f R A q ∧ DJ (eN E) s N m d bt S W Rl ∧ DS N d W R A q c hc f sl
theorem edG_eN (E : List Ed) (i : Nat) (hi : i < E.length) : edG (eN E) i = toN (E.getD i default) := by
 unfold edG eN
 simp [List.getD_eq_getElem?_getD, hi]
section
variable {K : NestQ} {X : SrB} {kd dd : Int} {E : List Ed} {s N m : Nat} {w : World} {F : List Nat} {d : Nat → Nat} {bt : Nat → Int} {S : List Nat} {W Rl : Nat → Prop}
theorem reach_step (g : GOk (eN E) s N m) (hN : N ≤ 65536) (hE : E.length ≤ 65536) {v : Nat} (h : St K X kd dd E s N m w F d bt (v :: S) W Rl) {i t x : Nat} (hi : i < E.length) (he : edG (eN E) i = ⟨v, t, x⟩) :
  Calls Tryz.prog 54 #[.pointer (some ⟨X.b, 0, none⟩), .int .i64 (t : Int), .int .i64 ((d v : Int) + (x : Int)), .int .i64 (i : Int)] w fun e w' => e = .returned (.tuple #[]) ∧ ∃ F' d' bt' W', St K X kd dd E s N m w' F' d' bt' (v :: S) W' (fun j => Rl j ∨ j = i) ∧ d' v = d v ∧ Upd (X.own ++ F) w w' ∧ ∀ z, z ∈ F' → z ∈ F ∨ w.heap.size ≤ z := by
 obtain ⟨R, A, q, c, hc, f, sl, hM, hJ, hS⟩ := h
 have hi' : i < (eN E).length := by rw [eN_len]; exact hi
 have hmem := edG_mem hi'
 have hge := g.e _ hmem
 rw [he] at hge
 obtain ⟨hvN, htN, hxm⟩ := hge
 have hvd : d v ≠ inf := (hJ.rc v hvN).2 (Or.inl (by simp))
 have hsum := hJ.rx.sum g.nm (e := ⟨v, t, x⟩) hvN hxm hvd
 have hlet := hJ.rx.le t
 have hDt : (rowN N d).getD t 0 = ((d t : Nat) : Int) := rowN_get htN
 have hef : (edG (eN E) i).f = v := by rw [he]
 have het : (edG (eN E) i).t = t := by rw [he]
 have hew : (edG (eN E) i).w = x := by rw [he]
 have hmx : (inf : Nat) = 9223372036854775807 := rfl
 have hcast : ((d v : Int) + (x : Int)) = ((d v + x : Nat) : Int) := by omega
 dsimp only at hsum
 by_cases hlt : d v + x < d t
 ·have hdj := dj_set g hJ hi' hef (by rw [hew, het]; exact hlt)
  rw [het, hew] at hdj
  have htS : t ∉ v :: S := fun hm => by have := hJ.top t v S rfl hm; omega
  have hdv : setN d t (d v + x) v = d v := by unfold setN; rw [if_neg (fun e => htS (by rw [← e]; simp))]
  by_cases hti : d t = inf
  ·obtain ⟨R', hT, hg0, hS'⟩ := hS.new htN hti (x' := d v + x) (by omega) (by omega)
   have hq := hS.qn
   have hq2 := hS.next
   have hq3 := cntF_le d N
   have hcn := hS.cn
   have key := reach_new hM t htN ((d v : Int) + (x : Int)) (i : Int) (by rw [hDt, hti]; rfl) (by omega) (by omega) hS.has (by omega) hN (by omega) hT
   refine key.mono fun e w' ⟨h1, F', h2, h3, h4⟩ => ⟨h1, F', setN d t (d v + x), (fun u => if u = t then (i : Int) else bt u), (fun u => W u ∨ u = t), ?_, hdv, h3, h4⟩
   rw [hcast, rowN_set, rowZ_set] at h2
   exact ⟨_, _, _, _, _, _, _, h2, hdj, hS'⟩
  ·have hWt : W t := by
    rcases (hJ.rc t htN).1 hti with e | e
    ·exact absurd e htS
    ·exact e
   obtain ⟨a1, a2, a3, a4, a5⟩ := hS.wt t hWt
   obtain ⟨b1, b2, b3, b4, b5⟩ := hS.slv t htN hti
   have hS' := hS.low hWt (x' := d v + x) (by omega) hlet (by omega)
   have key := reach_dec hM t (sl t) htN ((d v : Int) + (x : Int)) (i : Int) (by rw [hDt]; omega) (by rw [hDt]; omega) (by omega) b3 (by rw [b4, b5]; rfl) a3 (by rw [hDt]; exact a5)
   refine key.mono fun e w' ⟨h1, F', h2, h3, h4⟩ => ⟨h1, F', setN d t (d v + x), (fun u => if u = t then (i : Int) else bt u), (fun u => W u ∨ u = t), ?_, hdv, h3, h4⟩
   rw [hcast, rowN_set, rowZ_set] at h2
   exact ⟨_, _, _, _, _, _, _, h2, hdj, hS'⟩
 ·have hdj := dj_keep hJ hef (by rw [hew, het]; exact hlt)
  have key := reach_no hM t htN ((d v : Int) + (x : Int)) (i : Int) (by rw [hDt]; omega)
  refine key.mono fun e w' ⟨h1, h2⟩ => ⟨h1, F, d, bt, W, ⟨R, A, q, c, hc, f, sl, hM.upd0 h2, hdj, hS⟩, rfl, h2.mono (by simp), fun z hz => Or.inl hz⟩
end
end Go.Proofs.YtklibcncmbofpaaGreat
namespace Go.Proofs.YtklibcncmbofpaaGreat
open Go Go.RowKit Go.Maps
theorem hdlInfo : (Tryz.prog.info? 85).map (fun i => (i.zero, i.size, i.bytes)) = some (some (.agg #[.int .i64 0, .int .u32 0]), 2, 16) := by kernel_rfl
def srV (vd vb : Value) (p gh mb N : Nat) (j : Nat) : Value := [vd, vb, Value.pointer (some ⟨p, 0, none⟩), .slice (some ⟨gh, 0, none⟩) N N, .map (some mb)].getD j undef
structure SrG (w : World) (b p gh mb N k k2 : Nat) (vd vb : Value) : Prop where
 head : RowAt w b 109 5 (srV vd vb p gh mb N)
 od : w.ownsRow (b + 1) 2 1 vd k (intsZ (List.replicate k 9223372036854775807))
 ob : w.ownsRow (b + 1) 3 1 vb k2 (intsZ (List.replicate k2 (-1)))
 ne : ∀ g, vd.ownBlock = some g → vb.ownBlock ≠ some g
theorem SrG.putD {w w4 : World} {b p gh mb N k k2 : Nat} {vd vb v4 : Value} (h : SrG w b p gh mb N k k2 vd vb) (ho : w4.ownsRow (b + 1) 2 1 v4 (k + 1) (intsZ (List.replicate (k + 1) 9223372036854775807))) (hu : Upd vd.ownBlock.toList w w4)
  (hv : v4.ownBlock = vd.ownBlock ∨ ∀ g, v4.ownBlock = some g → w.heap.size < g) : SrG (w4.setCell ⟨b, 0, none⟩ v4) b p gh mb N (k + 1) k2 v4 vb := by
 have hb : b ∉ vd.ownBlock.toList := fun e => by have := (h.od.lt b (by simpa using e)).1; omega
 have hU : Upd [b] w4 (w4.setCell ⟨b, 0, none⟩ v4) := (Upd.refl _ _).setCell (Or.inl (by simp)) _
 refine ⟨((h.head.upd hu hb).set 0 v4).ext (fun j hj => ?_), owns_upd ho hU (fun g hg e => by simp at e; subst e; have := (ho.lt _ hg).1; omega), owns_upd (owns_upd h.ob hu (fun g hg e => h.ne g (by simpa using e) hg)) hU (fun g hg e => by simp at e; subst e; have := (h.ob.lt _ hg).1; omega), fun g hg hg2 => ?_⟩
 ·rcases (by omega : j = 0 ∨ j = 1 ∨ j = 2 ∨ j = 3 ∨ j = 4) with rfl | rfl | rfl | rfl | rfl <;> simp [srV]
 ·rcases hv with e | e
  ·exact h.ne g (by rw [← e]; exact hg) hg2
  ·have h1 := e g hg
   have h2 := (h.ob.lt g hg2).2
   omega
theorem SrG.putB {w w4 : World} {b p gh mb N k k2 : Nat} {vd vb v4 : Value} (h : SrG w b p gh mb N k k2 vd vb) (ho : w4.ownsRow (b + 1) 3 1 v4 (k2 + 1) (intsZ (List.replicate (k2 + 1) (-1)))) (hu : Upd vb.ownBlock.toList w w4)
  (hv : v4.ownBlock = vb.ownBlock ∨ ∀ g, v4.ownBlock = some g → w.heap.size < g) : SrG (w4.setCell ⟨b, 1, none⟩ v4) b p gh mb N k (k2 + 1) vd v4 := by
 have hb : b ∉ vb.ownBlock.toList := fun e => by have := (h.ob.lt b (by simpa using e)).1; omega
 have hU : Upd [b] w4 (w4.setCell ⟨b, 1, none⟩ v4) := (Upd.refl _ _).setCell (Or.inl (by simp)) _
 refine ⟨((h.head.upd hu hb).set 1 v4).ext (fun j hj => ?_), owns_upd (owns_upd h.od hu (fun g hg e => h.ne g hg (by simpa using e))) hU (fun g hg e => by simp at e; subst e; have := (h.od.lt _ hg).1; omega), owns_upd ho hU (fun g hg e => by simp at e; subst e; have := (ho.lt _ hg).1; omega), fun g hg hg2 => ?_⟩
 ·rcases (by omega : j = 0 ∨ j = 1 ∨ j = 2 ∨ j = 3 ∨ j = 4) with rfl | rfl | rfl | rfl | rfl <;> simp [srV]
 ·rcases hv with e | e
  ·exact h.ne g hg (by rw [← e]; exact hg2)
  ·have h1 := e g hg2
   have h2 := (h.od.lt g hg).2
   omega
theorem reps (k : Nat) (x : Int) : intsZ (List.replicate (k + 1) x) = intsZ (List.replicate k x) ++ [.int .i64 x] := by
 rw [List.replicate_succ', intsZ_append]; rfl
set_option maxHeartbeats 4000000 in
set_option maxRecDepth 10000 in
theorem begin_any {K : NestQ} {kd dd : Int} (N : Nat) (w : World) (hN : 1 ≤ N) (hN2 : N ≤ 4096) (hc : chk kd dd = 0) (ko : Opens K kd dd N) :
  Calls Tryz.prog 52 #[.agg #[.int .i64 kd, .int .i64 dd], .int .i64 (N : Int)] w fun e w' => ∃ X F hv, e = .returned (.tuple #[.pointer (some ⟨X.b, 0, none⟩), .int .i64 0]) ∧ SrM K w' X F kd dd N (List.replicate N 9223372036854775807) (List.replicate N (-1)) hv 0 (fun _ _ => none) (AR.new N 1) (makeN (NS.new N)) 0 ∧ Upd [] w w' ∧ (∀ x, x ∈ X.own → w.heap.size ≤ x) ∧ ∀ x, x ∈ F → w.heap.size ≤ x := by
 have kp := fun W => popen_any (K := K) N 1 W (by omega) (by omega) hc ko
 simp only [show ((1 : Nat) : Int) = 1 from rfl] at kp
 have hmm := @run_makeMap Tryz.prog
 have hmv : makeV (NS.new N) = 1 := by unfold makeV NS.new; simp
 go_enter Tryz.func52, Tryz.ntmps52
 go_upto_region 7 with (first
  | ((go_at_call 64; (with_reducible refine (kp _).mono ?_)); rintro e w1 ⟨p, F, rfl, hP, hu1, hf1⟩; (have kh := pnewheap_any hP); (rw [hmv, if_neg (by omega)] at kh))
  | ((go_at_call 65; (with_reducible refine (kh).mono ?_)); rintro e w2 ⟨rfl, F2, hP2, hu2, hf2⟩)
  | (at_make; refine wpList_make_row rfl _ 107 rfl 85 (.agg #[.int .i64 0, .int .u32 0]) 2 16 Tryz.underlying107 hdlInfo N rfl (by omega) (by unfold maxLen; omega) ?_; intro w3 hr3 hu3)
  | fail)
 have hh := rowAt_new (w3.alloc (.map #[] 0)) [.slice none 0 0, .slice none 0 0, .pointer (some ⟨p, 0, none⟩), .slice (some ⟨w2.heap.size, 0, none⟩) N N, .map (some w3.heap.size)] 109
 rw [World.size_alloc] at hh
 refine wp_nm (fun W => SrG W (w3.heap.size + 1) p w2.heap.size w3.heap.size N 0 0 (.slice none 0 0) (.slice none 0 0) ∧ MapH W w3.heap.size 0 (fun _ _ => none) ∧ Upd [] w3 W ∧ W.heap.size = w3.heap.size + 1 + 1)
  ⟨⟨hh.ext (fun j hj => rfl), World.ownsRow_nil _ _ _ _, World.ownsRow_nil _ _ _ _, fun g hg => by cases hg⟩, (MapH.made w3).upd (S := []) ((Upd.refl _ _).alloc _) (by simp), by (repeat (first | assumption | exact Upd.refl _ _ | refine Upd.alloc ?_ _ | refine Upd.drew ?_ | refine Upd.drewN ?_ _ | refine Upd.setCell ?_ ?_ _ | focus (left; simp; done) | focus (right; simp; done) | focus (right; simp; omega))), by simp⟩ ?_
 rintro W0 ⟨hG0, hM0, hU0, hb0⟩
 clear hh hmm kp kh
 generalize hbb : w3.heap.size + 1 = b at *
 have HBB := Lib.hid hbb
 clear hbb
 go_loopw [27] (fun i wr => ∃ (k : Nat) (vd vb : Value), k ≤ N ∧ i = .int .i64 (k : Int) ∧ SrG wr b p w2.heap.size w3.heap.size N k k vd vb ∧ Upd [b] W0 wr) (fun i _ => N - (intOf i).toNat)
 case atStart => exact ⟨0, _, _, by omega, rfl, hG0, Upd.refl _ _⟩
 case round =>
  clear hG0
  obtain ⟨k, vd, vb, hk, rfl, hG, hu⟩ := hrel
  rename World => wr
  by_cases hkN : k < N
  ·have hwr : IntKind.i64.wrap ((k : Int) + 1) = (k : Int) + 1 := IntWalk.i64_in _ (by omega)
   obtain ⟨ad, cd, rfl, hcd⟩ := own_slice hG.od
   have z0 : wr.cell? ⟨b, 0, none⟩ = some (.slice ad k cd) := hG.head.cellAt 0 (by omega) rfl
   have f0 := hG.head.free 0
   have hod := hG.od
   have hbl := hG.head.lt
   have HG := Lib.hid (And.intro hG hu)
   clear hG hu
   go_upto_region 9 with (first
    | ((at_builtin; refine wpList_append_sep rfl _ _ 24 rfl (b + 1) 2 (.int .i64 0) 1 8 Tryz.underlying24 lngInfo rfl (by decide) _ _ _ rfl (hod) [.int .i64 (9223372036854775807 : Int)] rfl (by simp [Value.oneCell']) (by first | rfl | (rw [World.size_alloc]; rfl)) (by unfold maxLen; omega) (by omega) ((by omega)) ?_; intro v4 w4 ho4 hu4 hsep4); (have hb4 : b ∉ (Value.slice ad k cd).ownBlock.toList := fun e => by have := (hod.lt b (by simpa using e)).1; omega); (have z4 := hu4.kept z0 hb4); (have f4 := hu4.keptF z0 hb4 f0); (obtain ⟨a4, c4, rfl, hc4⟩ := own_slice ho4))
    | fail)
   have hG1 := HG.out.1.putD (by rw [reps]; exact ho4) hu4 hsep4
   have hU4 : Upd [b] W0 (w4.setCell ⟨b, 0, none⟩ (.slice a4 (k + 1) c4)) := (HG.out.2.joined hu4 (fun g hg => Or.inr (by have := (hod.lt g (Option.mem_toList.1 hg)).1; omega))).setCell (Or.inl (by simp)) _
   refine wp_nm (fun W => SrG W b p w2.heap.size w3.heap.size N (k + 1) k (.slice a4 (k + 1) c4) vb ∧ Upd [b] W0 W) ⟨hG1, hU4⟩ ?_
   clear hG1 hU4 z4 f4 hb4 ho4 hu4 hsep4 HG hod z0 f0 hbl
   rintro W1 ⟨hG, hu⟩
   obtain ⟨ab, cb, rfl, hcb⟩ := own_slice hG.ob
   have z1 : W1.cell? ⟨b, 1, none⟩ = some (.slice ab k cb) := hG.head.cellAt 1 (by omega) rfl
   have f1 := hG.head.free 1
   have hob := hG.ob
   have hbl := hG.head.lt
   have HG := Lib.hid (And.intro hG hu)
   clear hG hu
   go_wp2_with (first
    | ((at_builtin; refine wpList_append_sep rfl _ _ 26 rfl (b + 1) 3 (.int .i64 0) 1 8 Tryz.underlying26 intInfo rfl (by decide) _ _ _ rfl (hob) [.int .i64 (-1 : Int)] rfl (by simp [Value.oneCell']) (by first | rfl | (rw [World.size_alloc]; rfl)) (by unfold maxLen; omega) (by omega) ((by omega)) ?_; intro v5 w5 ho5 hu5 hsep5); (have hb5 : b ∉ (Value.slice ab k cb).ownBlock.toList := fun e => by have := (hob.lt b (by simpa using e)).1; omega); (have z5 := hu5.kept z1 hb5); (have f5 := hu5.keptF z1 hb5 f1); (obtain ⟨a5, c5, rfl, hc5⟩ := own_slice ho5))
    | fail)
   have hG2 := HG.out.1.putB (by rw [reps]; exact ho5) hu5 hsep5
   have hU5 : Upd [b] W0 (w5.setCell ⟨b, 1, none⟩ (.slice a5 (k + 1) c5)) := (HG.out.2.joined hu5 (fun g hg => Or.inr (by have := (hob.lt g (Option.mem_toList.1 hg)).1; omega))).setCell (Or.inl (by simp)) _
   exact ⟨⟨k + 1, _, _, by omega, by go_num, hG2, hU5⟩, by simp [intOf]; omega⟩
  ·obtain rfl : k = N := by omega
   obtain ⟨gd, cd, rfl, hID, hgd, hld⟩ := IE.of_own hG.od hN
   obtain ⟨gb, cb, rfl, hIB, hgb, hlb⟩ := IE.of_own hG.ob hN
   have HG := Lib.hid (And.intro hG (And.intro hID hIB))
   have HU := Lib.hid hu
   clear hG hu hID hIB
   go_wp2
   go_ret2
   obtain ⟨hG, hID, hIB⟩ := HG.out
   have hu := HU.out
   have l1 := hr3.lt
   have hF2 := hP2.lt
   have s3 := hu3.size
   have s2 := hu2.size
   have s1 := hu1.size
   rw [World.size_alloc] at s1
   have hb' := HBB.out
   have hneq : gd ≠ gb := fun e => hG.ne gd rfl (by rw [e]; rfl)
   have hbF : b ∉ F2 := fun e => by have := hF2 _ e; omega
   have hw1 : Upd [] w _ := Upd.trans (by (repeat (first | assumption | exact Upd.refl _ _ | refine Upd.alloc ?_ _ | refine Upd.drew ?_ | refine Upd.drewN ?_ _ | refine Upd.setCell ?_ ?_ _ | focus (left; simp; done) | focus (right; simp; done) | focus (right; simp; omega)))) hu1
   have hw2 : Upd [] w w2 := hw1.joined hu2 (fun x hx => Or.inr (by have := hf1 x hx; simp at this; omega))
   have hw3 : Upd [] w W0 := (hw2.trans hu3).trans hU0
   have hPr := ((hP2.upd0 hu3).upd0 hU0).upd hu (fun x hx => by simp at hx; subst hx; exact hbF)
   refine ⟨⟨b, p, gd, cd, gb, cb, w2.heap.size, w3.heap.size⟩, F2, _, rfl, ⟨hG.head.ext (fun j hj => rfl), hID, hIB, (hr3.upd hU0 (by simp)).upd hu (by simp; omega), hM0.upd hu (by simp; omega), hPr, by simp, by simp, ?_, fun x hx hm => ?_⟩, hw3.joined hu (fun x hx => Or.inr (by simp at hx; subst hx; omega)), fun x hx => ?_, fun x hx => ?_⟩
   ·simp only [SrB.own, List.nodup_cons, List.mem_cons, List.not_mem_nil, or_false, not_or, List.nodup_nil, and_true, not_false_eq_true]
    refine ⟨⟨?_, ?_, ?_, ?_⟩, ⟨hneq, ?_, ?_⟩, ⟨?_, ?_⟩, ?_⟩ <;> omega
   ·have := hF2 x hm
    simp only [SrB.own, List.mem_cons, List.not_mem_nil, or_false] at hx
    omega
   ·simp only [SrB.own, List.mem_cons, List.not_mem_nil, or_false] at hx
    omega
   ·rcases hf2 x hx with e | e
    ·have := hf1 x e; simp at this; omega
    ·omega
end Go.Proofs.YtklibcncmbofpaaGreat
namespace Go.Proofs.YtklibcncmbofpaaGreat
open Go Go.RowKit
theorem SlI.off {w : World} {T : List Nat} {g n c : Nat} {xs : List Int} (h : SlI w [] (.slice (some ⟨g, 0, none⟩) n c) xs) (hg : g ∉ T) : SlI w T (.slice (some ⟨g, 0, none⟩) n c) xs := by
 obtain ⟨a, cap, he, h1, h2, h3⟩ := h
 refine ⟨a, cap, he, h1, h2, fun j u hj => ?_⟩
 obtain ⟨g', off, rfl, a1, a2, a3⟩ := h3 j u hj
 cases he
 exact ⟨_, _, rfl, a1, hg, a3⟩
theorem cntF_none (n : Nat) : cntF (fun _ => inf) n = 0 := by
 induction n with
 | zero => rfl
 | succ n ih => rw [cntF_succ, ih]; simp
theorem rowN_inf (n : Nat) : rowN n (fun _ => inf) = List.replicate n 9223372036854775807 := by
 apply List.ext_getElem?
 intro j
 unfold rowN
 by_cases hj : j < n
 ·simp [hj, inf]
 ·simp [hj]
theorem rowZ_no (n : Nat) : rowZ n (fun _ => -1) = List.replicate n (-1) := by
 apply List.ext_getElem?
 intro j
 unfold rowZ
 by_cases hj : j < n
 ·simp [hj]
 ·simp [hj]
section
variable {K : NestQ} {X : SrB} {kd dd : Int} {E : List Ed} {s N m : Nat} {w : World} {F : List Nat}
theorem ds_zero (hN : N ≤ 65536) (hc : Nat → Value) : DS N (fun _ => inf) (fun _ => False) (AR.new N 1) (makeN (NS.new N)) 0 0 hc (fun _ _ => none) (fun _ => 0) := by
 refine ⟨AR.new_ok hN (by omega), makeN_ok (NS.new_ok N hN), by rw [makeN_len]; simp [NS.new], by simp [AR.new], fun x => by rw [makeN_in, new_v, new_in], ?_, rfl, rfl, by rw [cntF_none]; rfl, rfl, rfl, fun v hv hd => absurd rfl hd, fun v hv => hv.elim, fun x hx => by rw [new_v] at hx; cases hx⟩
 unfold makeN NS.new hasN; simp
theorem start_step (g : GOk (eN E) s N m) (hN : N ≤ 65536) {hv : Nat → Value} (h : SrM K w X F kd dd N (List.replicate N 9223372036854775807) (List.replicate N (-1)) hv 0 (fun _ _ => none) (AR.new N 1) (makeN (NS.new N)) 0) :
  Calls Tryz.prog 54 #[.pointer (some ⟨X.b, 0, none⟩), .int .i64 (s : Int), .int .i64 0, .int .i64 (-1)] w fun e w' => e = .returned (.tuple #[]) ∧ ∃ F', St K X kd dd E s N m w' F' (d0 s) (fun _ => -1) [] (fun v => v = s) (fun _ => True) ∧ Upd (X.own ++ F) w w' ∧ ∀ z, z ∈ F' → z ∈ F ∨ w.heap.size ≤ z := by
 have hsN := g.src
 have hS := ds_zero hN hv
 obtain ⟨R', hT, hg0, hS'⟩ := hS.new hsN rfl (x' := 0) (by decide) (by decide)
 have hd0 : setN (fun _ => inf) s 0 = d0 s := rfl
 have hW : (fun u => False ∨ u = s) = (fun u => u = s) := funext fun u => propext ⟨fun e => e.elim (fun e => e.elim) id, Or.inr⟩
 have hDt : (List.replicate N (9223372036854775807 : Int)).getD s 0 = 9223372036854775807 := by simp [List.getD_eq_getElem?_getD, hsN]
 have key := reach_new h s hsN 0 (-1) hDt (by omega) (by omega) hS.has (by omega) hN (by omega) hT
 refine key.mono fun e w' ⟨h1, F', h2, h3, h4⟩ => ⟨h1, F', ?_, h3, h4⟩
 rw [← rowN_inf, ← rowZ_no, show (0 : Int) = ((0 : Nat) : Int) from rfl, rowN_set, rowZ_set, hd0] at h2
 rw [hd0, hW] at hS'
 have hb : (fun u => if u = s then (-1 : Int) else (fun _ => (-1 : Int)) u) = fun _ => -1 := funext fun u => by dsimp only; split <;> rfl
 rw [hb] at h2
 exact ⟨_, _, _, _, _, _, _, h2, dj_init hsN, hS'⟩
variable {d : Nat → Nat} {bt : Nat → Int} {S : List Nat} {W R : Nat → Prop}
theorem take_step (h : St K X kd dd E s N m w F d bt S W (fun _ => True)) (hN : N ≤ 65536) :
  Calls Tryz.prog 41 #[.pointer (some ⟨X.p, 0, none⟩), .int .i64 1] w fun e w' =>
   (e = .returned (.tuple #[.agg #[.int .i64 0, .int .u32 0], .int .i64 0, .int .i64 172]) ∧ (∀ v, ¬ W v) ∧ ∃ F', St K X kd dd E s N m w' F' d bt S W (fun _ => True) ∧ Upd F w w' ∧ ∀ z, z ∈ F' → z ∈ F ∨ w.heap.size ≤ z) ∨
   ∃ v x : Nat, e = .returned (.tuple #[hV (x : Int) 1, .int .i64 (d v : Int), .int .i64 0]) ∧ v < N ∧ v ∉ S ∧ x < 65536 ∧ W v ∧ ∃ F' c f, St K X kd dd E s N m w' F' d bt (v :: S) (fun u => W u ∧ u ≠ v) (fun i => (edG (eN E) i).f ≠ v) ∧ MapH w' X.mb c f ∧ f (x : Int) 1 = some (v : Int) ∧ Upd F w w' ∧ ∀ z, z ∈ F' → z ∈ F ∨ w.heap.size ≤ z := by
 obtain ⟨R, A, q, c, hc, f, sl, hM, hJ, hS⟩ := h
 cases hm : minN A 1 with
 | none =>
  have hno := hS.none hm
  refine (pext_err hM.pq 1 (by omega) hm).mono fun e w' ⟨h1, h2⟩ => Or.inl ⟨?_, hno, ?_⟩
  ·rw [h1]; unfold pminE; rw [hS.has, hm]; rfl
  ·obtain ⟨F', a1, a2, a3⟩ := hM.store h2
   exact ⟨F', ⟨R, A, q, c, hc, f, sl, a1, hJ, hS⟩, a2, a3⟩
 | some x =>
  obtain ⟨v, hW, hx, hk, hmin, hf, hg, hv⟩ := hS.min hm
  have hvN := hJ.wN v hW
  have hxl := AR.v_lt hv
  have hxn := hS.ok.n
  refine (pext_some hM.pq 1 hm).mono fun e w' ⟨h1, h2⟩ => Or.inr ⟨v, x, ?_, hvN.1, hvN.2, by omega, hW, ?_⟩
  ·rw [h1, hg, hk]; rfl
  ·obtain ⟨F', a1, a2, a3⟩ := hM.store h2
   have hS2 := hS.take hW
   rw [hx] at hS2
   exact ⟨F', c, f, ⟨_, _, q, c, hc, f, sl, a1, dj_take hJ hW hmin, hS2⟩, a1.map, hf, a2, a3⟩
theorem take_no (h : St K X kd dd E s N m w F d bt S W (fun _ => True)) (hN : N ≤ 65536) (hno : ∀ v, ¬ W v) :
  Calls Tryz.prog 41 #[.pointer (some ⟨X.p, 0, none⟩), .int .i64 1] w fun e w' => e = .returned (.tuple #[.agg #[.int .i64 0, .int .u32 0], .int .i64 0, .int .i64 172]) ∧ ∃ F', St K X kd dd E s N m w' F' d bt S W (fun _ => True) ∧ Upd F w w' ∧ ∀ z, z ∈ F' → z ∈ F ∨ w.heap.size ≤ z :=
 (take_step h hN).mono fun e w' hh => by
  rcases hh with ⟨h1, _, h2⟩ | ⟨v, x, _, _, _, _, hW, _⟩
  ·exact ⟨h1, h2⟩
  ·exact (hno v hW).elim
theorem take_yes (h : St K X kd dd E s N m w F d bt S W (fun _ => True)) (hN : N ≤ 65536) (hex : ∃ v, W v) :
  Calls Tryz.prog 41 #[.pointer (some ⟨X.p, 0, none⟩), .int .i64 1] w fun e w' => ∃ v x : Nat, e = .returned (.tuple #[.agg #[.int .i64 (x : Int), .int .u32 1], .int .i64 (d v : Int), .int .i64 0]) ∧ v < N ∧ v ∉ S ∧ x < 65536 ∧ ∃ F' c f, St K X kd dd E s N m w' F' d bt (v :: S) (fun u => W u ∧ u ≠ v) (fun i => (edG (eN E) i).f ≠ v) ∧ MapH w' X.mb c f ∧ f (x : Int) 1 = some (v : Int) ∧ Upd F w w' ∧ ∀ z, z ∈ F' → z ∈ F ∨ w.heap.size ≤ z :=
 (take_step h hN).mono fun e w' hh => by
  rcases hh with ⟨_, hno, _⟩ | ⟨v, x, h1, h2, h3, h4, _, h5⟩
  ·obtain ⟨v, hv⟩ := hex; exact (hno v hv).elim
  ·exact ⟨v, x, h1, h2, h3, h4, h5⟩
theorem St.cells (h : St K X kd dd E s N m w F d bt S W R) : w.cell? ⟨X.b, 0, none⟩ = some (.slice (some ⟨X.gd, 0, none⟩) N X.cd) ∧ w.cell? ⟨X.b, 1, none⟩ = some (.slice (some ⟨X.gb, 0, none⟩) N X.cb) ∧ w.cell? ⟨X.b, 2, none⟩ = some (.pointer (some ⟨X.p, 0, none⟩)) ∧ w.cell? ⟨X.b, 4, none⟩ = some (.map (some X.mb)) := by
 obtain ⟨_, _, _, _, _, _, _, hM, _⟩ := h
 exact ⟨hM.c0, hM.c1, hM.c2, hM.c4⟩
theorem St.upd0 {w' : World} (h : St K X kd dd E s N m w F d bt S W R) (hu : Upd [] w w') : St K X kd dd E s N m w' F d bt S W R := by
 obtain ⟨R', A, q, c, hc, f, sl, hM, hJ, hS⟩ := h
 exact ⟨R', A, q, c, hc, f, sl, hM.upd0 hu, hJ, hS⟩
theorem St.tree (h : St K X kd dd E s N m w F d bt S W (fun _ => True)) (g : GOk (eN E) s N m) (hno : ∀ v, ¬ W v) {T : List Nat} (hT1 : X.gd ∉ T) (hT2 : X.gb ∉ T) : SlI w T (.slice (some ⟨X.gd, 0, none⟩) N X.cd) (rowN N d) ∧ SlI w T (.slice (some ⟨X.gb, 0, none⟩) N X.cb) (rowZ N bt) ∧ TreeA (eN E) N s (passes (eN E) s N) (rowN N d) (rowZ N bt) := by
 obtain ⟨R', A, q, c, hc, f, sl, hM, hJ, hS⟩ := h
 have hP := dj_end g.src g hJ hno
 have hT := (prov_tree g (fun v _ => hJ.rx.le v)).1 hP
 have o1 := hM.dist.own
 have o2 := hM.by'.own
 rw [rowN_len] at o1
 rw [rowZ_len] at o2
 refine ⟨(SlI.of_row o1 (by simp)).off hT1, (SlI.of_row o2 (by simp)).off hT2, rowN_len _ _, rowZ_len _ _, fun v hv => ?_⟩
 obtain ⟨a1, a2, a3⟩ := hT v hv
 refine ⟨by rw [rowN_get hv, a1], fun h => by rw [rowZ_get hv]; exact a2 h, fun h => ?_⟩
 have key : ∀ k x, x < N → chainOk (eN E) bt (passes (eN E) s N) s k x = true → chainOk (eN E) (fun x => (rowZ N bt).getD x 0) (passes (eN E) s N) s k x = true := by
  intro k
  induction k with
  | zero => intro x _ h; exact h
  | succ k ih =>
   intro x hx h
   by_cases e : x = s
   ·rw [e]; exact chain_src _
   ·rw [chain_step e] at h ⊢
    simp only [Bool.and_eq_true] at h ⊢
    have e1 : (rowZ N bt).getD x 0 = bt x := rowZ_get hx
    have e2 : parN (eN E) (fun x => (rowZ N bt).getD x 0) x = parN (eN E) bt x := by unfold parN; simp only [e1]
    have e3 : stepOk (eN E) (fun x => (rowZ N bt).getD x 0) (passes (eN E) s N) x = stepOk (eN E) bt (passes (eN E) s N) x := by unfold stepOk; simp only [e2, e1]
    rw [e2, e3]
    exact ⟨h.1, ih _ (step_par g h.1) h.2⟩
 exact key N v hv (a3 h)
end
end Go.Proofs.YtklibcncmbofpaaGreat
