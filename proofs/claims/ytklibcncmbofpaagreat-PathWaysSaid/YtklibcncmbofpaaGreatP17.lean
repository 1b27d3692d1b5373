/-
  Lemmas for PathWays: Sk3, Lf13, Cells3, Lf14. Conditions: those of each lemma.
-/
import Derived.Test.YtklibcncmbofpaaGreatProg
import Derived.WalkKit
import Derived.WalkSpells
import Derived.WalkLawsBesides
import Derived.BigQuiet
import Derived.Deep.RegionHeld3
import Derived.ProofKit
import Derived.OpenShut
import Derived.Lib.Hide
import Derived.Maps.AppendAt
import Derived.StillTailTactics
import Derived.Maps.OwnSet
import Derived.Maps.OwnOps
import Derived.Maps.RangeWalk
import Derived.IntWalk
import Derived.Deep.RegionLaw
import Derived.Test.YtklibcncmbofpaaGreatP01
import Derived.Test.YtklibcncmbofpaaGreatP03
import Derived.Test.YtklibcncmbofpaaGreatP04
import Derived.Test.YtklibcncmbofpaaGreatP05
import Derived.Test.YtklibcncmbofpaaGreatP06
import Derived.Test.YtklibcncmbofpaaGreatP07
import Derived.Test.YtklibcncmbofpaaGreatP13
import Derived.Test.YtklibcncmbofpaaGreatP14
import Derived.Test.YtklibcncmbofpaaGreatP15
import Derived.Test.YtklibcncmbofpaaGreatP16
set_option linter.unusedVariables false
set_option linter.unusedSimpArgs false
namespace Go.Proofs.YtklibcncmbofpaaGreat
open Go Go.RowKit
def topF (A : NS) (tr : Nat → BT) (q : Int) : Option Int := if 1 ≤ q ∧ q < A.hs.length then (if (tr q.toNat).root = -1 then none else some (tr q.toNat).root) else none
def topsL (A : NS) (tr : Nat → BT) : List Int := (List.range A.hs.length).map fun h => (tr h).root
theorem TrG.retop {K : HpK} {A : NS} {S : TS} {tops : List Int} {tr : Nat → BT} (h : TrG K A S tops tr) : TrG K A S (topsL A tr) tr :=
 ⟨fun q hq => by unfold topsL; simp [List.getD_eq_getElem?_getD, hq], h.isT, h.mem, h.nd, h.heap, h.free⟩
def SkAt (w : World) (B : SB) (F : List Nat) (A : NS) (st : Nat) (tr : Nat → BT) : Prop := ∃ S, SkM w B F A st S (topF A tr) ∧ TrI A S (topsL A tr) tr
theorem topF_nat (A : NS) (tr : Nat → BT) (q : Nat) (h : 1 ≤ q ∧ q < A.hs.length) : oneZ (topF A tr (q : Int)) = (tr q).root := by
 unfold topF oneZ
 rw [if_pos (by omega), Int.toNat_natCast]
 split
 ·rename_i e; rw [e]; rfl
 ·rfl
theorem SkM.ext {w : World} {B : SB} {F : List Nat} {A : NS} {st : Nat} {S : TS} {f g : Int → Option Int} (h : SkM w B F A st S f) (e : ∀ k, f k = g k) : SkM w B F A st S g := ⟨h.head, h.cells, h.trees, h.top.ext e, h.sepF, h.sep⟩
theorem topF_set {A A' : NS} {tr : Nat → BT} {q : Nat} {t : BT} (hl : A'.hs.length = A.hs.length) (hq : 1 ≤ q ∧ q < A.hs.length) (k : Int) : (if k = (q : Int) then (if t.root = -1 then none else some t.root) else topF A tr k) = topF A' (fun y => if y = q then t else tr y) k := by
 by_cases e : k = (q : Int)
 ·subst e
  have e1 : topF A' (fun y => if y = q then t else tr y) (q : Int) = (if t.root = -1 then none else some t.root) := by
   unfold topF
   rw [hl, if_pos (show 1 ≤ (q : Int) ∧ (q : Int) < A.hs.length by omega)]
   have : (fun y => if y = q then t else tr y) (q : Int).toNat = t := by simp
   rw [this]
  rw [e1, if_pos rfl]
 ·have e1 : topF A' (fun y => if y = q then t else tr y) k = topF A tr k := by
   unfold topF
   rw [hl]
   by_cases h : 1 ≤ k ∧ k < A.hs.length
   ·rw [if_pos h, if_pos h]
    have : (fun y => if y = q then t else tr y) k.toNat = tr k.toNat := by
     show (if k.toNat = q then t else tr k.toNat) = _
     rw [if_neg (by omega)]
    rw [this]
   ·rw [if_neg h, if_neg h]
  rw [e1, if_neg e]
theorem root_le {A : NS} {S : TS} {tops : List Int} {tr : Nat → BT} (h : TrI A S tops tr) (hA : A.cs.length ≤ 65536) {t : BT} (ht : ∀ y, y ∈ t.nodes → y < A.cs.length) : -1 ≤ t.root ∧ t.root ≤ 9223372036854775807 := by
 refine ⟨root_ge t, ?_⟩
 by_cases e : t = .nil
 ·rw [e]; show (-1 : Int) ≤ _; omega
 ·have h1 := root_mem e
  have h2 := ht _ h1.1
  omega
section
variable {w : World} {B : SB} {F : List Nat} {A : NS} {st : Nat} {tr : Nat → BT}
theorem SkAt.upd {w' : World} {G : List Nat} (h : SkAt w B F A st tr) (hu : Upd G w w') (hG : ∀ x, x ∈ G → x ∉ B.blk F) : SkAt w' B F A st tr := by
 obtain ⟨S, hM, hI⟩ := h
 exact ⟨S, hM.upd hu hG, hI⟩
theorem SkAt.upd0 {w' : World} (h : SkAt w B F A st tr) (hu : Upd [] w w') : SkAt w' B F A st tr := h.upd hu (by simp)
set_option maxHeartbeats 8000000 in
theorem sinsert_yes (h : SkAt w B F A st tr) (hh x : Nat) (k s : Int) (hk : -9223372036854775808 ≤ k ∧ k ≤ 9223372036854775807 ∧ 0 ≤ s ∧ s ≤ 18446744073709551615) (hB : putB A hh x = true) :
  Calls Tryz.prog 263 #[.pointer (some ⟨B.n0, 0, none⟩), .int .i64 (hh : Int), .int .i64 (x : Int), .agg #[.int .i64 k, .int .u64 s]] w fun e w' => e = .returned (.bool true) ∧ Upd (B.blk F) w w' ∧
   SkAt w' B F (putN A hh x k s) (satS st (mergeT upS (putN A hh x k s) (tr hh) (single x)).2) (fun q => if q = hh then (mergeT upS (putN A hh x k s) (tr hh) (single x)).1 else tr q) := by
 obtain ⟨S, hM, hI⟩ := h
 have hlt := hM.lt
 have ok := hM.cells.ok
 obtain ⟨b1, b2, b3⟩ := (putB_iff _ _ _).1 hB
 have b4 := (hasN_iff _ _).1 b1
 have hx : x < A.cs.length := by have := (slotN_iff _ _).1 b2; omega
 have h0x : (A.c x).i = 0 := by
  have := (ok.nat x hx).1
  have h3 : ¬ (0 < (A.c x).i) := fun h' => by rw [(inN_nat A x).2 ⟨hx, h'⟩] at b3; cases b3
  omega
 have hcs : (putN A hh x k s).cs.length = A.cs.length := by unfold putN; rw [if_pos hB, len_with]
 have hhs : (putN A hh x k s).hs.length = A.hs.length := by unfold putN; rw [if_pos hB]; rfl
 have hcx : ∀ y, (putN A hh x k s).c y = if y = x then ⟨hh, k, s⟩ else A.c y := fun y => by
  unfold putN; rw [if_pos hB, Int.toNat_natCast, c_with]
  by_cases e : y = x
  ·rw [if_pos ⟨e, hx⟩, if_pos e]
  ·rw [if_neg (fun h => e h.1), if_neg e]
 have hxn : x ∉ (tr hh).nodes := hI.out h0x
 have hX : ((tr hh).nodes ++ (single x).nodes).Nodup := by
  rw [List.nodup_append]
  refine ⟨hI.nd hh, by simp [single, BT.nodes], fun a ha b hb e => ?_⟩
  simp only [single, BT.nodes, List.append_nil, List.mem_singleton] at hb
  exact hxn (by rw [← hb, ← e]; exact ha)
 have hin : ∀ y, y ∈ (tr hh).nodes ++ (single x).nodes → inN (putN A hh x k s) (y : Int) = true := fun y hy => by
  rw [inN_nat, hcs, hcx]
  simp only [single, BT.nodes, List.append_nil, List.mem_append, List.mem_singleton] at hy
  by_cases e : y = x
  ·rw [if_pos e, e]; exact ⟨hx, by show (0 : Int) < (hh : Int); omega⟩
  ·rw [if_neg e]
   have := (hI.mem hh y).1 (hy.resolve_right e)
   exact ⟨this.2.1, by omega⟩
 have hHx : Heap (putN A hh x k s) (tr hh) := (hI.heap hh).frame (fun y hy => by rw [hcx, if_neg (fun e => hxn (by rw [← e]; exact hy))])
 obtain ⟨mp, mh⟩ := merge_ok upS_ok (putN A hh x k s) _ (tr hh) (single x) (Nat.le_refl _)
 have mh' := mh hHx ⟨by simp [BT.nodes], by simp [BT.nodes], trivial, trivial⟩ hX
 have hfr := hI.free x hx h0x
 have hTh := hI.isT hh
 have hq : 1 ≤ hh ∧ hh < A.hs.length := by omega
 have hb65 := ok.h1
 have hmr := root_le hI ok.c1 (t := (mergeT upS (putN A hh x k s) (tr hh) (single x)).1) (fun y hy => by
  have h1 := mp.mem_iff.1 hy
  have := (inN_nat _ y).1 (hin y h1)
  rw [hcs] at this; exact this.1)
 have hfst := topF_nat A tr hh hq
 have FI : Hid (∀ (W : World) (S' : TS) (st' : Nat), SkM W B F (putN A hh x k s) st' S' (fun y => if y = (hh : Int) then (if (mergeT upS (putN A hh x k s) (tr hh) (single x)).1.root = -1 then none else some (mergeT upS (putN A hh x k s) (tr hh) (single x)).1.root) else topF A tr y) → IsT S' (-1) (mergeT upS (putN A hh x k s) (tr hh) (single x)).1.root (mergeT upS (putN A hh x k s) (tr hh) (single x)).1 →
   (∀ y, y ∉ (tr hh).nodes ++ (single x).nodes → S.at S' y) → SkAt W B F (putN A hh x k s) st' (fun q => if q = hh then (mergeT upS (putN A hh x k s) (tr hh) (single x)).1 else tr q)) := fun W S' st' a1 a2 a4 =>
  ⟨S', a1.ext (topF_set hhs hq), (hI.put ok (by simp [topsL]) hB a2 mp mh' (fun y hy => a4 y hy)).retop⟩
 have u1 : Upd [] w (w.alloc (.cells #[.int .i64 k, .int .u64 s] 129)) := (Upd.refl _ _).alloc _
 have kp := fun W (hW : Upd [] (w.alloc (.cells #[.int .i64 k, .int .u64 s] 129)) W) => cput_yes (hM.cells.upd0 (u1.trans hW)) hh x k s hk hB
 have h0 := hM.h0
 have hbF : B.n0 ∉ F := hM.sepF.1
 have hsz : w.heap.size ∉ F := fun hm => by have := hlt w.heap.size (by simp [SB.blk, hm]); omega
 have r0 : ∀ W, Upd F (w.alloc (.cells #[.int .i64 k, .int .u64 s] 129)) W → W.cell? ⟨B.n0, 0, none⟩ = some (.pointer (some ⟨B.c, 0, none⟩)) := fun W hW => hW.kept (u1.was h0) hbF
 have r1 : ∀ W, Upd F (w.alloc (.cells #[.int .i64 k, .int .u64 s] 129)) W → W.cell? ⟨w.heap.size, 0, none⟩ = some (.int .i64 k) := fun W h => h.kept (by simp) hsz
 have r2 : ∀ W, Upd F (w.alloc (.cells #[.int .i64 k, .int .u64 s] 129)) W → W.cell? ⟨w.heap.size, 1, none⟩ = some (.int .u64 s) := fun W h => h.kept (by simp) hsz
 have HM := Lib.hid hM
 have HH := Lib.hid (And.intro hX (And.intro hin (And.intro hTh hfr)))
 have hcF := hM.cF
 clear hM hI ok b1 b2 b3 h0x hcx hxn hX hin hHx mp mh mh' hfr h0 hlt hTh
 generalize hA' : putN A hh x k s = A' at *
 generalize htr : tr hh = th at *
 go_enter Tryz.func263, Tryz.ntmps263
 go_wp2
 go_region_held3 (Upd F (w.alloc (.cells #[.int .i64 k, .int .u64 s] 129))) (repeat (first | assumption | exact Upd.refl _ _ | refine Upd.drew ?_ | refine Upd.alloc ?_ _ | refine Upd.setCell ?_ ?_ _ | focus (left; simp; done) | focus (right; simp; done) | focus (right; simp; omega) | (apply Upd.trans; rotate_left; assumption)))
  ((go_at_call 154; (with_reducible refine (kp _ (by (repeat (first | assumption | exact Upd.refl _ _ | refine Upd.alloc ?_ _ | refine Upd.drew ?_ | refine Upd.drewN ?_ _ | refine Upd.setCell ?_ ?_ _ | focus (left; simp; done) | focus (right; simp; done) | focus (right; simp; omega))))).mono ?_); rintro e w1 ⟨rfl, hC1, hu1⟩; (have hu2 : Upd F (w.alloc (.cells #[.int .i64 k, .int .u64 s] 129)) w1 := by (repeat (first | assumption | exact Upd.refl _ _ | refine Upd.drew ?_ | refine Upd.alloc ?_ _ | refine Upd.setCell ?_ ?_ _ | focus (left; simp; done) | focus (right; simp; done) | focus (right; simp; omega) | (apply Upd.trans; rotate_left; assumption))))))
 have uF : Upd F w (w.alloc (.cells #[.int .i64 k, .int .u64 s] 129)) := u1.mono (by simp)
 have hM1 := HM.out.setC (uF.trans hu2) hC1 (fun y hy => Or.inl hy) hcs
 have hw1 : Upd F w w1 := uF.trans hu2
 have k1 := sfirst_any hM1 (hh : Int) (by omega)
 rw [hfst] at k1
 have km := smerge_any hM1 HH.out.2.2.1 (single_isT HH.out.2.2.2) HH.out.1 HH.out.2.1
 rw [show (single x).root = (x : Int) from rfl] at km
 clear r0 r1 r2 kp hu1 hu2 hC1 uF hM1
 go_wp2_with (first
  | (go_at_call 268; (with_reducible refine (k1).mono ?_); rintro e w9 ⟨rfl, hw9⟩; rw [hw9]; clear hw9 w9)
  | ((go_at_call 267; (with_reducible refine (km).mono ?_)); rintro e w2 ⟨rfl, hu2, S2, hM2, hT2, hs2⟩; (have kc := scrown_any hM2 hh _ (by omega) hmr))
  | ((go_at_call 266; (with_reducible refine (kc).mono ?_)); rintro e w3 ⟨rfl, hu3, hM3⟩)
  | fail)
 go_ret
 refine ⟨rfl, ((hw1.mono (fun y hy => by simp only [SB.blk, List.mem_cons]; simp [hy])).trans (hu2.mono (fun y hy => ?_))).trans (hu3.mono (by simp [SB.blk])), FI.out _ S2 _ hM3 hT2 hs2⟩
 simp only [List.mem_cons, List.not_mem_nil, or_false] at hy
 simp only [SB.blk, List.mem_cons]
 rcases hy with rfl | rfl
 ·simp [hcF]
 ·simp
theorem smin_none (h : SkAt w B F A st tr) (x : Int) (hx : -9223372036854775808 ≤ x ∧ x ≤ 9223372036854775807) (hn : lenN A x = 0) :
  Calls Tryz.prog 265 #[.pointer (some ⟨B.n0, 0, none⟩), .int .i64 x] w fun e w' => e = .returned (.tuple #[.int .i64 0, .bool false]) ∧ w' = w := by
 obtain ⟨S, hM, hI⟩ := h
 have hr : oneZ (topF A tr x) = -1 := by
  unfold topF
  split
  ·rename_i hq
   have : (tr x.toNat) = .nil := by
    cases e : tr x.toNat with
    | nil => rfl
    | node y a b =>
     have := (hI.mem x.toNat y).1 (by rw [e]; simp [BT.nodes])
     have : 0 < lenN A x := lenN_pos.2 ⟨y, this.2.1, by show (A.c y).i = x; omega, by omega⟩
     omega
   rw [this]; rfl
  ·rfl
 have k := sfirst_any hM x hx
 rw [hr] at k
 clear hM hI
 go_enter Tryz.func265, Tryz.ntmps265
 go_wp2_with (first | (go_at_call 268; (with_reducible refine (k).mono ?_); rintro e w9 ⟨rfl, hw9⟩; rw [hw9]; clear hw9 w9) | fail)
 go_ret2
 exact ⟨rfl, rfl⟩
theorem smin_some (h : SkAt w B F A st tr) (g : Nat) (hn : 0 < lenN A g) :
  Calls Tryz.prog 265 #[.pointer (some ⟨B.n0, 0, none⟩), .int .i64 (g : Int)] w fun e w' => ∃ m : Nat, minN A g = some m ∧ (tr g).root = m ∧ e = .returned (.tuple #[.int .i64 (m : Int), .bool true]) ∧ w' = w := by
 obtain ⟨S, hM, hI⟩ := h
 obtain ⟨m, hm1, hm2⟩ := hI.first hn
 have hin := (minN_in hm2)
 have hq := (hasN_iff _ _).1 (inN_has hM.cells.ok hin.2.2.2)
 rw [Int.toNat_natCast, hin.2.2.1] at hq
 have hb := hM.cells.ok.h1
 have k := sfirst_any hM (g : Int) (by omega)
 rw [topF_nat A tr g (by omega), hm1] at k
 have hb1 : ((m : Int) == -1) = false := by simp
 clear hM hI
 go_enter Tryz.func265, Tryz.ntmps265
 go_wp2_with (first | (go_at_call 268; (with_reducible refine (k).mono ?_); rintro e w9 ⟨rfl, hw9⟩; rw [hw9]; clear hw9 w9) | fail)
 go_ret2
 exact ⟨m, hm2, hm1, rfl, rfl⟩
end
end Go.Proofs.YtklibcncmbofpaaGreat
namespace Go.Proofs.YtklibcncmbofpaaGreat
open Go Go.RowKit
theorem plug_parts {P : List Fr} {x : Nat} {l r : BT} (hn : (plug P (.node x l r)).nodes.Nodup) :
  (x ∉ l.nodes ∧ x ∉ r.nodes ∧ x ∉ ctxN P) ∧ (l.nodes ++ r.nodes).Nodup ∧ (∀ y, y ∈ l.nodes → y ∉ ctxN P) ∧ (∀ y, y ∈ r.nodes → y ∉ ctxN P) ∧ (ctxN P).Nodup := by
 have h := (plug_nodes P (.node x l r)).nodup_iff.1 hn
 rw [List.nodup_append] at h
 obtain ⟨h1, h2, h3⟩ := h
 simp only [BT.nodes, List.nodup_cons, List.mem_append, not_or] at h1
 exact ⟨⟨h1.1.1, h1.1.2, fun hm => h3 x (by simp [BT.nodes]) x hm rfl⟩, h1.2, fun y hy hm => h3 y (by simp [BT.nodes, hy]) y hm rfl, fun y hy hm => h3 y (by simp [BT.nodes, hy]) y hm rfl, h2⟩
theorem del_tree {up : Nat → BT → BT → BT} (U : UpOk up) {A : NS} {P : List Fr} {x : Nat} {l r : BT} (hn : (plug P (.node x l r)).nodes.Nodup) (hH : Heap A (plug P (.node x l r))) :
  (x :: (plug P (mergeT up A l r).1).nodes).Perm (plug P (.node x l r)).nodes ∧ Heap A (plug P (mergeT up A l r).1) ∧ (mergeT up A l r).1.nodes.Perm (l.nodes ++ r.nodes) := by
 obtain ⟨mp, mh⟩ := merge_ok U A _ l r (Nat.le_refl _)
 have h1 := plug_parts hn
 have hs := heap_sub hH
 have mh' := mh hs.2.2.1 hs.2.2.2 h1.2.1
 refine ⟨?_, heap_plug hH mh' (fun y hy => ?_), mp⟩
 ·refine ((((plug_nodes P _).trans (mp.append_right _)).cons x)).trans ?_
  exact (plug_nodes P (.node x l r)).symm
 ·have := mp.mem_iff.1 hy
  simp only [BT.nodes, List.mem_cons]; exact Or.inr this
end Go.Proofs.YtklibcncmbofpaaGreat
namespace Go.Proofs.YtklibcncmbofpaaGreat
open Go Go.RowKit
theorem manyF_drop {A : NS} {x : Nat} (hx : x < A.cs.length) (hz : 0 < (A.c x).i) (q : Int) :
  (if q = (A.c x).i then (if (lenN A (A.c x).i : Int) - 1 = 0 then none else some ((lenN A (A.c x).i : Int) - 1)) else manyF A q) = manyF (withN A x Cl.z) q := by
 have := lenN_with A x Cl.z q hx
 have hp : 0 < lenN A (A.c x).i := lenN_pos.2 ⟨x, hx, rfl, hz⟩
 unfold manyF
 by_cases e : q = (A.c x).i
 ·subst e
  rw [if_pos rfl]
  rw [if_pos ⟨rfl, hz⟩, if_neg (show ¬ (Cl.z.i = (A.c x).i ∧ 0 < (A.c x).i) from fun h => by have : (0 : Int) = (A.c x).i := h.1; omega)] at this
  by_cases h1 : lenN A (A.c x).i = 1
  ·rw [if_pos (by omega), if_neg (by omega)]
  ·rw [if_neg (by omega), if_pos (by omega)]
   congr 1; omega
 ·rw [if_neg e]
  rw [if_neg (fun h => e h.1.symm), if_neg (show ¬ (Cl.z.i = q ∧ 0 < q) from fun h => by have : (0 : Int) = q := h.1; omega)] at this
  simp only [Nat.add_zero] at this
  rw [this]
set_option maxHeartbeats 4000000 in
theorem cdrop_yes {w : World} {c st : Nat} {F : List Nat} {A : NS} (h : CellsAt w c F A st) (x : Nat) (hx : inN A x = true) :
  Calls Tryz.prog 151 #[.pointer (some ⟨c, 0, none⟩), .int .i64 (x : Int)] w fun e w' => e = .returned (.bool true) ∧ CellsAt w' c F (dropN A x) st ∧ Upd F w w' := by
 have k := chome_yes h x hx
 obtain ⟨hx1, hx2⟩ := (inN_nat _ _).1 hx
 have hrng := h.ok.nat x hx1
 have hA1 := h.ok.h1
 have hA2 := h.ok.c1
 obtain ⟨hh, hhe⟩ : ∃ r : Nat, (A.c x).i = r := ⟨(A.c x).i.toNat, by omega⟩
 have hp : 0 < lenN A (hh : Int) := lenN_pos.2 ⟨x, hx1, hhe, by omega⟩
 have hlen := lenN_le h.ok (hh : Int)
 have hM := fun q => manyF_drop hx1 hx2 q
 have ok' := dropN_ok h.ok x
 have e : dropN A (x : Int) = withN A x Cl.z := by unfold dropN; rw [if_pos hx]; simp
 rw [hhe] at k hM hrng
 have HE := Lib.hid e
 have HM := Lib.hid hM
 have hh1 : 1 ≤ hh := by omega
 have HO := Lib.hid ok'
 obtain ⟨len, hle⟩ : ∃ n, n = A.cs.length := ⟨_, rfl⟩
 have HL := Lib.hid hle
 clear h hx hM ok' e hle hx2 hhe
 have hx1 : x < len := by have := HL.out; omega
 obtain ⟨m, hm⟩ : ∃ m : Int, m = (lenN A (hh : Int) : Int) := ⟨_, rfl⟩
 rw [← hm] at HM
 have HZ := Lib.hid hm
 have hm1 : 0 < m := by omega
 have hm2 : m ≤ 65536 := by omega
 clear hm hp hlen
 go_enter Tryz.func151, Tryz.ntmps151
 go_wp2_with fail
 refine k.mono ?_
 rintro e w1 ⟨rfl, hC, hu⟩
 have hsz := hu.size
 have hlt := hC.lt
 obtain ⟨ca, nm, mb, g, cap, l, rt, dp, raw, h, rfl⟩ := hC
 have c1 := h.c1
 have c3 := h.c3
 rw [← HL.out] at c1
 have d0 := h.row.cell (x * 3) (by rw [← HL.out]; omega)
 have d1 := h.row.cell (x * 3 + 1) (by rw [← HL.out]; omega)
 have d2 := h.row.cell (x * 3 + 2) (by rw [← HL.out]; omega)
 have f0 := h.row.free (x * 3)
 have f1 := h.row.free (x * 3 + 1)
 have f2 := h.row.free (x * 3 + 2)
 have l1 := hlt c (by simp)
 have l2 := hlt ca (by simp)
 have l3 := hlt mb (by simp)
 have hs := h.sep
 have H := Lib.hid h
 have HU := Lib.hid hu
 clear h hlt k hu
 have fin : ∀ (w2 : World), MapI w2 mb (manyF (withN A x Cl.z)) → Upd [mb] (((w1.setCell ⟨ca, x * 3, none⟩ (.int .i64 0)).setCell ⟨ca, x * 3 + 1, none⟩ (.int .i64 0)).setCell ⟨ca, x * 3 + 2, none⟩ (.int .u64 0)) w2 →
   CellsAt w2 c [c, ca, nm, mb, g] (dropN A x) st ∧ Upd [c, ca, nm, mb, g] w w2 := fun w2 hm2 hu2 => by
  have hu3 : Upd [ca] w1 (((w1.setCell ⟨ca, x * 3, none⟩ (.int .i64 0)).setCell ⟨ca, x * 3 + 1, none⟩ (.int .i64 0)).setCell ⟨ca, x * 3 + 2, none⟩ (.int .u64 0)) := by (repeat (first | assumption | exact Upd.refl _ _ | refine Upd.alloc ?_ _ | refine Upd.drew ?_ | refine Upd.drewN ?_ _ | refine Upd.setCell ?_ ?_ _ | focus (left; simp; done) | focus (right; simp; done) | focus (right; simp; omega)))
  have hr3 := (row3 (i := x) H.out.row Cl.z).upd hu2 (by first | (simp; done) | (simp; omega))
  have hu4 : Upd [ca, mb] w1 w2 := (hu3.mono (by first | (simp; done) | (simp; omega))).joined hu2 (fun y hy => Or.inl (by simp at hy; simp [hy]))
  refine ⟨⟨ca, nm, mb, g, cap, l, rt, dp, fun y => if y = x then Cl.z else raw y, ?_, rfl⟩, HU.out.trans (hu4.mono (by first | (simp; done) | (simp; omega)))⟩
  have ok' := HO.out
  rw [HE.out] at ok' ⊢
  exact H.out.turn hu4 hr3 hm2 ok' (len_with _ _ _) rfl (rel_with H.out.rel (by rw [← HL.out]; exact hx1) (Or.inl ⟨rfl, rfl⟩))
 have FIN := Lib.hid fin
 clear fin
 by_cases h1 : m = 1
 ·have hb : (m - 1 == 0) = true := by simp; omega
  have H1 := Lib.hid h1
  clear h1
  go_wp2_with (first
   | (at_lookup; refine wpList_mlook (o := ⟨some 27, _, _, _, _, _⟩) (by rfl) _ _ (by rfl) mb (manyF A) (by rfl) (H.out.many.upd (S := [ca]) (by (repeat (first | assumption | exact Upd.refl _ _ | refine Upd.alloc ?_ _ | refine Upd.drew ?_ | refine Upd.drewN ?_ _ | refine Upd.setCell ?_ ?_ _ | focus (left; simp; done) | focus (right; simp; done) | focus (right; simp; omega)))) (by first | (simp; done) | (simp; omega))) (hh : Int) (by rfl) (by omega) m ((manyF_get _ _).trans HZ.out.symm) ?_)
   | (at_lookup; refine wpList_mlook (o := ⟨some 34, _, _, _, _, _⟩) (by rfl) _ _ (by rfl) mb _ (by rfl) hm2 (hh : Int) (by rfl) (by omega) (m - 1) (by simp) ?_)
   | (at_mapUpdate; refine wpList_mput rfl _ _ _ rfl mb (manyF A) rfl (H.out.many.upd (S := [ca]) (by (repeat (first | assumption | exact Upd.refl _ _ | refine Upd.alloc ?_ _ | refine Upd.drew ?_ | refine Upd.drewN ?_ _ | refine Upd.setCell ?_ ?_ _ | focus (left; simp; done) | focus (right; simp; done) | focus (right; simp; omega)))) (by first | (simp; done) | (simp; omega))) (hh : Int) (m - 1) rfl rfl (by omega) (by omega) ?_; intro w2 hm2 hu2; (have q1 := hu2.cell (p := ⟨c, 3, none⟩) (by simp; exact l1) (by first | (simp; done) | (simp; omega))))
   | (at_delete; refine wpList_mdel rfl _ _ rfl mb _ rfl hm2 (hh : Int) rfl (by omega) ?_; intro w3 hm3 hu3))
  go_ret
  have hm4 : MapI w3 mb (manyF (withN A x Cl.z)) := MapI.ext hm3 (fun q => by
   rw [← HM.out q]
   by_cases e : q = (hh : Int)
   ·rw [if_pos e, if_pos e, if_pos (by have := H1.out; omega)]
   ·rw [if_neg e, if_neg e, if_neg e])
  exact ⟨rfl, FIN.out w3 hm4 (hu2.trans hu3)⟩
 ·have hb : (m - 1 == 0) = false := by simp; omega
  have H1 := Lib.hid h1
  clear h1
  go_wp2_with (first
   | (at_lookup; refine wpList_mlook (o := ⟨some 27, _, _, _, _, _⟩) (by rfl) _ _ (by rfl) mb (manyF A) (by rfl) (H.out.many.upd (S := [ca]) (by (repeat (first | assumption | exact Upd.refl _ _ | refine Upd.alloc ?_ _ | refine Upd.drew ?_ | refine Upd.drewN ?_ _ | refine Upd.setCell ?_ ?_ _ | focus (left; simp; done) | focus (right; simp; done) | focus (right; simp; omega)))) (by first | (simp; done) | (simp; omega))) (hh : Int) (by rfl) (by omega) m ((manyF_get _ _).trans HZ.out.symm) ?_)
   | (at_lookup; refine wpList_mlook (o := ⟨some 34, _, _, _, _, _⟩) (by rfl) _ _ (by rfl) mb _ (by rfl) hm2 (hh : Int) (by rfl) (by omega) (m - 1) (by simp) ?_)
   | (at_mapUpdate; refine wpList_mput rfl _ _ _ rfl mb (manyF A) rfl (H.out.many.upd (S := [ca]) (by (repeat (first | assumption | exact Upd.refl _ _ | refine Upd.alloc ?_ _ | refine Upd.drew ?_ | refine Upd.drewN ?_ _ | refine Upd.setCell ?_ ?_ _ | focus (left; simp; done) | focus (right; simp; done) | focus (right; simp; omega)))) (by first | (simp; done) | (simp; omega))) (hh : Int) (m - 1) rfl rfl (by omega) (by omega) ?_; intro w2 hm2 hu2; (have q1 := hu2.cell (p := ⟨c, 3, none⟩) (by simp; exact l1) (by first | (simp; done) | (simp; omega)))))
  go_ret
  have hm4 : MapI w2 mb (manyF (withN A x Cl.z)) := MapI.ext hm2 (fun q => by
   rw [← HM.out q]
   by_cases e : q = (hh : Int)
   ·rw [if_pos e, if_pos e, if_neg (by have := H1.out; omega)]
   ·rw [if_neg e, if_neg e])
  exact ⟨rfl, FIN.out w2 hm4 hu2⟩
end Go.Proofs.YtklibcncmbofpaaGreat
namespace Go.Proofs.YtklibcncmbofpaaGreat
open Go Go.RowKit
theorem tv_nat (n : Nat) : tv (n : Int) = n := by unfold tv; rw [if_neg (by omega)]
theorem tb_nat (n : Nat) : tb (n : Int) = true := by unfold tb; simp
section
variable {w : World} {B : LB} {F : List Nat} {gt ct : Nat} {A : NS} {st : Nat} {tr : Nat → BT} {S : TS} {rk : Nat → Nat} {tops : List Int}
theorem at_trans {S S' S'' : TS} {x : Nat} (h : S.at S' x) (h' : S'.at S'' x) : S.at S'' x := ⟨h'.1.trans h.1, h'.2.1.trans h.2.1, h'.2.2.trans h.2.2⟩
end
end Go.Proofs.YtklibcncmbofpaaGreat
