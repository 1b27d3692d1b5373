/-
  Lemmas for RankNames: Lf6, Lf7, Lf8, Lf9, Bt4, Bt5, Lf13, Cells3. Conditions: those of each lemma.
-/
import Derived.Deep.RegionLaw
import Derived.IntWalk
import Derived.WalkKit
import Derived.WalkSpells
import Derived.WalkLawsBesides
import Derived.BigQuiet
import Derived.Deep.RegionHeld3
import Derived.ProofKit
import Derived.OpenShut
import Derived.Lib.Hide
import Derived.Test.YtklibcncmbofpaaGreatProg
import Derived.Maps.AppendAt
import Derived.StillTailTactics
import Derived.Maps.OwnSet
import Derived.Maps.OwnOps
import Derived.Maps.RangeWalk
import Derived.Test.YtklibcncmbofpaaGreatP01
import Derived.Test.YtklibcncmbofpaaGreatP02
import Derived.Test.YtklibcncmbofpaaGreatP03
import Derived.Test.YtklibcncmbofpaaGreatP05
import Derived.Test.YtklibcncmbofpaaGreatP06
import Derived.Test.YtklibcncmbofpaaGreatP07
set_option linter.unusedVariables false
set_option linter.unusedSimpArgs false
namespace Go.Proofs.YtklibcncmbofpaaGreat
open Go Go.RowKit
def LfAt (w : World) (B : LB) (F : List Nat) (gt ct : Nat) (A : NS) (st : Nat) (tr : Nat → BT) : Prop :=
 ∃ S rk tops, LfM w B F gt ct A st S rk tops ∧ TrI A S tops tr ∧ (∀ h, Lean (tr h)) ∧ (∀ h, RkOk rk (tr h))
theorem LfAt.upd {w w' : World} {B : LB} {F : List Nat} {gt ct : Nat} {A : NS} {st : Nat} {tr : Nat → BT} {G : List Nat} (h : LfAt w B F gt ct A st tr) (hu : Upd G w w') (hG : ∀ x, x ∈ G → x ∉ B.blk F gt) : LfAt w' B F gt ct A st tr := by
 obtain ⟨S, rk, tops, hM, h1, h2, h3⟩ := h
 exact ⟨S, rk, tops, hM.upd hu hG, h1, h2, h3⟩
theorem LfAt.upd0 {w w' : World} {B : LB} {F : List Nat} {gt ct : Nat} {A : NS} {st : Nat} {tr : Nat → BT} (h : LfAt w B F gt ct A st tr) (hu : Upd [] w w') : LfAt w' B F gt ct A st tr := h.upd hu (by simp)
section
variable {w : World} {B : LB} {F : List Nat} {gt ct : Nat} {A : NS} {st : Nat} {tr : Nat → BT}
set_option maxHeartbeats 8000000 in
theorem linsert_yes (h : LfAt w B F gt ct A st tr) (hh x : Nat) (k s : Int) (hk : -9223372036854775808 ≤ k ∧ k ≤ 9223372036854775807 ∧ 0 ≤ s ∧ s ≤ 18446744073709551615) (hB : putB A hh x = true) :
  Calls Tryz.prog 240 #[.pointer (some ⟨B.n0, 0, none⟩), .int .i64 (hh : Int), .int .i64 (x : Int), .agg #[.int .i64 k, .int .u64 s]] w fun e w' => e = .returned (.bool true) ∧ Upd (B.blk F gt) w w' ∧
   LfAt w' B F gt ct (putN A hh x k s) (satS st (mergeT settleT (putN A hh x k s) (tr hh) (single x)).2) (fun q => if q = hh then (mergeT settleT (putN A hh x k s) (tr hh) (single x)).1 else tr q) := by
 obtain ⟨S, rk, tops, hM, hI, hL, hR⟩ := h
 have hlt := hM.lt
 have ok := hM.cells.ok
 have ok' := putN_ok ok hh x k s hk
 obtain ⟨b1, b2, b3⟩ := (putB_iff _ _ _).1 hB
 have b4 := (hasN_iff _ _).1 b1
 have hx : x < A.cs.length := by have := (slotN_iff _ _).1 b2; omega
 have h0x : (A.c x).i = 0 := by
  have := (ok.nat x hx).1
  have h3 : ¬ (0 < (A.c x).i) := fun h' => by rw [(inN_nat A x).2 ⟨hx, h'⟩] at b3; cases b3
  omega
 have hcs : (putN A hh x k s).cs.length = A.cs.length := by unfold putN; rw [if_pos hB, len_with]
 have hhs : (putN A hh x k s).hs.length = A.hs.length := by unfold putN; rw [if_pos hB]; rfl
 have hcx : ∀ y, (putN A hh x k s).c y = if y = x then ⟨hh, k, s⟩ else A.c y := fun y => by
  unfold putN; rw [if_pos hB, Int.toNat_natCast, c_with]
  by_cases e : y = x
  ·rw [if_pos ⟨e, hx⟩, if_pos e]
  ·rw [if_neg (fun h => e h.1), if_neg e]
 have hxn : x ∉ (tr hh).nodes := hI.out h0x
 have hX : ((tr hh).nodes ++ (single x).nodes).Nodup := by
  rw [List.nodup_append]
  refine ⟨hI.nd hh, by simp [single, BT.nodes], fun a ha b hb e => ?_⟩
  simp only [single, BT.nodes, List.append_nil, List.mem_singleton] at hb
  exact hxn (by rw [← hb, ← e]; exact ha)
 have hin : ∀ y, y ∈ (tr hh).nodes ++ (single x).nodes → inN (putN A hh x k s) (y : Int) = true := fun y hy => by
  rw [inN_nat, hcs, hcx]
  simp only [single, BT.nodes, List.append_nil, List.mem_append, List.mem_singleton] at hy
  by_cases e : y = x
  ·rw [if_pos e, e]; exact ⟨hx, by show (0 : Int) < (hh : Int); omega⟩
  ·rw [if_neg e]
   have := (hI.mem hh y).1 (hy.resolve_right e)
   exact ⟨this.2.1, by omega⟩
 have hHx : Heap (putN A hh x k s) (tr hh) := (hI.heap hh).frame (fun y hy => by rw [hcx, if_neg (fun e => hxn (by rw [← e]; exact hy))])
 obtain ⟨mp, mh⟩ := merge_ok settle_ok (putN A hh x k s) _ (tr hh) (single x) (Nat.le_refl _)
 have mh' := mh hHx ⟨by simp [BT.nodes], by simp [BT.nodes], trivial, trivial⟩ hX
 have ml := merge_lean (putN A hh x k s) _ (tr hh) (single x) (Nat.le_refl _) (hL hh) ⟨Nat.le_refl _, trivial, trivial⟩
 have hfr := hI.free x hx h0x
 have FI : Hid (∀ (W : World) (S' : TS) (rk' : Nat → Nat) (st' : Nat), LfM W B F gt ct (putN A hh x k s) st' S' rk' (tops.set hh (mergeT settleT (putN A hh x k s) (tr hh) (single x)).1.root) → IsT S' (-1) (mergeT settleT (putN A hh x k s) (tr hh) (single x)).1.root (mergeT settleT (putN A hh x k s) (tr hh) (single x)).1 → RkOk rk' (mergeT settleT (putN A hh x k s) (tr hh) (single x)).1 →
   (∀ y, y ∉ (tr hh).nodes ++ (single x).nodes → S.at S' y ∧ rk' y = rk y) → LfAt W B F gt ct (putN A hh x k s) st' (fun q => if q = hh then (mergeT settleT (putN A hh x k s) (tr hh) (single x)).1 else tr q)) := fun W S' rk' st' a1 a2 a3 a4 => by
  refine ⟨S', rk', _, a1, hI.put ok hM.topn hB a2 mp mh' (fun y hy => (a4 y hy).1), fun q => ?_, fun q => ?_⟩
  ·show Lean (if q = hh then _ else _)
   split
   ·exact ml
   ·exact hL q
  ·show RkOk rk' (if q = hh then _ else _)
   split
   ·exact a3
   ·rename_i hq
    refine (hR q).frame (fun y hy => (a4 y (fun hm => ?_)).2)
    simp only [single, BT.nodes, List.append_nil, List.mem_append, List.mem_singleton] at hm
    rcases hm with hm | hm
    ·have c1 := (hI.mem hh y).1 hm
     have c2 := (hI.mem q y).1 hy
     omega
    ·exact hI.out (g := q) h0x (by rw [← hm]; exact hy)
 have hTh := hI.isT hh
 have hRh := hR hh
 have htop := hI.top hh (by omega)
 have hgn : hh < tops.length := by rw [hM.topn]; omega
 have u1 : Upd [] w (w.alloc (.cells #[.int .i64 k, .int .u64 s] 129)) := (Upd.refl _ _).alloc _
 have kp := fun W (hW : Upd [] (w.alloc (.cells #[.int .i64 k, .int .u64 s] 129)) W) => cput_yes (hM.cells.upd0 (u1.trans hW)) hh x k s hk hB
 have h0 := hM.h0
 have hbF : B.n0 ∉ F := hM.sepF.1
 have hsz : w.heap.size ∉ F := fun hm => by have := hlt w.heap.size (by simp [LB.blk, hm]); omega
 have r0 : ∀ W, Upd F (w.alloc (.cells #[.int .i64 k, .int .u64 s] 129)) W → W.cell? ⟨B.n0, 0, none⟩ = some (.pointer (some ⟨B.c, 0, none⟩)) := fun W hW => hW.kept (u1.was h0) hbF
 have r1 : ∀ W, Upd F (w.alloc (.cells #[.int .i64 k, .int .u64 s] 129)) W → W.cell? ⟨w.heap.size, 0, none⟩ = some (.int .i64 k) := fun W h => h.kept (by simp) hsz
 have r2 : ∀ W, Upd F (w.alloc (.cells #[.int .i64 k, .int .u64 s] 129)) W → W.cell? ⟨w.heap.size, 1, none⟩ = some (.int .u64 s) := fun W h => h.kept (by simp) hsz
 have HM := Lib.hid hM
 have HH := Lib.hid (And.intro hX (And.intro hin (And.intro hTh (And.intro hRh hfr))))
 have HLT := Lib.hid hlt
 have HSE := Lib.hid (And.intro hM.sep hM.sepF)
 have hA := ok.c1
 have hAh := ok.h1
 have HXN := Lib.hid hxn
 clear hM hI hL hR ok ok' b1 b2 b3 h0x hcx hxn hX hin hHx mp mh mh' ml hfr h0 hlt hTh hRh
 generalize hA' : putN A hh x k s = A' at *
 generalize htr : tr hh = th at *
 go_enter Tryz.func240, Tryz.ntmps240
 go_wp2
 go_region_held3 (Upd F (w.alloc (.cells #[.int .i64 k, .int .u64 s] 129))) (repeat (first | assumption | exact Upd.refl _ _ | refine Upd.drew ?_ | refine Upd.alloc ?_ _ | refine Upd.setCell ?_ ?_ _ | focus (left; simp; done) | focus (right; simp; done) | focus (right; simp; omega) | (apply Upd.trans; rotate_left; assumption)))
  ((go_at_call 154; (with_reducible refine (kp _ (by (repeat (first | assumption | exact Upd.refl _ _ | refine Upd.alloc ?_ _ | refine Upd.drew ?_ | refine Upd.drewN ?_ _ | refine Upd.setCell ?_ ?_ _ | focus (left; simp; done) | focus (right; simp; done) | focus (right; simp; omega))))).mono ?_); rintro e w1 ⟨rfl, hC1, hu1⟩; (have hu2 : Upd F (w.alloc (.cells #[.int .i64 k, .int .u64 s] 129)) w1 := by (repeat (first | assumption | exact Upd.refl _ _ | refine Upd.drew ?_ | refine Upd.alloc ?_ _ | refine Upd.setCell ?_ ?_ _ | focus (left; simp; done) | focus (right; simp; done) | focus (right; simp; omega) | (apply Upd.trans; rotate_left; assumption))))))
 have uF : Upd F w (w.alloc (.cells #[.int .i64 k, .int .u64 s] 129)) := u1.mono (by simp)
 have hM1 := HM.out.setC (uF.trans hu2) hC1 (fun y hy => Or.inl hy) hcs hhs
 have h2 := hM1.h2
 have dR := hM1.ranks.cell x (by rw [hcs]; exact hx)
 have fR := hM1.ranks.free x
 have hw1 : Upd F w w1 := uF.trans hu2
 have HM1 := Lib.hid hM1
 clear r0 r1 r2 kp hu1 hu2 hC1 hM1 uF
 rw [hcs] at h2
 go_wp2
 obtain ⟨w2, hw2⟩ : ∃ w2, w2 = w1.setCell ⟨B.br, x, none⟩ (.int .i64 1) := ⟨_, rfl⟩
 have u2 : Upd [B.br] w1 w2 := by rw [hw2]; (repeat (first | assumption | exact Upd.refl _ _ | refine Upd.alloc ?_ _ | refine Upd.drew ?_ | refine Upd.drewN ?_ _ | refine Upd.setCell ?_ ?_ _ | focus (left; simp; done) | focus (right; simp; done) | focus (right; simp; omega)))
 have hM2 : LfM w2 B F gt ct A' st S (fun y => if y = x then 1 else rk y) tops := by rw [hw2]; exact HM1.out.setR x 1
 rw [← hw2]
 clear hw2 HM1 h2 dR fR
 have km := fun W (hW : Upd [] w2 W) => lmerge_any (hM2.upd0 hW) HH.out.2.2.1 (single_isT HH.out.2.2.2.2) HH.out.1 HH.out.2.1 (HH.out.2.2.2.1.frame (fun y hy => if_neg (fun e => HXN.out (by rw [← e]; exact hy)))) ⟨by simp [BT.rank], trivial, trivial⟩
 rw [show (single x).root = (x : Int) from rfl] at km
 have d4 := hM2.topI.cell hh hgn
 rw [htop] at d4
 have f4 := hM2.topI.free hh
 have h3 := hM2.h3
 have hg := hM2.lt gt (by simp [LB.blk])
 have HM2 := Lib.hid hM2
 have hn0g : B.n0 ∉ [B.c, B.ba, B.br, gt] := by
  have a1 := HSE.out
  have a2 : B.n0 ≠ B.c := fun e => a1.2.1 (by rw [e]; exact HM.out.cF)
  simp; omega
 have hgc : gt ∉ [B.c, B.ba, B.br] := by
  have a1 := HSE.out
  have a2 : gt ≠ B.c := fun e => a1.2.2.2.2.2 (by rw [e]; exact HM.out.cF)
  simp; omega
 have r3 : ∀ W, Upd [B.c, B.ba, B.br, gt] w2 W → W.cell? ⟨B.n0, 3, none⟩ = some (.slice (some ⟨gt, 0, none⟩) tops.length ct) := fun W hW => hW.kept h3 hn0g
 have r4 : ∀ W, Upd [B.c, B.ba, B.br] w2 W → W.cell? ⟨gt, hh, none⟩ = some (.int .i64 th.root) ∧ W.frozen? ⟨gt, hh, none⟩ = false := fun W hW => ⟨hW.kept d4 hgc, hW.keptF d4 hgc f4⟩
 have hib1 : (0 : Int) ≤ (hh : Int) := by omega
 have hib2 : (hh : Int) < (tops.length : Int) := by omega
 have MG : Hid (mergeT settleT A' th (single x) = mergeT settleT A' th (single x)) := rfl
 generalize hmt : (mergeT settleT A' th (single x)).1 = mt at *
 generalize hmk : (mergeT settleT A' th (single x)).2 = mk at *
 clear hM2 f4 h3 MG
 have q3 := r3 _ (Upd.refl _ _)
 have q4 := (r4 _ (Upd.refl _ _)).1
 go_region_law
  (first
   | (go_simp; go_at_call 246; (with_reducible refine (km _ (by (repeat (first | assumption | exact Upd.refl _ _ | refine Upd.alloc ?_ _ | refine Upd.drew ?_ | refine Upd.drewN ?_ _ | refine Upd.setCell ?_ ?_ _ | focus (left; simp; done) | focus (right; simp; done) | focus (right; simp; omega))))).mono ?_); rintro e w5 ⟨rfl, hu5a, S5, rk5, hM5, hT5, hr5, hs5⟩; (have hu5 : Upd [B.c, B.ba, B.br] w2 w5 := Upd.trans (by (repeat (first | assumption | exact Upd.refl _ _ | refine Upd.alloc ?_ _ | refine Upd.drew ?_ | refine Upd.drewN ?_ _ | refine Upd.setCell ?_ ?_ _ | focus (left; simp; done) | focus (right; simp; done) | focus (right; simp; omega)))) hu5a); (have hu6 : Upd [B.c, B.ba, B.br, gt] w2 w5 := hu5.mono (by simp)); obtain ⟨d5, f5⟩ := r4 _ hu5; (have q5 := r3 _ hu6)))
 all_goals
  go_wp2
  go_ret
  have hcF := HM.out.cF
  have v1 : Upd (B.blk F gt) w w1 := hw1.mono (fun y hy => by simp only [LB.blk, List.mem_cons]; simp [hy])
  have v2 : Upd (B.blk F gt) w w2 := v1.trans (u2.mono (fun y hy => by simp at hy; simp [LB.blk, hy]))
  have v3 : Upd (B.blk F gt) w w5 := v2.trans (hu5.mono (fun y hy => by
   simp only [List.mem_cons, List.not_mem_nil, or_false] at hy
   simp only [LB.blk, List.mem_cons]
   rcases hy with rfl | rfl | rfl
   ·simp [hcF]
   ·simp
   ·simp))
  subst hmt hmk
  refine ⟨rfl, v3.setCell (Or.inl (by simp [LB.blk])) _, FI.out _ S5 rk5 _ (hM5.setTop hh _) hT5 hr5 (fun y hy => ⟨(hs5 y hy).1, ?_⟩)⟩
  rw [(hs5 y hy).2, if_neg (fun e => hy (by rw [e]; simp [single, BT.nodes]))]
end
end Go.Proofs.YtklibcncmbofpaaGreat
namespace Go.Proofs.YtklibcncmbofpaaGreat
open Go Go.RowKit
theorem madeInts (n j : Nat) (hj : j < n) : (madeCells #[Value.int .i64 0] (n * 1)).toList.getD j undef = .int .i64 0 := by
 rw [List.getD_eq_getElem?_getD, List.getElem?_eq_getElem (by simp [madeCells]; omega)]
 simp [madeCells, Nat.mod_one]
set_option maxHeartbeats 4000000 in
theorem lnew_yes (n : Nat) (w : World) (h : n ≤ 65536) :
  Calls Tryz.prog 100 #[.int .i64 (n : Int)] w fun e w' => ∃ B F gt, e = .returned (.tuple #[.pointer (some ⟨B.n0, 0, none⟩), .int .i64 0]) ∧ LfAt w' B F gt 1 (NS.new n) 0 (fun _ => .nil) ∧ Upd [] w w' ∧ ∀ x, x ∈ B.blk F gt → w.heap.size ≤ x := by
 go_enter Tryz.func100, Tryz.ntmps100
 go_wp2_with (first
  | ((go_at_call 107; (with_reducible refine (cnew_yes n _ h).mono ?_)); rintro e w1 ⟨c, F, rfl, hC, hu1, hF⟩)
  | ((go_at_call 112; (with_reducible refine (spineNew_yes n _ h).mono ?_)); rintro e w2 ⟨bt, ba, rfl, hT, hu2, hb1, hb2⟩)
  | (at_make; refine wpList_make_row rfl _ 26 rfl 3 (.int .i64 0) 1 8 Tryz.underlying26 intInfo n rfl (by omega) (by unfold maxLen; omega) ?_; intro w3 hr3 hu3))
 go_ret2
 have hcs : (NS.new n).cs.length = n := by simp [NS.new]
 have l1 := hu1.size
 have l2 := hu2.size
 have l3 := hu3.size
 have l4 := hr3.lt
 have l5 := hT.head.lt
 have l6 := hT.row.lt
 have l7 := hC.lt
 have lc := l7 c hC.mem
 have e3 : ((w3.alloc (.cells #[.int .i64 (-1)] 3)).heap.size) = w3.heap.size + 1 := by rw [World.size_alloc]
 have hv : Upd [] w3 (w3.alloc (.cells #[.int .i64 (-1)] 3)) := (Upd.refl _ _).alloc _
 have hw : Upd [] w3 ((w3.alloc (.cells #[.int .i64 (-1)] 3)).alloc (.cells #[.pointer (some ⟨c, 0, none⟩), .pointer (some ⟨bt, 0, none⟩), .slice (some ⟨w2.heap.size, 0, none⟩) n n, .slice (some ⟨w3.heap.size, 0, none⟩) 1 1] 231)) := hv.alloc _
 have hh := rowAt_new (w3.alloc (.cells #[.int .i64 (-1)] 3)) [.pointer (some ⟨c, 0, none⟩), .pointer (some ⟨bt, 0, none⟩), .slice (some ⟨w2.heap.size, 0, none⟩) n n, .slice (some ⟨w3.heap.size, 0, none⟩) 1 1] 231
 rw [e3] at hh
 have hi : IZ (w3.alloc (.cells #[.int .i64 (-1)] 3)) w3.heap.size 1 [-1] := IZ.lit w3 [-1] (by simp)
 have hF' : ∀ x, x ∈ F → x < w1.heap.size := l7
 have hnF : ∀ x, w1.heap.size ≤ x → x ∉ F := fun x hx hm => by have := hF' x hm; omega
 refine ⟨⟨w3.heap.size + 1, c, bt, ba, w2.heap.size⟩, F, w3.heap.size, rfl, ⟨TS.none, fun _ => 0, [-1], ⟨by rw [hcs]; exact hh, ((hC.upd0 hu2).upd0 hu3).upd0 hw, by rw [hcs]; exact (hT.upd hu3 (by simp) (by simp)).upd hw (by simp) (by simp), ?_, hi.upd ((Upd.refl [] _).alloc _) (by simp), rfl, ⟨hnF _ (by first | omega | (simp only; omega)), hnF _ (by first | omega | (simp only; omega)), hnF _ (by first | omega | (simp only; omega)), hnF _ (by first | omega | (simp only; omega)), hnF _ (by first | omega | (simp only; omega))⟩, ⟨⟨by simp only; omega, by simp only; omega, by simp only; omega, by simp only; omega⟩, by simp only; omega, by simp only; omega, by simp only; omega, by simp only; omega, by simp only; omega⟩⟩, trI_new n, fun _ => trivial, fun _ => trivial⟩, ((hu1.trans hu2).trans hu3).trans hw, fun x hx => ?_⟩
 ·rw [hcs]
  have := hr3.upd hw (by simp)
  rw [Nat.mul_one] at this
  refine this.ext (fun j hj => ?_)
  have hz : (Value.int .i64 0).cells = #[.int .i64 0] := rfl
  have e := madeInts n j hj
  rw [Nat.mul_one] at e
  rw [hz, e]; rfl
 ·simp only [LB.blk, List.mem_cons] at hx
  rcases hx with rfl | rfl | rfl | rfl | rfl | hx
  ·omega
  ·omega
  ·omega
  ·omega
  ·omega
  ·exact hF x hx
end Go.Proofs.YtklibcncmbofpaaGreat
namespace Go.Proofs.YtklibcncmbofpaaGreat
open Go Go.RowKit
section
variable {w : World} {B : LB} {F : List Nat} {gt ct : Nat} {A : NS} {st : Nat} {tr : Nat → BT}
set_option maxHeartbeats 4000000 in
theorem lmake_no (h : LfAt w B F gt ct A st tr) (hl : 65536 < A.hs.length) :
  Calls Tryz.prog 241 #[.pointer (some ⟨B.n0, 0, none⟩)] w fun e w' => e = .returned (.int .i64 0) ∧ Goes (B.blk F gt) w w' (fun F' => ∃ F1, F' = B.blk F1 gt ∧ LfAt w' B F1 gt ct A st tr) := by
 obtain ⟨S, rk, tops, hM, hI⟩ := h
 have k := cmake_any hM.cells
 have e1 : makeV A = 0 := by unfold makeV; rw [if_pos hl]
 have e2 : makeN A = A := by unfold makeN; rw [if_pos hl]
 rw [e1, e2] at k
 have h0 := hM.h0
 have HM := Lib.hid hM
 have HI := Lib.hid hI
 clear hM hI e1 e2
 go_enter Tryz.func241, Tryz.ntmps241
 go_wp2_with (first | ((go_at_call 156; (with_reducible refine (k).mono ?_)); rintro e w1 ⟨rfl, F1, hC, hu, hF⟩))
 go_ret
 exact ⟨rfl, B.blk F1 gt, ⟨F1, rfl, S, rk, tops, HM.out.setC hu hC hF rfl rfl, HI.out⟩, hu.mono (fun y hy => by simp [LB.blk, hy]), fun x hx => by
  simp only [LB.blk, List.mem_cons] at hx ⊢
  rcases hx with rfl | rfl | rfl | rfl | rfl | hx
  ·simp
  ·simp
  ·simp
  ·simp
  ·simp
  ·rcases hF x hx with h | h
   ·simp [h]
   ·exact Or.inr h⟩
set_option maxHeartbeats 8000000 in
theorem lmake_yes (h : LfAt w B F gt ct A st tr) (hl : ¬ 65536 < A.hs.length) :
  Calls Tryz.prog 241 #[.pointer (some ⟨B.n0, 0, none⟩)] w fun e w' => e = .returned (.int .i64 (A.hs.length : Int)) ∧ Goes (B.blk F gt) w w' (fun F' => ∃ F1 gt1 ct1, F' = B.blk F1 gt1 ∧ LfAt w' B F1 gt1 ct1 (makeN A) st tr) := by
 obtain ⟨S, rk, tops, hM, hI, hL, hR⟩ := h
 have k := cmake_any hM.cells
 have e1 : makeV A = A.hs.length := by unfold makeV; rw [if_neg hl]
 rw [e1] at k
 have hcs : (makeN A).cs.length = A.cs.length := by unfold makeN; rw [if_neg hl]
 have hhs : (makeN A).hs.length = A.hs.length + 1 := by unfold makeN; rw [if_neg hl]; simp
 have hI2 := hI.make hM.cells.ok hM.topn hl
 have h0 := hM.h0
 have hh0 := hM.cells.ok.h0
 have HTN := Lib.hid hM.topn
 have htb : tops.length ≤ 65536 := by rw [hM.topn]; omega
 have HM := Lib.hid hM
 have HI := Lib.hid (And.intro hI2 (And.intro hL hR))
 clear hM hI hL hR e1 hI2
 go_enter Tryz.func241, Tryz.ntmps241
 go_wp2_with (first
  | ((go_at_call 156; (with_reducible refine (k).mono ?_)); rintro e w1 ⟨rfl, F1, hC, hu, hF⟩; (have d3 := hu.kept HM.out.h3 HM.out.sepF.1); (have f3 := hu.keptF HM.out.h3 HM.out.sepF.1 (HM.out.head.free 3)); (have ho1 := (HM.out.topI.upd hu HM.out.sepF.2.2.2.2).own); (have g0 : B.n0 ≠ gt := HM.out.sep.1.2.2.2); (have gl := (HM.out.topI.upd hu HM.out.sepF.2.2.2.2).lt))
  | ((at_builtin; refine wpList_append_sep rfl _ _ 26 rfl 0 3 (.int .i64 0) 1 8 Tryz.underlying26 intInfo rfl (by decide) _ _ _ rfl (ho1) [.int .i64 (-1)] rfl (by simp [Value.oneCell']) (by first | rfl | (rw [World.size_alloc]; rfl)) (by unfold maxLen; omega) (by omega) ((by omega)) ?_; intro v2 w2 ho2 hu2 hsep2); (have hu2 : Upd [gt] w1 w2 := hu2); obtain ⟨gt1, ct1, ev, hI2, -⟩ := IZ.of_own (l := tops ++ [-1]) (by rw [intsZ_append, List.length_append]; exact ho2) (by simp); rw [List.length_append, List.length_singleton] at ev; subst ev; (have d4 := hu2.kept d3 (by simp; omega)); (have f4 := hu2.keptF d3 (by simp; omega) f3)))
 go_ret
 have hM := HM.out
 have hlt := hM.lt
 have f := hM.sepF
 have q := hM.sep
 have hw3 : Upd [B.n0] w2 (w2.setCell ⟨B.n0, 3, none⟩ (.slice (some ⟨gt1, 0, none⟩) (tops.length + 1) ct1)) := by (repeat (first | assumption | exact Upd.refl _ _ | refine Upd.alloc ?_ _ | refine Upd.drew ?_ | refine Upd.drewN ?_ _ | refine Upd.setCell ?_ ?_ _ | focus (left; simp; done) | focus (right; simp; done) | focus (right; simp; omega)))
 have hg1 : gt1 = gt ∨ w1.heap.size < gt1 := by
  rcases hsep2 with h | h
  ·exact Or.inl (Option.some.inj h)
  ·exact Or.inr (h gt1 rfl)
 have hws := hu.size
 have hC1 := hC.lt
 have l0 := hlt B.n0 (by simp [LB.blk])
 have l1 := hlt B.bt (by simp [LB.blk])
 have l2 := hlt B.ba (by simp [LB.blk])
 have l3 := hlt B.br (by simp [LB.blk])
 have l4 := hlt gt (by simp [LB.blk])
 have hnF : ∀ y, y < w.heap.size → y ∉ F → y ∉ F1 := fun y hy hn hm => by rcases hF y hm with h' | h'; exact hn h'; omega
 have hgF : gt1 ∉ F1 := by
  rcases hg1 with e | e
  ·rw [e]; exact hnF gt l4 f.2.2.2.2
  ·exact fun hm => by have := hC1 gt1 hm; omega
 have hb : w.heap.size ≤ gt1 ∨ gt1 = gt := by omega
 have hhd := ((hM.head.upd hu f.1).upd hu2 (by simp; omega)).set 3 (.slice (some ⟨gt1, 0, none⟩) (tops.length + 1) ct1)
 refine ⟨rfl, B.blk F1 gt1, ⟨F1, gt1, ct1, rfl, S, rk, tops ++ [-1], ⟨?_, ?_, ?_, ?_, hI2.upd hw3 (by simp; omega), ?_, ⟨hnF _ l0 f.1, hnF _ l1 f.2.1, hnF _ l2 f.2.2.1, hnF _ l3 f.2.2.2.1, hgF⟩, ⟨⟨q.1.1, q.1.2.1, q.1.2.2.1, by omega⟩, q.2.1, by omega, q.2.2.2.1, by omega, by omega⟩⟩, HI.out⟩, ?_, fun y hy => ?_⟩
 ·rw [hcs, List.length_append, List.length_singleton]
  refine hhd.ext (fun j hj => ?_)
  rcases (by omega : j = 0 ∨ j = 1 ∨ j = 2 ∨ j = 3) with rfl | rfl | rfl | rfl <;> rfl
 ·exact (hC.upd hu2 (fun y hy => by simp at hy; rw [hy]; exact hnF gt l4 f.2.2.2.2)).upd hw3 (fun y hy => by simp at hy; rw [hy]; exact hnF _ l0 f.1)
 ·rw [hcs]
  exact ((hM.trees.upd hu f.2.1 f.2.2.1).upd hu2 (by simp; omega) (by simp; omega)).upd hw3 (by simp; omega) (by simp; omega)
 ·rw [hcs]
  exact ((hM.ranks.upd hu f.2.2.2.1).upd hu2 (by simp; omega)).upd hw3 (by simp; omega)
 ·rw [List.length_append, List.length_singleton, hhs, HTN.out]
 ·have u1 : Upd (B.blk F gt) w w1 := hu.mono (fun y hy => by simp [LB.blk, hy])
  exact (u1.trans (hu2.mono (fun y hy => by simp at hy; simp [LB.blk, hy]))).trans (hw3.mono (fun y hy => by simp at hy; simp [LB.blk, hy]))
 ·simp only [LB.blk, List.mem_cons] at hy ⊢
  rcases hy with rfl | rfl | rfl | rfl | rfl | hy
  ·simp
  ·simp
  ·simp
  ·simp
  ·rcases hb with h | h
   ·exact Or.inr h
   ·exact Or.inl (by simp [h])
  ·rcases hF y hy with h | h
   ·simp [h]
   ·exact Or.inr h
end
end Go.Proofs.YtklibcncmbofpaaGreat
namespace Go.Proofs.YtklibcncmbofpaaGreat
open Go Go.RowKit
theorem TrG.first {A : NS} {S : TS} {tops : List Int} {tr : Nat → BT} (h : TrI A S tops tr) {g : Nat} (hg : 0 < lenN A g) : ∃ m : Nat, (tr g).root = m ∧ minN A g = some m := by
 obtain ⟨x, hx, hi, h0⟩ := lenN_pos.1 hg
 have hxm : x ∈ (tr g).nodes := (h.mem g x).2 ⟨by omega, hx, hi⟩
 cases ht : tr g with
 | nil => rw [ht] at hxm; cases hxm
 | node m l r =>
  have hm := (h.mem g m).1 (by rw [ht]; simp [BT.nodes])
  have hH := h.heap g
  rw [ht] at hH
  refine ⟨m, rfl, (minN_some h0).2 ⟨hm.2.1, hm.2.2, fun y hy hyi => ?_⟩⟩
  have hym := (h.mem g y).2 ⟨by omega, hy, hyi⟩
  rw [ht] at hym
  simp only [BT.nodes, List.mem_cons, List.mem_append] at hym
  rcases hym with e | e | e
  ·exact Or.inl e
  ·exact Or.inr (hH.1 y e)
  ·exact Or.inr (hH.2.1 y e)
section
variable {w : World} {B : LB} {F : List Nat} {gt ct : Nat} {A : NS} {st : Nat} {tr : Nat → BT}
theorem lmin_none (h : LfAt w B F gt ct A st tr) (x : Int) (hx : -9223372036854775808 ≤ x ∧ x ≤ 9223372036854775807) (hn : lenN A x = 0) :
  Calls Tryz.prog 243 #[.pointer (some ⟨B.n0, 0, none⟩), .int .i64 x] w fun e w' => e = .returned (.tuple #[.int .i64 0, .bool false]) ∧ w' = w := by
 obtain ⟨S, rk, tops, hM, -, -, -⟩ := h
 have k := clen_any hM.cells x hx
 rw [hn] at k
 have h0 := hM.h0
 clear hM hn
 go_enter Tryz.func243, Tryz.ntmps243
 go_wp2_with (first | (go_at_call 142; (with_reducible refine (k).mono ?_); rintro e w9 ⟨rfl, hw9⟩; rw [hw9]; clear hw9 w9))
 go_ret2
 exact ⟨rfl, rfl⟩
set_option maxHeartbeats 1000000 in
theorem lmin_some (h : LfAt w B F gt ct A st tr) (g : Nat) (hn : 0 < lenN A g) :
  Calls Tryz.prog 243 #[.pointer (some ⟨B.n0, 0, none⟩), .int .i64 (g : Int)] w fun e w' => ∃ m : Nat, minN A g = some m ∧ (tr g).root = m ∧ e = .returned (.tuple #[.int .i64 (m : Int), .bool true]) ∧ w' = w := by
 obtain ⟨S, rk, tops, hM, hI, -, -⟩ := h
 obtain ⟨m, hm, hf⟩ := hI.first hn
 obtain ⟨x, hx, hi, h0⟩ := lenN_pos.1 hn
 have ok := hM.cells.ok
 have hgl : g < A.hs.length := by have := (ok.nat x hx).2; omega
 have hAh := ok.h1
 have k := clen_any hM.cells (g : Int) (by omega)
 have hh0 := hM.h0
 have h3 := hM.h3
 have d := hM.topI.cell g (by rw [hM.topn]; exact hgl)
 rw [hI.top g hgl, hm] at d
 have htl : g < tops.length := by rw [hM.topn]; exact hgl
 generalize hl : lenN A (g : Int) = n at *
 have hb : ((n : Int) == 0) = false := by simp; omega
 have HF := Lib.hid (And.intro hf hm)
 clear hM hI hm hf hx hi h0 ok hl
 go_enter Tryz.func243, Tryz.ntmps243
 go_wp2_with (first | (go_at_call 142; (with_reducible refine (k).mono ?_); rintro e w9 ⟨rfl, hw9⟩; rw [hw9]; clear hw9 w9))
 go_ret2
 exact ⟨m, HF.out.1, HF.out.2, rfl, rfl⟩
end
end Go.Proofs.YtklibcncmbofpaaGreat
namespace Go.Proofs.YtklibcncmbofpaaGreat
open Go Go.RowKit
theorem low_heap {A : NS} {x : Nat} {k s : Int} (hB : lowB A x k s = true) (hx : x < A.cs.length) {l r : BT} (h : Heap A (.node x l r)) (hn : (BT.node x l r).nodes.Nodup) : Heap (lowN A x k s) (.node x l r) := by
 simp only [BT.nodes, List.nodup_cons, List.mem_append, not_or] at hn
 have hle := lowB_le hB
 rw [Int.toNat_natCast] at hle
 have hc := low_c hB hx
 have hy : ∀ y, y ≠ x → (lowN A x k s).c y = A.c y := fun y e => by rw [hc, if_neg e]
 have hxx : (lowN A x k s).c x = ⟨(A.c x).i, k, s⟩ := by rw [hc, if_pos rfl]
 refine ⟨fun y m => lt3_lower (h.1 y m) (hy y (fun e => hn.1.1 (by rw [← e]; exact m))) ?_, fun y m => lt3_lower (h.2.1 y m) (hy y (fun e => hn.1.2 (by rw [← e]; exact m))) ?_, h.2.2.1.frame (fun y m => hy y (fun e => hn.1.1 (by rw [← e]; exact m))), h.2.2.2.frame (fun y m => hy y (fun e => hn.1.2 (by rw [← e]; exact m)))⟩
 ·rw [hxx]; exact hle
 ·rw [hxx]; exact hle
theorem TrG.low {K : HpK} {A : NS} {S S' : TS} {tops tops' : List Int} {tr : Nat → BT} (h : TrG K A S tops tr) {g x : Nat} {k s : Int} (hB : lowB A x k s = true) (hx : x ∈ (tr g).nodes) {t' : BT}
  (hT : IsT S' (-1) t'.root t') (hp : t'.nodes.Perm (tr g).nodes) (hH : K.H (lowN A x k s) t') (hs : ∀ y, y ∉ (tr g).nodes → S.at S' y)
  (htp : ∀ q, q < A.hs.length → tops'.getD q 0 = if q = g then t'.root else tops.getD q 0) :
  TrG K (lowN A x k s) S' tops' (fun q => if q = g then t' else tr q) := by
 have hm := (h.mem g x).1 hx
 have hc := low_c hB hm.2.1
 have hi := low_i hB hm.2.1
 refine h.next (low_len _ _ _ _) (fun q => q ≠ g) (fun q hq => ⟨if_neg hq, fun y hy => ?_⟩) (fun q hq y hy hq0 => ?_) (fun q hq => ?_) (fun q hq => ?_) (fun y hy hy0 => ?_)
 ·have hyg : y ∉ (tr g).nodes := fun hm => by
   have a1 := (h.mem g y).1 hm
   have a2 := (h.mem q y).1 hy
   omega
  exact ⟨hs y hyg, by rw [hc, if_neg (fun e => hyg (by rw [e]; exact hx))]⟩
 ·rw [hi]
 ·have hq' : q = g := Classical.not_not.1 hq
  subst hq'
  rw [if_pos rfl]
  refine ⟨hT, hp.nodup_iff.2 (h.nd q), hH, fun y => ?_⟩
  rw [hp.mem_iff, h.mem q y, hi]
 ·rw [low_hs] at hq
  rw [htp q hq]
  by_cases e : q = g
  ·rw [if_pos e, if_pos e]
  ·rw [if_neg e, if_neg e]; exact h.top q hq
 ·rw [hi] at hy0
  have a1 := h.free y hy hy0
  have a2 := hs y (h.out hy0)
  exact ⟨a2.1.trans a1.1, a2.2.1.trans a1.2.1, a2.2.2.trans a1.2.2⟩
theorem TrG.del {K : HpK} {A : NS} {S S' : TS} {tops tops' : List Int} {tr : Nat → BT} (h : TrG K A S tops tr) {g x : Nat} (hx : x ∈ (tr g).nodes) {t' : BT}
  (hT : IsT S' (-1) t'.root t') (hp : (x :: t'.nodes).Perm (tr g).nodes) (hH : K.H A t') (hs : ∀ y, y ∉ (tr g).nodes → S.at S' y) (hf : S'.l x = -1 ∧ S'.r x = -1 ∧ S'.u x = -1)
  (htp : ∀ q, q < A.hs.length → tops'.getD q 0 = if q = g then t'.root else tops.getD q 0) :
  TrG K (dropN A x) S' tops' (fun q => if q = g then t' else tr q) := by
 have hm := (h.mem g x).1 hx
 have hin : inN A (x : Int) = true := (inN_nat A x).2 ⟨hm.2.1, by omega⟩
 have hc := drop_c hin
 have hnd : (x :: t'.nodes).Nodup := hp.nodup_iff.2 (h.nd g)
 have hxt : x ∉ t'.nodes := (List.nodup_cons.1 hnd).1
 refine h.next (drop_len _ _) (fun q => q ≠ g) (fun q hq => ⟨if_neg hq, fun y hy => ?_⟩) (fun q hq y hy hq0 => ?_) (fun q hq => ?_) (fun q hq => ?_) (fun y hy hy0 => ?_)
 ·have hyg : y ∉ (tr g).nodes := fun hm => by
   have a1 := (h.mem g y).1 hm
   have a2 := (h.mem q y).1 hy
   omega
  exact ⟨hs y hyg, by rw [hc, if_neg (fun e => hyg (by rw [e]; exact hx))]⟩
 ·rw [hc]
  by_cases e : y = x
  ·rw [if_pos e, e]
   show (0 : Int) = (q : Int) ↔ _
   omega
  ·rw [if_neg e]
 ·have hq' : q = g := Classical.not_not.1 hq
  subst hq'
  rw [if_pos rfl]
  refine ⟨hT, (List.nodup_cons.1 hnd).2, K.frame hH (fun y hy => by rw [hc, if_neg (fun e => hxt (by rw [← e]; exact hy))]), fun y => ?_⟩
  have e1 := hp.mem_iff (a := y)
  rw [List.mem_cons, h.mem q y] at e1
  rw [hc]
  by_cases e : y = x
  ·rw [if_pos e, e]
   refine ⟨fun hh => absurd hh hxt, fun hh => ?_⟩
   have : (0 : Int) = (q : Int) := hh.2.2
   omega
  ·rw [if_neg e, ← e1]; simp [e]
 ·rw [drop_hs] at hq
  rw [htp q hq]
  by_cases e : q = g
  ·rw [if_pos e, if_pos e]
  ·rw [if_neg e, if_neg e]; exact h.top q hq
 ·rw [hc] at hy0
  by_cases e : y = x
  ·rw [e]; exact hf
  ·rw [if_neg e] at hy0
   have a1 := h.free y hy hy0
   have a2 := hs y (h.out hy0)
   exact ⟨a2.1.trans a1.1, a2.2.1.trans a1.2.1, a2.2.2.trans a1.2.2⟩
instance : Nonempty (List Fr × BT × BT) := ⟨([], .nil, .nil)⟩
noncomputable def pathOf (t : BT) (x : Nat) : List Fr × BT × BT := Classical.epsilon fun q : List Fr × BT × BT => t = plug q.1 (.node x q.2.1 q.2.2)
theorem pathOf_eq {t : BT} {x : Nat} (h : x ∈ t.nodes) : t = plug (pathOf t x).1 (.node x (pathOf t x).2.1 (pathOf t x).2.2) := by
 obtain ⟨P, l, r, e⟩ := find_node h
 unfold pathOf
 exact Classical.epsilon_spec (p := fun q : List Fr × BT × BT => t = plug q.1 (.node x q.2.1 q.2.2)) ⟨(P, l, r), e⟩
end Go.Proofs.YtklibcncmbofpaaGreat
namespace Go.Proofs.YtklibcncmbofpaaGreat
open Go Go.RowKit
theorem plug_ctx_mem {P : List Fr} {t : BT} {y : Nat} : y ∈ (plug P t).nodes ↔ y ∈ t.nodes ∨ y ∈ ctxN P := by
 rw [(plug_nodes P t).mem_iff, List.mem_append]
def cutV (f : Fr) (t : BT) : Int := if t.root = -1 then 0 else (f.1 : Int)
section
variable {w : World} {bt ba n : Nat} {S : TS}
theorem tcut_any (h : TreesAt w bt ba n S) {f : Fr} {P : List Fr} {t : BT} (hT : IsT S (-1) (plug (f :: P) t).root (plug (f :: P) t)) (hn : (plug (f :: P) t).nodes.Nodup) (hlt : ∀ y, y ∈ (plug (f :: P) t).nodes → y < n) :
  Calls Tryz.prog 244 #[.pointer (some ⟨bt, 0, none⟩), .int .i64 t.root] w fun e w' => e = .returned (.tuple #[.int .i64 (cutV f t), .bool (tb t.root)]) ∧ Upd [ba] w w' ∧
   ∃ S', TreesAt w' bt ba n S' ∧ IsT S' (-1) t.root t ∧ IsT S' (-1) (plug (f :: P) .nil).root (plug (f :: P) .nil) ∧ ∀ y, y ∉ (plug (f :: P) t).nodes → S.at S' y := by
 by_cases ht : t = .nil
 ·subst ht
  refine (cut_no bt ba n S (-1) w h (by unfold upOf; simp)).mono ?_
  rintro e w' ⟨rfl, rfl⟩
  exact ⟨by simp [cutV, BT.root, tb], Upd.refl _ _, S, h, rfl, hT, fun y _ => ⟨rfl, rfl, rfl⟩⟩
 ·obtain ⟨c1, c2, c3⟩ := cut_plug hT ht hn
  obtain ⟨m1, m2⟩ := root_mem ht
  have hp := (isT_plug _ _).1 hT
  have hu : S.u t.root.toNat = (f.1 : Int) := by
   cases t with
   | nil => exact absurd rfl ht
   | node y a b => exact hp.1.2.1
  have hf : f.1 < n := hlt _ (plug_ctx_mem.2 (Or.inr (by simp [ctxN])))
  have hr : t.root.toNat < n := hlt _ (plug_ctx_mem.2 (Or.inl m1))
  have hne : t.root ≠ -1 := by omega
  have k := cut_yes bt ba n S f.1 t.root.toNat w h hf hr hu
  rw [← m2] at k
  refine k.mono ?_
  rintro e w' ⟨rfl, h', hu'⟩
  refine ⟨by unfold cutV tb; rw [if_neg hne]; simp [hne], hu', _, h', c1, c2, fun y hy => c3 y (fun e => hy ?_) (fun e => hy ?_)⟩
  ·rw [e]; exact plug_ctx_mem.2 (Or.inr (by simp [ctxN]))
  ·rw [e]; exact plug_ctx_mem.2 (Or.inl m1)
theorem thang_any (h : TreesAt w bt ba n S) {f : Fr} {P : List Fr} {m : BT} (hT : IsT S (-1) (plug (f :: P) .nil).root (plug (f :: P) .nil)) (hM : IsT S (-1) m.root m) (hm : m ≠ .nil) (hn : (m.nodes ++ ctxN (f :: P)).Nodup) (hlt : ∀ y, y ∈ m.nodes ++ ctxN (f :: P) → y < n) :
  Calls Tryz.prog 251 #[.pointer (some ⟨bt, 0, none⟩), .int .i64 (f.1 : Int), .int .i64 m.root, .bool f.2.1] w fun e w' => e = .returned (.bool true) ∧ Upd [ba] w w' ∧
   ∃ S', TreesAt w' bt ba n S' ∧ IsT S' (-1) (plug (f :: P) m).root (plug (f :: P) m) ∧ ∀ y, y ∉ m.nodes ++ ctxN (f :: P) → S.at S' y := by
 obtain ⟨c1, c2⟩ := hang_plug hT hM hm hn
 obtain ⟨m1, m2⟩ := root_mem hm
 have hp := (isT_plug _ _).1 hT
 have hk : S.kid f.2.1 f.1 = -1 := hp.2.1
 have hu : S.u m.root.toNat = -1 := by
  cases m with
  | nil => exact absurd rfl hm
  | node y a b => exact hM.2.1
 have hf : f.1 < n := hlt _ (by simp [ctxN])
 have hr : m.root.toNat < n := hlt _ (by simp [m1])
 have hne : f.1 ≠ m.root.toNat := fun e => by
  rw [List.nodup_append] at hn
  exact hn.2.2 _ m1 f.1 (by simp [ctxN]) e.symm
 have k := hang_yes bt ba n S f.1 m.root.toNat f.2.1 w h hf hr hne hu hk
 rw [← m2] at k
 refine k.mono ?_
 rintro e w' ⟨rfl, h', hu'⟩
 refine ⟨rfl, hu', _, h', c1, fun y hy => c2 y (fun e => hy ?_) (fun e => hy ?_)⟩
 ·rw [e]; simp [ctxN]
 ·rw [e]; simp [m1]
theorem tup_any (h : TreesAt w bt ba n S) {P : List Fr} {x : Nat} {l r : BT} (hT : IsT S (-1) (plug P (.node x l r)).root (plug P (.node x l r))) (hx : x < n) :
  Calls Tryz.prog 250 #[.pointer (some ⟨bt, 0, none⟩), .int .i64 (x : Int)] w fun e w' => e = .returned (.tuple #[.int .i64 (tv (upP P)), .bool (tb (upP P))]) ∧ ∃ k, w' = w.drewN k := by
 have k := up_any bt ba n S (x : Int) w h
 have e : upOf n S (x : Int) = upP P := by
  unfold upOf; rw [if_pos (by omega), Int.toNat_natCast]
  exact ((isT_plug _ _).1 hT).1.2.1
 rw [e] at k
 exact k
theorem tleft_any (h : TreesAt w bt ba n S) {p : Int} {x : Nat} {l r : BT} (hT : IsT S p x (.node x l r)) (hx : x < n) :
  Calls Tryz.prog 248 #[.pointer (some ⟨bt, 0, none⟩), .int .i64 (x : Int)] w fun e w' => e = .returned (.tuple #[.int .i64 (tv l.root), .bool (tb l.root)]) ∧ ∃ k, w' = w.drewN k := by
 have e : kidOf n S (x : Int) false = l.root := by
  unfold kidOf TS.kid; rw [if_pos (by omega)]; simp only [Int.toNat_natCast]
  exact hT.2.2.1.root
 have k := left_any bt ba n S (x : Int) w h
 rw [e] at k
 exact k
theorem tright_any (h : TreesAt w bt ba n S) {p : Int} {x : Nat} {l r : BT} (hT : IsT S p x (.node x l r)) (hx : x < n) :
  Calls Tryz.prog 249 #[.pointer (some ⟨bt, 0, none⟩), .int .i64 (x : Int)] w fun e w' => e = .returned (.tuple #[.int .i64 (tv r.root), .bool (tb r.root)]) ∧ ∃ k, w' = w.drewN k := by
 have e : kidOf n S (x : Int) true = r.root := by
  unfold kidOf TS.kid; rw [if_pos (by omega)]; simp only [if_true, Int.toNat_natCast]
  exact hT.2.2.2.root
 have k := right_any bt ba n S (x : Int) w h
 rw [e] at k
 exact k
theorem tside_any (h : TreesAt w bt ba n S) {f : Fr} {P : List Fr} {x : Nat} {l r : BT} (hT : IsT S (-1) (plug (f :: P) (.node x l r)).root (plug (f :: P) (.node x l r))) (hn : (plug (f :: P) (.node x l r)).nodes.Nodup) (hf : f.1 < n) :
  ∃ z : Int, (z == (x : Int)) = f.2.1 ∧ Calls Tryz.prog 249 #[.pointer (some ⟨bt, 0, none⟩), .int .i64 (f.1 : Int)] w fun e w' => e = .returned (.tuple #[.int .i64 (tv z), .bool (tb z)]) ∧ ∃ k, w' = w.drewN k := by
 refine ⟨S.r f.1, ?_, ?_⟩
 ·have hp := (isT_plug _ _).1 hT
  obtain ⟨q1, q2, _, _⟩ := hp.2
  unfold TS.kid at q1 q2
  cases hs : f.2.1
  ·rw [hs] at q1 q2
   simp only [Bool.not_false, if_true] at q2
   have e2 := q2.root
   have hx : x ∉ f.2.2.nodes := fun hm => by
    have h1 := (plug_nodes (f :: P) (.node x l r)).nodup_iff.1 hn
    rw [List.nodup_append] at h1
    exact h1.2.2 x (by simp [BT.nodes]) x (by simp [ctxN, hm]) rfl
   have : S.r f.1 ≠ (x : Int) := fun e => by
    rw [e2] at e
    by_cases hnil : f.2.2 = .nil
    ·rw [hnil] at e; have e : (-1 : Int) = x := e; omega
    ·have := (root_mem hnil).1
     rw [e] at this
     exact hx this
   simpa using this
  ·rw [hs] at q1
   simp only [if_true] at q1
   rw [q1]; simp [BT.root]
 ·have k := right_any bt ba n S (f.1 : Int) w h
  have e : kidOf n S (f.1 : Int) true = S.r f.1 := by unfold kidOf TS.kid; rw [if_pos (by omega)]; simp
  rw [e] at k
  exact k
end
end Go.Proofs.YtklibcncmbofpaaGreat
namespace Go.Proofs.YtklibcncmbofpaaGreat
open Go Go.RowKit
def fixT : List Fr → BT → BT → BT
 | [], _, m => m
 | f :: P, old, m => if f.2.1 then mendT P (upRank f old.rank) f.1 f.2.2 m else mendT P (upRank f old.rank) f.1 m f.2.2
theorem fixT_cons (f : Fr) (P : List Fr) (old m : BT) : fixT (f :: P) old m = if f.2.1 then mendT P (upRank f old.rank) f.1 f.2.2 m else mendT P (upRank f old.rank) f.1 m f.2.2 := rfl
theorem fix_nodes : ∀ (P : List Fr) (old m : BT), (fixT P old m).nodes.Perm (plug P m).nodes
 | [], _, _ => List.Perm.refl _
 | f :: P, old, m => by
  rw [fixT_cons]
  show List.Perm _ (plug P (plug1 f m)).nodes
  unfold plug1
  split
  ·exact mend_nodes _ _ _ _ _
  ·exact mend_nodes _ _ _ _ _
theorem fix_root (f : Fr) (P : List Fr) (old m : BT) : (fixT (f :: P) old m).root = (plug (f :: P) m).root := by
 rw [fixT_cons]
 show _ = (plug P (plug1 f m)).root
 unfold plug1
 split
 ·exact mend_root _ _ _ _ _
 ·exact mend_root _ _ _ _ _
theorem fix_heap {A : NS} : ∀ (P : List Fr) (old m : BT), Heap A (plug P m) → Heap A (fixT P old m)
 | [], _, _, h => h
 | f :: P, old, m, h => by
  have h1 : Heap A (plug P (plug1 f m)) := h
  rw [fixT_cons]
  unfold plug1 at h1
  split at h1
  ·rename_i e; rw [if_pos e]; exact mend_heap _ _ _ _ _ h1
  ·rename_i e; rw [if_neg e]; exact mend_heap _ _ _ _ _ h1
theorem fix_lean : ∀ (P : List Fr) (old m : BT), Lean m → LeanP P old.rank → Lean (fixT P old m)
 | [], _, _, h, _ => h
 | f :: P, old, m, h, hp => by
  rw [fixT_cons]
  split
  ·exact mend_lean _ _ _ _ _ hp.1 h hp.2.2
  ·exact mend_lean _ _ _ _ _ h hp.1 hp.2.2
noncomputable def ldelT (A : NS) (t : BT) (x : Nat) : BT × Nat :=
 (fixT (pathOf t x).1 (.node x (pathOf t x).2.1 (pathOf t x).2.2) (mergeT settleT A (pathOf t x).2.1 (pathOf t x).2.2).1, (mergeT settleT A (pathOf t x).2.1 (pathOf t x).2.2).2)
noncomputable def llowT (A' : NS) (t : BT) (x : Nat) : BT × Nat :=
 match (pathOf t x).1 with
 | [] => (t, 0)
 | _ :: _ => mergeT settleT A' (fixT (pathOf t x).1 (.node x (pathOf t x).2.1 (pathOf t x).2.2) .nil) (.node x (pathOf t x).2.1 (pathOf t x).2.2)
theorem plug_parts {P : List Fr} {x : Nat} {l r : BT} (hn : (plug P (.node x l r)).nodes.Nodup) :
  (x ∉ l.nodes ∧ x ∉ r.nodes ∧ x ∉ ctxN P) ∧ (l.nodes ++ r.nodes).Nodup ∧ (∀ y, y ∈ l.nodes → y ∉ ctxN P) ∧ (∀ y, y ∈ r.nodes → y ∉ ctxN P) ∧ (ctxN P).Nodup := by
 have h := (plug_nodes P (.node x l r)).nodup_iff.1 hn
 rw [List.nodup_append] at h
 obtain ⟨h1, h2, h3⟩ := h
 simp only [BT.nodes, List.nodup_cons, List.mem_append, not_or] at h1
 exact ⟨⟨h1.1.1, h1.1.2, fun hm => h3 x (by simp [BT.nodes]) x hm rfl⟩, h1.2, fun y hy hm => h3 y (by simp [BT.nodes, hy]) y hm rfl, fun y hy hm => h3 y (by simp [BT.nodes, hy]) y hm rfl, h2⟩
theorem del_tree {up : Nat → BT → BT → BT} (U : UpOk up) {A : NS} {P : List Fr} {x : Nat} {l r : BT} (hn : (plug P (.node x l r)).nodes.Nodup) (hH : Heap A (plug P (.node x l r))) :
  (x :: (plug P (mergeT up A l r).1).nodes).Perm (plug P (.node x l r)).nodes ∧ Heap A (plug P (mergeT up A l r).1) ∧ (mergeT up A l r).1.nodes.Perm (l.nodes ++ r.nodes) := by
 obtain ⟨mp, mh⟩ := merge_ok U A _ l r (Nat.le_refl _)
 have h1 := plug_parts hn
 have hs := heap_sub hH
 have mh' := mh hs.2.2.1 hs.2.2.2 h1.2.1
 refine ⟨?_, heap_plug hH mh' (fun y hy => ?_), mp⟩
 ·refine ((((plug_nodes P _).trans (mp.append_right _)).cons x)).trans ?_
  exact (plug_nodes P (.node x l r)).symm
 ·have := mp.mem_iff.1 hy
  simp only [BT.nodes, List.mem_cons]; exact Or.inr this
section
variable {w : World} {B : LB} {F : List Nat} {gt ct : Nat} {A : NS} {st : Nat} {S : TS} {rk : Nat → Nat} {tops : List Int}
theorem lfix_any (h : LfM w B F gt ct A st S rk tops) {f : Fr} {P : List Fr} {old m : BT} (hT : IsT S (-1) (plug (f :: P) m).root (plug (f :: P) m)) (hm : RkOk rk m) (hP : RkP rk (f :: P) old.rank) (hX : (plug (f :: P) m).nodes.Nodup)
  (hlt : ∀ y, y ∈ (plug (f :: P) m).nodes → y < A.cs.length) :
  Calls Tryz.prog 245 #[.pointer (some ⟨B.n0, 0, none⟩), .int .i64 (f.1 : Int)] w fun e w' => e = .returned (.tuple #[]) ∧ Upd [B.ba, B.br] w w' ∧
   ∃ S' rk', LfM w' B F gt ct A st S' rk' tops ∧ MendEnd S rk (fixT (f :: P) old m) (plug (f :: P) m).nodes S' rk' := by
 rw [fixT_cons]
 have hT1 : IsT S (-1) (plug P (plug1 f m)).root (plug P (plug1 f m)) := hT
 have hX1 : (plug P (plug1 f m)).nodes.Nodup := hX
 have hlt1 : ∀ y, y ∈ (plug P (plug1 f m)).nodes → y < A.cs.length := hlt
 show Calls _ _ _ _ fun e w' => e = _ ∧ _ ∧ ∃ S' rk', _ ∧ MendEnd S rk _ (plug P (plug1 f m)).nodes S' rk'
 by_cases hs : f.2.1 = true
 ·have e1 : plug1 f m = .node f.1 f.2.2 m := by unfold plug1; rw [if_pos hs]
  rw [e1] at hT1 hX1 hlt1 ⊢
  rw [if_pos hs]
  exact lmend_any h ⟨hT1, List.Perm.refl _, hP.1, hm, hP.2.1, hP.2.2, fun y _ => ⟨⟨rfl, rfl, rfl⟩, rfl⟩, rfl⟩ hX1 hlt1
 ·have e1 : plug1 f m = .node f.1 m f.2.2 := by unfold plug1; rw [if_neg hs]
  rw [e1] at hT1 hX1 hlt1 ⊢
  rw [if_neg hs]
  exact lmend_any h ⟨hT1, List.Perm.refl _, hm, hP.1, hP.2.1, hP.2.2, fun y _ => ⟨⟨rfl, rfl, rfl⟩, rfl⟩, rfl⟩ hX1 hlt1
end
end Go.Proofs.YtklibcncmbofpaaGreat
namespace Go.Proofs.YtklibcncmbofpaaGreat
open Go Go.RowKit
theorem manyF_drop {A : NS} {x : Nat} (hx : x < A.cs.length) (hz : 0 < (A.c x).i) (q : Int) :
  (if q = (A.c x).i then (if (lenN A (A.c x).i : Int) - 1 = 0 then none else some ((lenN A (A.c x).i : Int) - 1)) else manyF A q) = manyF (withN A x Cl.z) q := by
 have := lenN_with A x Cl.z q hx
 have hp : 0 < lenN A (A.c x).i := lenN_pos.2 ⟨x, hx, rfl, hz⟩
 unfold manyF
 by_cases e : q = (A.c x).i
 ·subst e
  rw [if_pos rfl]
  rw [if_pos ⟨rfl, hz⟩, if_neg (show ¬ (Cl.z.i = (A.c x).i ∧ 0 < (A.c x).i) from fun h => by have : (0 : Int) = (A.c x).i := h.1; omega)] at this
  by_cases h1 : lenN A (A.c x).i = 1
  ·rw [if_pos (by omega), if_neg (by omega)]
  ·rw [if_neg (by omega), if_pos (by omega)]
   congr 1; omega
 ·rw [if_neg e]
  rw [if_neg (fun h => e h.1.symm), if_neg (show ¬ (Cl.z.i = q ∧ 0 < q) from fun h => by have : (0 : Int) = q := h.1; omega)] at this
  simp only [Nat.add_zero] at this
  rw [this]
set_option maxHeartbeats 4000000 in
theorem cdrop_yes {w : World} {c st : Nat} {F : List Nat} {A : NS} (h : CellsAt w c F A st) (x : Nat) (hx : inN A x = true) :
  Calls Tryz.prog 151 #[.pointer (some ⟨c, 0, none⟩), .int .i64 (x : Int)] w fun e w' => e = .returned (.bool true) ∧ CellsAt w' c F (dropN A x) st ∧ Upd F w w' := by
 have k := chome_yes h x hx
 obtain ⟨hx1, hx2⟩ := (inN_nat _ _).1 hx
 have hrng := h.ok.nat x hx1
 have hA1 := h.ok.h1
 have hA2 := h.ok.c1
 obtain ⟨hh, hhe⟩ : ∃ r : Nat, (A.c x).i = r := ⟨(A.c x).i.toNat, by omega⟩
 have hp : 0 < lenN A (hh : Int) := lenN_pos.2 ⟨x, hx1, hhe, by omega⟩
 have hlen := lenN_le h.ok (hh : Int)
 have hM := fun q => manyF_drop hx1 hx2 q
 have ok' := dropN_ok h.ok x
 have e : dropN A (x : Int) = withN A x Cl.z := by unfold dropN; rw [if_pos hx]; simp
 rw [hhe] at k hM hrng
 have HE := Lib.hid e
 have HM := Lib.hid hM
 have hh1 : 1 ≤ hh := by omega
 have HO := Lib.hid ok'
 obtain ⟨len, hle⟩ : ∃ n, n = A.cs.length := ⟨_, rfl⟩
 have HL := Lib.hid hle
 clear h hx hM ok' e hle hx2 hhe
 have hx1 : x < len := by have := HL.out; omega
 obtain ⟨m, hm⟩ : ∃ m : Int, m = (lenN A (hh : Int) : Int) := ⟨_, rfl⟩
 rw [← hm] at HM
 have HZ := Lib.hid hm
 have hm1 : 0 < m := by omega
 have hm2 : m ≤ 65536 := by omega
 clear hm hp hlen
 go_enter Tryz.func151, Tryz.ntmps151
 go_wp2_with fail
 refine k.mono ?_
 rintro e w1 ⟨rfl, hC, hu⟩
 have hsz := hu.size
 have hlt := hC.lt
 obtain ⟨ca, nm, mb, g, cap, l, rt, dp, raw, h, rfl⟩ := hC
 have c1 := h.c1
 have c3 := h.c3
 rw [← HL.out] at c1
 have d0 := h.row.cell (x * 3) (by rw [← HL.out]; omega)
 have d1 := h.row.cell (x * 3 + 1) (by rw [← HL.out]; omega)
 have d2 := h.row.cell (x * 3 + 2) (by rw [← HL.out]; omega)
 have f0 := h.row.free (x * 3)
 have f1 := h.row.free (x * 3 + 1)
 have f2 := h.row.free (x * 3 + 2)
 have l1 := hlt c (by simp)
 have l2 := hlt ca (by simp)
 have l3 := hlt mb (by simp)
 have hs := h.sep
 have H := Lib.hid h
 have HU := Lib.hid hu
 clear h hlt k hu
 have fin : ∀ (w2 : World), MapI w2 mb (manyF (withN A x Cl.z)) → Upd [mb] (((w1.setCell ⟨ca, x * 3, none⟩ (.int .i64 0)).setCell ⟨ca, x * 3 + 1, none⟩ (.int .i64 0)).setCell ⟨ca, x * 3 + 2, none⟩ (.int .u64 0)) w2 →
   CellsAt w2 c [c, ca, nm, mb, g] (dropN A x) st ∧ Upd [c, ca, nm, mb, g] w w2 := fun w2 hm2 hu2 => by
  have hu3 : Upd [ca] w1 (((w1.setCell ⟨ca, x * 3, none⟩ (.int .i64 0)).setCell ⟨ca, x * 3 + 1, none⟩ (.int .i64 0)).setCell ⟨ca, x * 3 + 2, none⟩ (.int .u64 0)) := by (repeat (first | assumption | exact Upd.refl _ _ | refine Upd.alloc ?_ _ | refine Upd.drew ?_ | refine Upd.drewN ?_ _ | refine Upd.setCell ?_ ?_ _ | focus (left; simp; done) | focus (right; simp; done) | focus (right; simp; omega)))
  have hr3 := (row3 (i := x) H.out.row Cl.z).upd hu2 (by first | (simp; done) | (simp; omega))
  have hu4 : Upd [ca, mb] w1 w2 := (hu3.mono (by first | (simp; done) | (simp; omega))).joined hu2 (fun y hy => Or.inl (by simp at hy; simp [hy]))
  refine ⟨⟨ca, nm, mb, g, cap, l, rt, dp, fun y => if y = x then Cl.z else raw y, ?_, rfl⟩, HU.out.trans (hu4.mono (by first | (simp; done) | (simp; omega)))⟩
  have ok' := HO.out
  rw [HE.out] at ok' ⊢
  exact H.out.turn hu4 hr3 hm2 ok' (len_with _ _ _) rfl (rel_with H.out.rel (by rw [← HL.out]; exact hx1) (Or.inl ⟨rfl, rfl⟩))
 have FIN := Lib.hid fin
 clear fin
 by_cases h1 : m = 1
 ·have hb : (m - 1 == 0) = true := by simp; omega
  have H1 := Lib.hid h1
  clear h1
  go_wp2_with (first
   | (at_lookup; refine wpList_mlook (o := ⟨some 27, _, _, _, _, _⟩) (by rfl) _ _ (by rfl) mb (manyF A) (by rfl) (H.out.many.upd (S := [ca]) (by (repeat (first | assumption | exact Upd.refl _ _ | refine Upd.alloc ?_ _ | refine Upd.drew ?_ | refine Upd.drewN ?_ _ | refine Upd.setCell ?_ ?_ _ | focus (left; simp; done) | focus (right; simp; done) | focus (right; simp; omega)))) (by first | (simp; done) | (simp; omega))) (hh : Int) (by rfl) (by omega) m ((manyF_get _ _).trans HZ.out.symm) ?_)
   | (at_lookup; refine wpList_mlook (o := ⟨some 34, _, _, _, _, _⟩) (by rfl) _ _ (by rfl) mb _ (by rfl) hm2 (hh : Int) (by rfl) (by omega) (m - 1) (by simp) ?_)
   | (at_mapUpdate; refine wpList_mput rfl _ _ _ rfl mb (manyF A) rfl (H.out.many.upd (S := [ca]) (by (repeat (first | assumption | exact Upd.refl _ _ | refine Upd.alloc ?_ _ | refine Upd.drew ?_ | refine Upd.drewN ?_ _ | refine Upd.setCell ?_ ?_ _ | focus (left; simp; done) | focus (right; simp; done) | focus (right; simp; omega)))) (by first | (simp; done) | (simp; omega))) (hh : Int) (m - 1) rfl rfl (by omega) (by omega) ?_; intro w2 hm2 hu2; (have q1 := hu2.cell (p := ⟨c, 3, none⟩) (by simp; exact l1) (by first | (simp; done) | (simp; omega))))
   | (at_delete; refine wpList_mdel rfl _ _ rfl mb _ rfl hm2 (hh : Int) rfl (by omega) ?_; intro w3 hm3 hu3))
  go_ret
  have hm4 : MapI w3 mb (manyF (withN A x Cl.z)) := MapI.ext hm3 (fun q => by
   rw [← HM.out q]
   by_cases e : q = (hh : Int)
   ·rw [if_pos e, if_pos e, if_pos (by have := H1.out; omega)]
   ·rw [if_neg e, if_neg e, if_neg e])
  exact ⟨rfl, FIN.out w3 hm4 (hu2.trans hu3)⟩
 ·have hb : (m - 1 == 0) = false := by simp; omega
  have H1 := Lib.hid h1
  clear h1
  go_wp2_with (first
   | (at_lookup; refine wpList_mlook (o := ⟨some 27, _, _, _, _, _⟩) (by rfl) _ _ (by rfl) mb (manyF A) (by rfl) (H.out.many.upd (S := [ca]) (by (repeat (first | assumption | exact Upd.refl _ _ | refine Upd.alloc ?_ _ | refine Upd.drew ?_ | refine Upd.drewN ?_ _ | refine Upd.setCell ?_ ?_ _ | focus (left; simp; done) | focus (right; simp; done) | focus (right; simp; omega)))) (by first | (simp; done) | (simp; omega))) (hh : Int) (by rfl) (by omega) m ((manyF_get _ _).trans HZ.out.symm) ?_)
   | (at_lookup; refine wpList_mlook (o := ⟨some 34, _, _, _, _, _⟩) (by rfl) _ _ (by rfl) mb _ (by rfl) hm2 (hh : Int) (by rfl) (by omega) (m - 1) (by simp) ?_)
   | (at_mapUpdate; refine wpList_mput rfl _ _ _ rfl mb (manyF A) rfl (H.out.many.upd (S := [ca]) (by (repeat (first | assumption | exact Upd.refl _ _ | refine Upd.alloc ?_ _ | refine Upd.drew ?_ | refine Upd.drewN ?_ _ | refine Upd.setCell ?_ ?_ _ | focus (left; simp; done) | focus (right; simp; done) | focus (right; simp; omega)))) (by first | (simp; done) | (simp; omega))) (hh : Int) (m - 1) rfl rfl (by omega) (by omega) ?_; intro w2 hm2 hu2; (have q1 := hu2.cell (p := ⟨c, 3, none⟩) (by simp; exact l1) (by first | (simp; done) | (simp; omega)))))
  go_ret
  have hm4 : MapI w2 mb (manyF (withN A x Cl.z)) := MapI.ext hm2 (fun q => by
   rw [← HM.out q]
   by_cases e : q = (hh : Int)
   ·rw [if_pos e, if_pos e, if_neg (by have := H1.out; omega)]
   ·rw [if_neg e, if_neg e])
  exact ⟨rfl, FIN.out w2 hm4 hu2⟩
end Go.Proofs.YtklibcncmbofpaaGreat
