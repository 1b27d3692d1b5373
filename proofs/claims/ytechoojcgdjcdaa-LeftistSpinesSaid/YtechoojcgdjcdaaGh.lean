/-
  Leftist heaps: a nest of them; Insert. Conditions: those of each lemma.
-/
import Derived.Test.YtechoojcgdjcdaaGg
import Derived.Test.YtechoojcgdjcdaaGb
import Derived.Test.YtechoojcgdjcdaaGd
import Derived.Deep.RegionLaw
set_option linter.unusedVariables false
set_option linter.unusedSimpArgs false
namespace Go.Proofs.Ytechoojcgdjcdaa
open Go Go.RowKit

/-- The memory of a nest of leftist heaps, its trees told. -/
def LfAt (w : World) (B : LB) (F : List Nat) (gt ct : Nat) (A : NS) (st : Nat) (tr : Nat → BT) : Prop :=
  ∃ S rk tops, LfM w B F gt ct A st S rk tops ∧ TrI A S tops tr ∧ (∀ h, Lean (tr h)) ∧ (∀ h, RkOk rk (tr h))
theorem LfAt.upd {w w' : World} {B : LB} {F : List Nat} {gt ct : Nat} {A : NS} {st : Nat} {tr : Nat → BT} {G : List Nat} (h : LfAt w B F gt ct A st tr) (hu : Upd G w w') (hG : ∀ x, x ∈ G → x ∉ B.blk F gt) : LfAt w' B F gt ct A st tr := by
  obtain ⟨S, rk, tops, hM, h1, h2, h3⟩ := h
  exact ⟨S, rk, tops, hM.upd hu hG, h1, h2, h3⟩
theorem LfAt.upd0 {w w' : World} {B : LB} {F : List Nat} {gt ct : Nat} {A : NS} {st : Nat} {tr : Nat → BT} (h : LfAt w B F gt ct A st tr) (hu : Upd [] w w') : LfAt w' B F gt ct A st tr := h.upd hu (by simp)
section
variable {w : World} {B : LB} {F : List Nat} {gt ct : Nat} {A : NS} {st : Nat} {tr : Nat → BT}
set_option maxHeartbeats 4000000 in
theorem linsert_no (h : LfAt w B F gt ct A st tr) (hh x k s : Int) (hB : putB A hh x = false) :
    Calls Try.prog 40 #[.pointer (some ⟨B.n0, 0, none⟩), .int .i64 hh, .int .i64 x, .agg #[.int .i64 k, .int .u64 s]] w fun e w' => e = .returned (.bool false) ∧ Upd [] w w' := by
  obtain ⟨S, rk, tops, hM, -, -, -⟩ := h
  have u1 : Upd [] w (w.alloc (.cells #[.int .i64 k, .int .u64 s] 59)) := (Upd.refl _ _).alloc _
  have kp := fun W (hW : Upd [] (w.alloc (.cells #[.int .i64 k, .int .u64 s] 59)) W) => cput_no (hM.cells.upd0 (u1.trans hW)) hh x k s hB
  have h0 := hM.h0
  have r0 : ∀ W, Upd [] (w.alloc (.cells #[.int .i64 k, .int .u64 s] 59)) W → W.cell? ⟨B.n0, 0, none⟩ = some (.pointer (some ⟨B.c, 0, none⟩)) := fun W hW => (u1.trans hW).was h0
  have r1 : ∀ W, Upd [] (w.alloc (.cells #[.int .i64 k, .int .u64 s] 59)) W → W.cell? ⟨w.heap.size, 0, none⟩ = some (.int .i64 k) := fun W h => h.was (by simp)
  have r2 : ∀ W, Upd [] (w.alloc (.cells #[.int .i64 k, .int .u64 s] 59)) W → W.cell? ⟨w.heap.size, 1, none⟩ = some (.int .u64 s) := fun W h => h.was (by simp)
  clear hM h0
  go_enter Try.func40, Try.ntmps40
  go_wp2
  go_region_held3 (Upd [] (w.alloc (.cells #[.int .i64 k, .int .u64 s] 59))) (repeat (first | assumption | exact Upd.refl _ _ | refine Upd.drew ?_ | refine Upd.alloc ?_ _ | (apply Upd.trans; rotate_left; assumption)))
    ((go_at_call 61; (with_reducible refine (kp _ (by (repeat (first | assumption | exact Upd.refl _ _ | refine Upd.alloc ?_ _ | refine Upd.drew ?_ | refine Upd.drewN ?_ _ | refine Upd.setCell ?_ ?_ _ | focus (left; simp; done) | focus (right; simp; done) | focus (right; simp; omega))))).mono ?_); rintro e w1 ⟨rfl, hu1⟩; (have hu2 : Upd [] (w.alloc (.cells #[.int .i64 k, .int .u64 s] 59)) w1 := by (repeat (first | assumption | exact Upd.refl _ _ | refine Upd.drew ?_ | refine Upd.alloc ?_ _ | (apply Upd.trans; rotate_left; assumption))))))
  go_wp2
  go_ret
  exact ⟨rfl, u1.trans hu2⟩
set_option maxHeartbeats 8000000 in
theorem linsert_yes (h : LfAt w B F gt ct A st tr) (hh x : Nat) (k s : Int) (hk : -9223372036854775808 ≤ k ∧ k ≤ 9223372036854775807 ∧ 0 ≤ s ∧ s ≤ 18446744073709551615) (hB : putB A hh x = true) :
    Calls Try.prog 40 #[.pointer (some ⟨B.n0, 0, none⟩), .int .i64 (hh : Int), .int .i64 (x : Int), .agg #[.int .i64 k, .int .u64 s]] w fun e w' => e = .returned (.bool true) ∧ Upd (B.blk F gt) w w' ∧
      LfAt w' B F gt ct (putN A hh x k s) (satS st (mergeT settleT (putN A hh x k s) (tr hh) (single x)).2) (fun q => if q = hh then (mergeT settleT (putN A hh x k s) (tr hh) (single x)).1 else tr q) := by
  obtain ⟨S, rk, tops, hM, hI, hL, hR⟩ := h
  have hlt := hM.lt
  have ok := hM.cells.ok
  have ok' := putN_ok ok hh x k s hk
  obtain ⟨b1, b2, b3⟩ := (putB_iff _ _ _).1 hB
  have b4 := (hasN_iff _ _).1 b1
  have hx : x < A.cs.length := by have := (slotN_iff _ _).1 b2; omega
  have h0x : (A.c x).i = 0 := by
    have := (ok.nat x hx).1
    have h3 : ¬ (0 < (A.c x).i) := fun h' => by rw [(inN_nat A x).2 ⟨hx, h'⟩] at b3; cases b3
    omega
  have hcs : (putN A hh x k s).cs.length = A.cs.length := by unfold putN; rw [if_pos hB, len_with]
  have hhs : (putN A hh x k s).hs.length = A.hs.length := by unfold putN; rw [if_pos hB]; rfl
  have hcx : ∀ y, (putN A hh x k s).c y = if y = x then ⟨hh, k, s⟩ else A.c y := fun y => by
    unfold putN; rw [if_pos hB, Int.toNat_natCast, c_with]
    by_cases e : y = x
    · rw [if_pos ⟨e, hx⟩, if_pos e]
    · rw [if_neg (fun h => e h.1), if_neg e]
  have hxn : x ∉ (tr hh).nodes := hI.out h0x
  have hX : ((tr hh).nodes ++ (single x).nodes).Nodup := by
    rw [List.nodup_append]
    refine ⟨hI.nd hh, by simp [single, BT.nodes], fun a ha b hb e => ?_⟩
    simp only [single, BT.nodes, List.append_nil, List.mem_singleton] at hb
    exact hxn (by rw [← hb, ← e]; exact ha)
  have hin : ∀ y, y ∈ (tr hh).nodes ++ (single x).nodes → inN (putN A hh x k s) (y : Int) = true := fun y hy => by
    rw [inN_nat, hcs, hcx]
    simp only [single, BT.nodes, List.append_nil, List.mem_append, List.mem_singleton] at hy
    by_cases e : y = x
    · rw [if_pos e, e]; exact ⟨hx, by show (0 : Int) < (hh : Int); omega⟩
    · rw [if_neg e]
      have := (hI.mem hh y).1 (hy.resolve_right e)
      exact ⟨this.2.1, by omega⟩
  have hHx : Heap (putN A hh x k s) (tr hh) := (hI.heap hh).frame (fun y hy => by rw [hcx, if_neg (fun e => hxn (by rw [← e]; exact hy))])
  obtain ⟨mp, mh⟩ := merge_ok settle_ok (putN A hh x k s) _ (tr hh) (single x) (Nat.le_refl _)
  have mh' := mh hHx ⟨by simp [BT.nodes], by simp [BT.nodes], trivial, trivial⟩ hX
  have ml := merge_lean (putN A hh x k s) _ (tr hh) (single x) (Nat.le_refl _) (hL hh) ⟨Nat.le_refl _, trivial, trivial⟩
  have hfr := hI.free x hx h0x
  have FI : Hid (∀ (W : World) (S' : TS) (rk' : Nat → Nat) (st' : Nat), LfM W B F gt ct (putN A hh x k s) st' S' rk' (tops.set hh (mergeT settleT (putN A hh x k s) (tr hh) (single x)).1.root) → IsT S' (-1) (mergeT settleT (putN A hh x k s) (tr hh) (single x)).1.root (mergeT settleT (putN A hh x k s) (tr hh) (single x)).1 → RkOk rk' (mergeT settleT (putN A hh x k s) (tr hh) (single x)).1 →
      (∀ y, y ∉ (tr hh).nodes ++ (single x).nodes → S.at S' y ∧ rk' y = rk y) → LfAt W B F gt ct (putN A hh x k s) st' (fun q => if q = hh then (mergeT settleT (putN A hh x k s) (tr hh) (single x)).1 else tr q)) := fun W S' rk' st' a1 a2 a3 a4 => by
    refine ⟨S', rk', _, a1, hI.put ok hM.topn hB a2 mp mh' (fun y hy => (a4 y hy).1), fun q => ?_, fun q => ?_⟩
    · show Lean (if q = hh then _ else _)
      split
      · exact ml
      · exact hL q
    · show RkOk rk' (if q = hh then _ else _)
      split
      · exact a3
      · rename_i hq
        refine (hR q).frame (fun y hy => (a4 y (fun hm => ?_)).2)
        simp only [single, BT.nodes, List.append_nil, List.mem_append, List.mem_singleton] at hm
        rcases hm with hm | hm
        · have c1 := (hI.mem hh y).1 hm
          have c2 := (hI.mem q y).1 hy
          omega
        · exact hI.out (g := q) h0x (by rw [← hm]; exact hy)
  have hTh := hI.isT hh
  have hRh := hR hh
  have htop := hI.top hh (by omega)
  have hgn : hh < tops.length := by rw [hM.topn]; omega
  have u1 : Upd [] w (w.alloc (.cells #[.int .i64 k, .int .u64 s] 59)) := (Upd.refl _ _).alloc _
  have kp := fun W (hW : Upd [] (w.alloc (.cells #[.int .i64 k, .int .u64 s] 59)) W) => cput_yes (hM.cells.upd0 (u1.trans hW)) hh x k s hk hB
  have h0 := hM.h0
  have hbF : B.n0 ∉ F := hM.sepF.1
  have hsz : w.heap.size ∉ F := fun hm => by have := hlt w.heap.size (by simp [LB.blk, hm]); omega
  have r0 : ∀ W, Upd F (w.alloc (.cells #[.int .i64 k, .int .u64 s] 59)) W → W.cell? ⟨B.n0, 0, none⟩ = some (.pointer (some ⟨B.c, 0, none⟩)) := fun W hW => hW.kept (u1.was h0) hbF
  have r1 : ∀ W, Upd F (w.alloc (.cells #[.int .i64 k, .int .u64 s] 59)) W → W.cell? ⟨w.heap.size, 0, none⟩ = some (.int .i64 k) := fun W h => h.kept (by simp) hsz
  have r2 : ∀ W, Upd F (w.alloc (.cells #[.int .i64 k, .int .u64 s] 59)) W → W.cell? ⟨w.heap.size, 1, none⟩ = some (.int .u64 s) := fun W h => h.kept (by simp) hsz
  have HM := Lib.hid hM
  have HH := Lib.hid (And.intro hX (And.intro hin (And.intro hTh (And.intro hRh hfr))))
  have HLT := Lib.hid hlt
  have HSE := Lib.hid (And.intro hM.sep hM.sepF)
  have hA := ok.c1
  have hAh := ok.h1
  have HXN := Lib.hid hxn
  clear hM hI hL hR ok ok' b1 b2 b3 h0x hcx hxn hX hin hHx mp mh mh' ml hfr h0 hlt hTh hRh
  generalize hA' : putN A hh x k s = A' at *
  generalize htr : tr hh = th at *
  go_enter Try.func40, Try.ntmps40
  go_wp2
  go_region_held3 (Upd F (w.alloc (.cells #[.int .i64 k, .int .u64 s] 59))) (repeat (first | assumption | exact Upd.refl _ _ | refine Upd.drew ?_ | refine Upd.alloc ?_ _ | refine Upd.setCell ?_ ?_ _ | focus (left; simp; done) | focus (right; simp; done) | focus (right; simp; omega) | (apply Upd.trans; rotate_left; assumption)))
    ((go_at_call 61; (with_reducible refine (kp _ (by (repeat (first | assumption | exact Upd.refl _ _ | refine Upd.alloc ?_ _ | refine Upd.drew ?_ | refine Upd.drewN ?_ _ | refine Upd.setCell ?_ ?_ _ | focus (left; simp; done) | focus (right; simp; done) | focus (right; simp; omega))))).mono ?_); rintro e w1 ⟨rfl, hC1, hu1⟩; (have hu2 : Upd F (w.alloc (.cells #[.int .i64 k, .int .u64 s] 59)) w1 := by (repeat (first | assumption | exact Upd.refl _ _ | refine Upd.drew ?_ | refine Upd.alloc ?_ _ | refine Upd.setCell ?_ ?_ _ | focus (left; simp; done) | focus (right; simp; done) | focus (right; simp; omega) | (apply Upd.trans; rotate_left; assumption))))))
  have uF : Upd F w (w.alloc (.cells #[.int .i64 k, .int .u64 s] 59)) := u1.mono (by simp)
  have hM1 := HM.out.setC (uF.trans hu2) hC1 (fun y hy => Or.inl hy) hcs hhs
  have h2 := hM1.h2
  have dR := hM1.ranks.cell x (by rw [hcs]; exact hx)
  have fR := hM1.ranks.free x
  have hw1 : Upd F w w1 := uF.trans hu2
  have HM1 := Lib.hid hM1
  clear r0 r1 r2 kp hu1 hu2 hC1 hM1 uF
  rw [hcs] at h2
  go_wp2
  obtain ⟨w2, hw2⟩ : ∃ w2, w2 = w1.setCell ⟨B.br, x, none⟩ (.int .i64 1) := ⟨_, rfl⟩
  have u2 : Upd [B.br] w1 w2 := by rw [hw2]; (repeat (first | assumption | exact Upd.refl _ _ | refine Upd.alloc ?_ _ | refine Upd.drew ?_ | refine Upd.drewN ?_ _ | refine Upd.setCell ?_ ?_ _ | focus (left; simp; done) | focus (right; simp; done) | focus (right; simp; omega)))
  have hM2 : LfM w2 B F gt ct A' st S (fun y => if y = x then 1 else rk y) tops := by rw [hw2]; exact HM1.out.setR x 1
  rw [← hw2]
  clear hw2 HM1 h2 dR fR
  have km := fun W (hW : Upd [] w2 W) => lmerge_any (hM2.upd0 hW) HH.out.2.2.1 (single_isT HH.out.2.2.2.2) HH.out.1 HH.out.2.1 (HH.out.2.2.2.1.frame (fun y hy => if_neg (fun e => HXN.out (by rw [← e]; exact hy)))) ⟨by simp [BT.rank], trivial, trivial⟩
  rw [show (single x).root = (x : Int) from rfl] at km
  have d4 := hM2.topI.cell hh hgn
  rw [htop] at d4
  have f4 := hM2.topI.free hh
  have h3 := hM2.h3
  have hg := hM2.lt gt (by simp [LB.blk])
  have HM2 := Lib.hid hM2
  have hn0g : B.n0 ∉ [B.c, B.ba, B.br, gt] := by
    have a1 := HSE.out
    have a2 : B.n0 ≠ B.c := fun e => a1.2.1 (by rw [e]; exact HM.out.cF)
    simp; omega
  have hgc : gt ∉ [B.c, B.ba, B.br] := by
    have a1 := HSE.out
    have a2 : gt ≠ B.c := fun e => a1.2.2.2.2.2 (by rw [e]; exact HM.out.cF)
    simp; omega
  have r3 : ∀ W, Upd [B.c, B.ba, B.br, gt] w2 W → W.cell? ⟨B.n0, 3, none⟩ = some (.slice (some ⟨gt, 0, none⟩) tops.length ct) := fun W hW => hW.kept h3 hn0g
  have r4 : ∀ W, Upd [B.c, B.ba, B.br] w2 W → W.cell? ⟨gt, hh, none⟩ = some (.int .i64 th.root) ∧ W.frozen? ⟨gt, hh, none⟩ = false := fun W hW => ⟨hW.kept d4 hgc, hW.keptF d4 hgc f4⟩
  have hib1 : (0 : Int) ≤ (hh : Int) := by omega
  have hib2 : (hh : Int) < (tops.length : Int) := by omega
  have MG : Hid (mergeT settleT A' th (single x) = mergeT settleT A' th (single x)) := rfl
  generalize hmt : (mergeT settleT A' th (single x)).1 = mt at *
  generalize hmk : (mergeT settleT A' th (single x)).2 = mk at *
  clear hM2 f4 h3 MG
  have q3 := r3 _ (Upd.refl _ _)
  have q4 := (r4 _ (Upd.refl _ _)).1
  go_region_law
    (first
      | (go_simp; go_at_call 62; (with_reducible refine (km _ (by (repeat (first | assumption | exact Upd.refl _ _ | refine Upd.alloc ?_ _ | refine Upd.drew ?_ | refine Upd.drewN ?_ _ | refine Upd.setCell ?_ ?_ _ | focus (left; simp; done) | focus (right; simp; done) | focus (right; simp; omega))))).mono ?_); rintro e w5 ⟨rfl, hu5a, S5, rk5, hM5, hT5, hr5, hs5⟩; (have hu5 : Upd [B.c, B.ba, B.br] w2 w5 := Upd.trans (by (repeat (first | assumption | exact Upd.refl _ _ | refine Upd.alloc ?_ _ | refine Upd.drew ?_ | refine Upd.drewN ?_ _ | refine Upd.setCell ?_ ?_ _ | focus (left; simp; done) | focus (right; simp; done) | focus (right; simp; omega)))) hu5a); (have hu6 : Upd [B.c, B.ba, B.br, gt] w2 w5 := hu5.mono (by simp)); obtain ⟨d5, f5⟩ := r4 _ hu5; (have q5 := r3 _ hu6)))
  all_goals
    go_wp2
    go_ret
    have hcF := HM.out.cF
    have v1 : Upd (B.blk F gt) w w1 := hw1.mono (fun y hy => by simp only [LB.blk, List.mem_cons]; simp [hy])
    have v2 : Upd (B.blk F gt) w w2 := v1.trans (u2.mono (fun y hy => by simp at hy; simp [LB.blk, hy]))
    have v3 : Upd (B.blk F gt) w w5 := v2.trans (hu5.mono (fun y hy => by
      simp only [List.mem_cons, List.not_mem_nil, or_false] at hy
      simp only [LB.blk, List.mem_cons]
      rcases hy with rfl | rfl | rfl
      · simp [hcF]
      · simp
      · simp))
    subst hmt hmk
    refine ⟨rfl, v3.setCell (Or.inl (by simp [LB.blk])) _, FI.out _ S5 rk5 _ (hM5.setTop hh _) hT5 hr5 (fun y hy => ⟨(hs5 y hy).1, ?_⟩)⟩
    rw [(hs5 y hy).2, if_neg (fun e => hy (by rw [e]; simp [single, BT.nodes]))]
end
end Go.Proofs.Ytechoojcgdjcdaa

set_option linter.unusedVariables false
set_option linter.unusedSimpArgs false
namespace Go.Proofs.Ytechoojcgdjcdaa
open Go Go.RowKit

theorem trI_new (n : Nat) : TrI (NS.new n) TS.none [-1] (fun _ => BT.nil) := by
  refine ⟨fun h hh => ?_, fun h => rfl, fun h x => ?_, fun h => List.nodup_nil, fun h => trivial, fun x hx _ => ⟨rfl, rfl, rfl⟩⟩
  · have : h = 0 := by simp [NS.new] at hh; exact hh
    subst this; rfl
  · rw [NS.new_c]
    simp only [BT.nodes, List.not_mem_nil, false_iff, Cl.z]
    omega
theorem madeInts (n j : Nat) (hj : j < n) : (madeCells #[Value.int .i64 0] (n * 1)).toList.getD j undef = .int .i64 0 := by
  rw [List.getD_eq_getElem?_getD, List.getElem?_eq_getElem (by simp [madeCells]; omega)]
  simp [madeCells, Nat.mod_one]
theorem lnew_no (n : Int) (w : World) (h : n < 0 ∨ 65536 < n) :
    Calls Try.prog 16 #[.int .i64 n] w fun e w' => e = .returned (.tuple #[.pointer none, .int .i64 31]) ∧ w' = w := by
  have k := cnew_no n w h
  go_enter Try.func16, Try.ntmps16
  go_wp2_with (first
    | ((go_at_call 41; (with_reducible refine (k).mono ?_)); rintro e w1 ⟨rfl, h1⟩; rw [h1]; clear h1 w1))
  go_ret2
  exact ⟨rfl, rfl⟩
set_option maxHeartbeats 4000000 in
theorem lnew_yes (n : Nat) (w : World) (h : n ≤ 65536) :
    Calls Try.prog 16 #[.int .i64 (n : Int)] w fun e w' => ∃ B F gt, e = .returned (.tuple #[.pointer (some ⟨B.n0, 0, none⟩), .int .i64 0]) ∧ LfAt w' B F gt 1 (NS.new n) 0 (fun _ => .nil) ∧ Upd [] w w' ∧ ∀ x, x ∈ B.blk F gt → w.heap.size ≤ x := by
  go_enter Try.func16, Try.ntmps16
  go_wp2_with (first
    | ((go_at_call 41; (with_reducible refine (cnew_yes n _ h).mono ?_)); rintro e w1 ⟨c, F, rfl, hC, hu1, hF⟩)
    | ((go_at_call 42; (with_reducible refine (spineNew_yes n _ h).mono ?_)); rintro e w2 ⟨bt, ba, rfl, hT, hu2, hb1, hb2⟩)
    | (at_make; refine wpList_make_row rfl _ 30 rfl 3 (.int .i64 0) 1 8 Try.underlying30 intInfo n rfl (by omega) (by unfold maxLen; omega) ?_; intro w3 hr3 hu3))
  go_ret2
  have hcs : (NS.new n).cs.length = n := by simp [NS.new]
  have l1 := hu1.size
  have l2 := hu2.size
  have l3 := hu3.size
  have l4 := hr3.lt
  have l5 := hT.head.lt
  have l6 := hT.row.lt
  have l7 := hC.lt
  have lc := l7 c hC.mem
  have e3 : ((w3.alloc (.cells #[.int .i64 (-1)] 3)).heap.size) = w3.heap.size + 1 := by rw [World.size_alloc]
  have hv : Upd [] w3 (w3.alloc (.cells #[.int .i64 (-1)] 3)) := (Upd.refl _ _).alloc _
  have hw : Upd [] w3 ((w3.alloc (.cells #[.int .i64 (-1)] 3)).alloc (.cells #[.pointer (some ⟨c, 0, none⟩), .pointer (some ⟨bt, 0, none⟩), .slice (some ⟨w2.heap.size, 0, none⟩) n n, .slice (some ⟨w3.heap.size, 0, none⟩) 1 1] 32)) := hv.alloc _
  have hh := rowAt_new (w3.alloc (.cells #[.int .i64 (-1)] 3)) [.pointer (some ⟨c, 0, none⟩), .pointer (some ⟨bt, 0, none⟩), .slice (some ⟨w2.heap.size, 0, none⟩) n n, .slice (some ⟨w3.heap.size, 0, none⟩) 1 1] 32
  rw [e3] at hh
  have hi : IZ (w3.alloc (.cells #[.int .i64 (-1)] 3)) w3.heap.size 1 [-1] := IZ.lit w3 [-1] (by simp)
  have hF' : ∀ x, x ∈ F → x < w1.heap.size := l7
  have hnF : ∀ x, w1.heap.size ≤ x → x ∉ F := fun x hx hm => by have := hF' x hm; omega
  refine ⟨⟨w3.heap.size + 1, c, bt, ba, w2.heap.size⟩, F, w3.heap.size, rfl, ⟨TS.none, fun _ => 0, [-1], ⟨by rw [hcs]; exact hh, ((hC.upd0 hu2).upd0 hu3).upd0 hw, by rw [hcs]; exact (hT.upd hu3 (by simp) (by simp)).upd hw (by simp) (by simp), ?_, hi.upd ((Upd.refl [] _).alloc _) (by simp), rfl, ⟨hnF _ (by first | omega | (simp only; omega)), hnF _ (by first | omega | (simp only; omega)), hnF _ (by first | omega | (simp only; omega)), hnF _ (by first | omega | (simp only; omega)), hnF _ (by first | omega | (simp only; omega))⟩, ⟨⟨by simp only; omega, by simp only; omega, by simp only; omega, by simp only; omega⟩, by simp only; omega, by simp only; omega, by simp only; omega, by simp only; omega, by simp only; omega⟩⟩, trI_new n, fun _ => trivial, fun _ => trivial⟩, ((hu1.trans hu2).trans hu3).trans hw, fun x hx => ?_⟩
  · rw [hcs]
    have := hr3.upd hw (by simp)
    rw [Nat.mul_one] at this
    refine this.ext (fun j hj => ?_)
    have hz : (Value.int .i64 0).cells = #[.int .i64 0] := rfl
    have e := madeInts n j hj
    rw [Nat.mul_one] at e
    rw [hz, e]; rfl
  · simp only [LB.blk, List.mem_cons] at hx
    rcases hx with rfl | rfl | rfl | rfl | rfl | hx
    · omega
    · omega
    · omega
    · omega
    · omega
    · exact hF x hx
section
variable {w : World} {B : LB} {F : List Nat} {gt ct : Nat} {A : NS} {st : Nat} {tr : Nat → BT}
/-- The rank of a thing, by its tree. -/
def rankT : BT → Nat → Nat
  | .nil, _ => 0
  | .node x l r, y => if y = x then r.rank + 1 else if y ∈ l.nodes then rankT l y else rankT r y
theorem RkOk.rankT {rk : Nat → Nat} : ∀ {t : BT} {y : Nat}, RkOk rk t → y ∈ t.nodes → rk y = Go.Proofs.Ytechoojcgdjcdaa.rankT t y
  | .nil, _, _, h => by cases h
  | .node x l r, y, h, hy => by
    unfold Go.Proofs.Ytechoojcgdjcdaa.rankT
    by_cases e : y = x
    · rw [if_pos e, e]; exact h.1
    · rw [if_neg e]
      by_cases hl : y ∈ l.nodes
      · rw [if_pos hl]; exact RkOk.rankT h.2.1 hl
      · rw [if_neg hl]
        simp only [BT.nodes, List.mem_cons, List.mem_append] at hy
        exact RkOk.rankT h.2.2 ((hy.resolve_left e).resolve_left hl)
theorem lrank_no (h : LfAt w B F gt ct A st tr) (x : Int) (hx : inN A x = false) :
    Calls Try.prog 30 #[.pointer (some ⟨B.n0, 0, none⟩), .int .i64 x] w fun e w' => e = .returned (.int .i64 0) ∧ w' = w := by
  obtain ⟨S, rk, tops, hM, -, -, -⟩ := h
  have k := chome_no hM.cells x hx
  have h0 := hM.h0
  clear hM
  go_enter Try.func30, Try.ntmps30
  go_wp2_with (first | (go_at_call 54; (with_reducible refine (k).mono ?_); rintro e w9 ⟨rfl, hw9⟩; rw [hw9]; clear hw9 w9))
  go_ret
  exact ⟨rfl, rfl⟩
set_option maxHeartbeats 1000000 in
theorem lrank_yes (h : LfAt w B F gt ct A st tr) (x g : Nat) (hx : x ∈ (tr g).nodes) :
    Calls Try.prog 30 #[.pointer (some ⟨B.n0, 0, none⟩), .int .i64 (x : Int)] w fun e w' => e = .returned (.int .i64 (rankT (tr g) x : Int)) ∧ LfAt w' B F gt ct A st tr ∧ Upd F w w' := by
  obtain ⟨S, rk, tops, hM, hI, hL, hR⟩ := h
  have hm := (hI.mem g x).1 hx
  have hin : inN A (x : Int) = true := (inN_nat A x).2 ⟨hm.2.1, by omega⟩
  have k := chome_yes hM.cells x hin
  have h0 := hM.h0
  have hrk := (hR g).rankT hx
  have hxl := hm.2.1
  have hA := hM.cells.ok.c1
  have HM := Lib.hid hM
  have HI := Lib.hid (And.intro hI (And.intro hL hR))
  have HK := Lib.hid hrk
  clear hM hI hL hR hm hin hx hrk
  go_enter Try.func30, Try.ntmps30
  go_wp2_with (first | ((go_at_call 54; (with_reducible refine (k).mono ?_)); rintro e w1 ⟨rfl, hC, hu⟩; (have hM1 := HM.out.setC hu hC (fun y hy => Or.inl hy) rfl rfl); (have h2 := hM1.h2); (have d := hM1.ranks.cell x hxl)))
  go_ret
  exact ⟨by first | rfl | (rw [HK.out]; rfl), ⟨S, rk, tops, hM1, HI.out⟩, hu⟩
end
end Go.Proofs.Ytechoojcgdjcdaa

set_option linter.unusedVariables false
set_option linter.unusedSimpArgs false
namespace Go.Proofs.Ytechoojcgdjcdaa
open Go Go.RowKit

/-- One heap more has an empty tree. -/
theorem TrI.make {A : NS} {S : TS} {tops : List Int} {tr : Nat → BT} (h : TrI A S tops tr) (ok : A.Ok) (hn : tops.length = A.hs.length) (hl : ¬ 65536 < A.hs.length) : TrI (makeN A) S (tops ++ [-1]) tr := by
  have hc : (makeN A).cs = A.cs := by unfold makeN; rw [if_neg hl]
  have hh : (makeN A).hs = A.hs ++ [true] := by unfold makeN; rw [if_neg hl]
  have hcc : ∀ x, (makeN A).c x = A.c x := fun x => by unfold NS.c; rw [hc]
  refine h.next (by rw [hc]) (fun _ => True) (fun g _ => ⟨rfl, fun x _ => ⟨⟨rfl, rfl, rfl⟩, hcc x⟩⟩) (fun g _ x _ _ => by rw [hcc]) (fun g hg => absurd trivial hg) (fun g hg => ?_) (fun x hx h0 => h.free x hx (by rw [hcc] at h0; exact h0))
  rw [hh, List.length_append, List.length_singleton] at hg
  by_cases e : g < A.hs.length
  · rw [List.getD_eq_getElem?_getD, List.getElem?_append_left (by omega), ← List.getD_eq_getElem?_getD]; exact h.top g e
  · have e2 : g = tops.length := by omega
    have hnil : tr g = .nil := by
      cases ht : tr g with
      | nil => rfl
      | node x l r =>
        have hm := (h.mem g x).1 (by rw [ht]; simp [BT.nodes])
        have := (ok.nat x hm.2.1).2
        omega
    rw [List.getD_eq_getElem?_getD, e2, List.getElem?_append_right (Nat.le_refl _)]
    rw [← e2, hnil]
    simp [BT.root]
section
variable {w : World} {B : LB} {F : List Nat} {gt ct : Nat} {A : NS} {st : Nat} {tr : Nat → BT}
set_option maxHeartbeats 4000000 in
theorem lmake_no (h : LfAt w B F gt ct A st tr) (hl : 65536 < A.hs.length) :
    Calls Try.prog 39 #[.pointer (some ⟨B.n0, 0, none⟩)] w fun e w' => e = .returned (.int .i64 0) ∧ Goes (B.blk F gt) w w' (fun F' => ∃ F1, F' = B.blk F1 gt ∧ LfAt w' B F1 gt ct A st tr) := by
  obtain ⟨S, rk, tops, hM, hI⟩ := h
  have k := cmake_any hM.cells
  have e1 : makeV A = 0 := by unfold makeV; rw [if_pos hl]
  have e2 : makeN A = A := by unfold makeN; rw [if_pos hl]
  rw [e1, e2] at k
  have h0 := hM.h0
  have HM := Lib.hid hM
  have HI := Lib.hid hI
  clear hM hI e1 e2
  go_enter Try.func39, Try.ntmps39
  go_wp2_with (first | ((go_at_call 57; (with_reducible refine (k).mono ?_)); rintro e w1 ⟨rfl, F1, hC, hu, hF⟩))
  go_ret
  exact ⟨rfl, B.blk F1 gt, ⟨F1, rfl, S, rk, tops, HM.out.setC hu hC hF rfl rfl, HI.out⟩, hu.mono (fun y hy => by simp [LB.blk, hy]), fun x hx => by
    simp only [LB.blk, List.mem_cons] at hx ⊢
    rcases hx with rfl | rfl | rfl | rfl | rfl | hx
    · simp
    · simp
    · simp
    · simp
    · simp
    · rcases hF x hx with h | h
      · simp [h]
      · exact Or.inr h⟩
set_option maxHeartbeats 8000000 in
theorem lmake_yes (h : LfAt w B F gt ct A st tr) (hl : ¬ 65536 < A.hs.length) :
    Calls Try.prog 39 #[.pointer (some ⟨B.n0, 0, none⟩)] w fun e w' => e = .returned (.int .i64 (A.hs.length : Int)) ∧ Goes (B.blk F gt) w w' (fun F' => ∃ F1 gt1 ct1, F' = B.blk F1 gt1 ∧ LfAt w' B F1 gt1 ct1 (makeN A) st tr) := by
  obtain ⟨S, rk, tops, hM, hI, hL, hR⟩ := h
  have k := cmake_any hM.cells
  have e1 : makeV A = A.hs.length := by unfold makeV; rw [if_neg hl]
  rw [e1] at k
  have hcs : (makeN A).cs.length = A.cs.length := by unfold makeN; rw [if_neg hl]
  have hhs : (makeN A).hs.length = A.hs.length + 1 := by unfold makeN; rw [if_neg hl]; simp
  have hI2 := hI.make hM.cells.ok hM.topn hl
  have h0 := hM.h0
  have hh0 := hM.cells.ok.h0
  have HTN := Lib.hid hM.topn
  have htb : tops.length ≤ 65536 := by rw [hM.topn]; omega
  have HM := Lib.hid hM
  have HI := Lib.hid (And.intro hI2 (And.intro hL hR))
  clear hM hI hL hR e1 hI2
  go_enter Try.func39, Try.ntmps39
  go_wp2_with (first
    | ((go_at_call 57; (with_reducible refine (k).mono ?_)); rintro e w1 ⟨rfl, F1, hC, hu, hF⟩; (have d3 := hu.kept HM.out.h3 HM.out.sepF.1); (have f3 := hu.keptF HM.out.h3 HM.out.sepF.1 (HM.out.head.free 3)); (have ho1 := (HM.out.topI.upd hu HM.out.sepF.2.2.2.2).own); (have g0 : B.n0 ≠ gt := HM.out.sep.1.2.2.2); (have gl := (HM.out.topI.upd hu HM.out.sepF.2.2.2.2).lt))
    | ((at_builtin; refine wpList_append_sep rfl _ _ 30 rfl 0 3 (.int .i64 0) 1 8 Try.underlying30 intInfo rfl (by decide) _ _ _ rfl (ho1) [.int .i64 (-1)] rfl (by simp [Value.oneCell']) (by first | rfl | (rw [World.size_alloc]; rfl)) (by unfold maxLen; omega) (by omega) ((by omega)) ?_; intro v2 w2 ho2 hu2 hsep2); (have hu2 : Upd [gt] w1 w2 := hu2); obtain ⟨gt1, ct1, ev, hI2, -⟩ := IZ.of_own (l := tops ++ [-1]) (by rw [intsZ_append, List.length_append]; exact ho2) (by simp); rw [List.length_append, List.length_singleton] at ev; subst ev; (have d4 := hu2.kept d3 (by simp; omega)); (have f4 := hu2.keptF d3 (by simp; omega) f3)))
  go_ret
  have hM := HM.out
  have hlt := hM.lt
  have f := hM.sepF
  have q := hM.sep
  have hw3 : Upd [B.n0] w2 (w2.setCell ⟨B.n0, 3, none⟩ (.slice (some ⟨gt1, 0, none⟩) (tops.length + 1) ct1)) := by (repeat (first | assumption | exact Upd.refl _ _ | refine Upd.alloc ?_ _ | refine Upd.drew ?_ | refine Upd.drewN ?_ _ | refine Upd.setCell ?_ ?_ _ | focus (left; simp; done) | focus (right; simp; done) | focus (right; simp; omega)))
  have hg1 : gt1 = gt ∨ w1.heap.size < gt1 := by
    rcases hsep2 with h | h
    · exact Or.inl (Option.some.inj h)
    · exact Or.inr (h gt1 rfl)
  have hws := hu.size
  have hC1 := hC.lt
  have l0 := hlt B.n0 (by simp [LB.blk])
  have l1 := hlt B.bt (by simp [LB.blk])
  have l2 := hlt B.ba (by simp [LB.blk])
  have l3 := hlt B.br (by simp [LB.blk])
  have l4 := hlt gt (by simp [LB.blk])
  have hnF : ∀ y, y < w.heap.size → y ∉ F → y ∉ F1 := fun y hy hn hm => by rcases hF y hm with h' | h'; exact hn h'; omega
  have hgF : gt1 ∉ F1 := by
    rcases hg1 with e | e
    · rw [e]; exact hnF gt l4 f.2.2.2.2
    · exact fun hm => by have := hC1 gt1 hm; omega
  have hb : w.heap.size ≤ gt1 ∨ gt1 = gt := by omega
  have hhd := ((hM.head.upd hu f.1).upd hu2 (by simp; omega)).set 3 (.slice (some ⟨gt1, 0, none⟩) (tops.length + 1) ct1)
  refine ⟨rfl, B.blk F1 gt1, ⟨F1, gt1, ct1, rfl, S, rk, tops ++ [-1], ⟨?_, ?_, ?_, ?_, hI2.upd hw3 (by simp; omega), ?_, ⟨hnF _ l0 f.1, hnF _ l1 f.2.1, hnF _ l2 f.2.2.1, hnF _ l3 f.2.2.2.1, hgF⟩, ⟨⟨q.1.1, q.1.2.1, q.1.2.2.1, by omega⟩, q.2.1, by omega, q.2.2.2.1, by omega, by omega⟩⟩, HI.out⟩, ?_, fun y hy => ?_⟩
  · rw [hcs, List.length_append, List.length_singleton]
    refine hhd.ext (fun j hj => ?_)
    rcases (by omega : j = 0 ∨ j = 1 ∨ j = 2 ∨ j = 3) with rfl | rfl | rfl | rfl <;> rfl
  · exact (hC.upd hu2 (fun y hy => by simp at hy; rw [hy]; exact hnF gt l4 f.2.2.2.2)).upd hw3 (fun y hy => by simp at hy; rw [hy]; exact hnF _ l0 f.1)
  · rw [hcs]
    exact ((hM.trees.upd hu f.2.1 f.2.2.1).upd hu2 (by simp; omega) (by simp; omega)).upd hw3 (by simp; omega) (by simp; omega)
  · rw [hcs]
    exact ((hM.ranks.upd hu f.2.2.2.1).upd hu2 (by simp; omega)).upd hw3 (by simp; omega)
  · rw [List.length_append, List.length_singleton, hhs, HTN.out]
  · have u1 : Upd (B.blk F gt) w w1 := hu.mono (fun y hy => by simp [LB.blk, hy])
    exact (u1.trans (hu2.mono (fun y hy => by simp at hy; simp [LB.blk, hy]))).trans (hw3.mono (fun y hy => by simp at hy; simp [LB.blk, hy]))
  · simp only [LB.blk, List.mem_cons] at hy ⊢
    rcases hy with rfl | rfl | rfl | rfl | rfl | hy
    · simp
    · simp
    · simp
    · simp
    · rcases hb with h | h
      · exact Or.inr h
      · exact Or.inl (by simp [h])
    · rcases hF y hy with h | h
      · simp [h]
      · exact Or.inr h
end
end Go.Proofs.Ytechoojcgdjcdaa

set_option linter.unusedVariables false
set_option linter.unusedSimpArgs false
namespace Go.Proofs.Ytechoojcgdjcdaa
open Go Go.RowKit

theorem TrI.first {A : NS} {S : TS} {tops : List Int} {tr : Nat → BT} (h : TrI A S tops tr) {g : Nat} (hg : 0 < lenN A g) : ∃ m : Nat, (tr g).root = m ∧ minN A g = some m := by
  obtain ⟨x, hx, hi, h0⟩ := lenN_pos.1 hg
  have hxm : x ∈ (tr g).nodes := (h.mem g x).2 ⟨by omega, hx, hi⟩
  cases ht : tr g with
  | nil => rw [ht] at hxm; cases hxm
  | node m l r =>
    have hm := (h.mem g m).1 (by rw [ht]; simp [BT.nodes])
    have hH := h.heap g
    rw [ht] at hH
    refine ⟨m, rfl, (minN_some h0).2 ⟨hm.2.1, hm.2.2, fun y hy hyi => ?_⟩⟩
    have hym := (h.mem g y).2 ⟨by omega, hy, hyi⟩
    rw [ht] at hym
    simp only [BT.nodes, List.mem_cons, List.mem_append] at hym
    rcases hym with e | e | e
    · exact Or.inl e
    · exact Or.inr (hH.1 y e)
    · exact Or.inr (hH.2.1 y e)
section
variable {w : World} {B : LB} {F : List Nat} {gt ct : Nat} {A : NS} {st : Nat} {tr : Nat → BT}
theorem lmin_none (h : LfAt w B F gt ct A st tr) (x : Int) (hx : -9223372036854775808 ≤ x ∧ x ≤ 9223372036854775807) (hn : lenN A x = 0) :
    Calls Try.prog 137 #[.pointer (some ⟨B.n0, 0, none⟩), .int .i64 x] w fun e w' => e = .returned (.tuple #[.int .i64 0, .bool false]) ∧ w' = w := by
  obtain ⟨S, rk, tops, hM, -, -, -⟩ := h
  have k := clen_any hM.cells x hx
  rw [hn] at k
  have h0 := hM.h0
  clear hM hn
  go_enter Try.func137, Try.ntmps137
  go_wp2_with (first | (go_at_call 20; (with_reducible refine (k).mono ?_); rintro e w9 ⟨rfl, hw9⟩; rw [hw9]; clear hw9 w9))
  go_ret2
  exact ⟨rfl, rfl⟩
set_option maxHeartbeats 1000000 in
theorem lmin_some (h : LfAt w B F gt ct A st tr) (g : Nat) (hn : 0 < lenN A g) :
    Calls Try.prog 137 #[.pointer (some ⟨B.n0, 0, none⟩), .int .i64 (g : Int)] w fun e w' => ∃ m : Nat, minN A g = some m ∧ (tr g).root = m ∧ e = .returned (.tuple #[.int .i64 (m : Int), .bool true]) ∧ w' = w := by
  obtain ⟨S, rk, tops, hM, hI, -, -⟩ := h
  obtain ⟨m, hm, hf⟩ := hI.first hn
  obtain ⟨x, hx, hi, h0⟩ := lenN_pos.1 hn
  have ok := hM.cells.ok
  have hgl : g < A.hs.length := by have := (ok.nat x hx).2; omega
  have hAh := ok.h1
  have k := clen_any hM.cells (g : Int) (by omega)
  have hh0 := hM.h0
  have h3 := hM.h3
  have d := hM.topI.cell g (by rw [hM.topn]; exact hgl)
  rw [hI.top g hgl, hm] at d
  have htl : g < tops.length := by rw [hM.topn]; exact hgl
  generalize hl : lenN A (g : Int) = n at *
  have hb : ((n : Int) == 0) = false := by simp; omega
  have HF := Lib.hid (And.intro hf hm)
  clear hM hI hm hf hx hi h0 ok hl
  go_enter Try.func137, Try.ntmps137
  go_wp2_with (first | (go_at_call 20; (with_reducible refine (k).mono ?_); rintro e w9 ⟨rfl, hw9⟩; rw [hw9]; clear hw9 w9))
  go_ret2
  exact ⟨m, HF.out.1, HF.out.2, rfl, rfl⟩
end
end Go.Proofs.Ytechoojcgdjcdaa
