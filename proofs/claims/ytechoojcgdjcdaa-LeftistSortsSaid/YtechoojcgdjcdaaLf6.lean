/-
  Leftist heaps: a nest of them; Insert. Conditions: those of each lemma.
-/
import Derived.Test.YtechoojcgdjcdaaLf5
import Derived.Test.YtechoojcgdjcdaaBt3
import Derived.Test.YtechoojcgdjcdaaCells5
import Derived.Deep.RegionLaw
set_option linter.unusedVariables false
set_option linter.unusedSimpArgs false
namespace Go.Proofs.Ytechoojcgdjcdaa
open Go Go.RowKit

/-- The memory of a nest of leftist heaps, its trees told. -/
def LfAt (w : World) (B : LB) (F : List Nat) (gt ct : Nat) (A : NS) (st : Nat) (tr : Nat → BT) : Prop :=
  ∃ S rk tops, LfM w B F gt ct A st S rk tops ∧ TrI A S tops tr ∧ (∀ h, Lean (tr h)) ∧ (∀ h, RkOk rk (tr h))
theorem LfAt.upd {w w' : World} {B : LB} {F : List Nat} {gt ct : Nat} {A : NS} {st : Nat} {tr : Nat → BT} {G : List Nat} (h : LfAt w B F gt ct A st tr) (hu : Upd G w w') (hG : ∀ x, x ∈ G → x ∉ B.blk F gt) : LfAt w' B F gt ct A st tr := by
  obtain ⟨S, rk, tops, hM, h1, h2, h3⟩ := h
  exact ⟨S, rk, tops, hM.upd hu hG, h1, h2, h3⟩
theorem LfAt.upd0 {w w' : World} {B : LB} {F : List Nat} {gt ct : Nat} {A : NS} {st : Nat} {tr : Nat → BT} (h : LfAt w B F gt ct A st tr) (hu : Upd [] w w') : LfAt w' B F gt ct A st tr := h.upd hu (by simp)
section
variable {w : World} {B : LB} {F : List Nat} {gt ct : Nat} {A : NS} {st : Nat} {tr : Nat → BT}
set_option maxHeartbeats 4000000 in
theorem linsert_no (h : LfAt w B F gt ct A st tr) (hh x k s : Int) (hB : putB A hh x = false) :
    Calls Try.prog 40 #[.pointer (some ⟨B.n0, 0, none⟩), .int .i64 hh, .int .i64 x, .agg #[.int .i64 k, .int .u64 s]] w fun e w' => e = .returned (.bool false) ∧ Upd [] w w' := by
  obtain ⟨S, rk, tops, hM, -, -, -⟩ := h
  have u1 : Upd [] w (w.alloc (.cells #[.int .i64 k, .int .u64 s] 59)) := (Upd.refl _ _).alloc _
  have kp := fun W (hW : Upd [] (w.alloc (.cells #[.int .i64 k, .int .u64 s] 59)) W) => cput_no (hM.cells.upd0 (u1.trans hW)) hh x k s hB
  have h0 := hM.h0
  have r0 : ∀ W, Upd [] (w.alloc (.cells #[.int .i64 k, .int .u64 s] 59)) W → W.cell? ⟨B.n0, 0, none⟩ = some (.pointer (some ⟨B.c, 0, none⟩)) := fun W hW => (u1.trans hW).was h0
  have r1 : ∀ W, Upd [] (w.alloc (.cells #[.int .i64 k, .int .u64 s] 59)) W → W.cell? ⟨w.heap.size, 0, none⟩ = some (.int .i64 k) := fun W h => h.was (by simp)
  have r2 : ∀ W, Upd [] (w.alloc (.cells #[.int .i64 k, .int .u64 s] 59)) W → W.cell? ⟨w.heap.size, 1, none⟩ = some (.int .u64 s) := fun W h => h.was (by simp)
  clear hM h0
  go_enter Try.func40, Try.ntmps40
  go_wp2
  go_region_held3 (Upd [] (w.alloc (.cells #[.int .i64 k, .int .u64 s] 59))) (repeat (first | assumption | exact Upd.refl _ _ | refine Upd.drew ?_ | refine Upd.alloc ?_ _ | (apply Upd.trans; rotate_left; assumption)))
    ((go_at_call 61; (with_reducible refine (kp _ (by (repeat (first | assumption | exact Upd.refl _ _ | refine Upd.alloc ?_ _ | refine Upd.drew ?_ | refine Upd.drewN ?_ _ | refine Upd.setCell ?_ ?_ _ | focus (left; simp; done) | focus (right; simp; done) | focus (right; simp; omega))))).mono ?_); rintro e w1 ⟨rfl, hu1⟩; (have hu2 : Upd [] (w.alloc (.cells #[.int .i64 k, .int .u64 s] 59)) w1 := by (repeat (first | assumption | exact Upd.refl _ _ | refine Upd.drew ?_ | refine Upd.alloc ?_ _ | (apply Upd.trans; rotate_left; assumption))))))
  go_wp2
  go_ret
  exact ⟨rfl, u1.trans hu2⟩
set_option maxHeartbeats 8000000 in
theorem linsert_yes (h : LfAt w B F gt ct A st tr) (hh x : Nat) (k s : Int) (hk : -9223372036854775808 ≤ k ∧ k ≤ 9223372036854775807 ∧ 0 ≤ s ∧ s ≤ 18446744073709551615) (hB : putB A hh x = true) :
    Calls Try.prog 40 #[.pointer (some ⟨B.n0, 0, none⟩), .int .i64 (hh : Int), .int .i64 (x : Int), .agg #[.int .i64 k, .int .u64 s]] w fun e w' => e = .returned (.bool true) ∧ Upd (B.blk F gt) w w' ∧
      LfAt w' B F gt ct (putN A hh x k s) (satS st (mergeT settleT (putN A hh x k s) (tr hh) (single x)).2) (fun q => if q = hh then (mergeT settleT (putN A hh x k s) (tr hh) (single x)).1 else tr q) := by
  obtain ⟨S, rk, tops, hM, hI, hL, hR⟩ := h
  have hlt := hM.lt
  have ok := hM.cells.ok
  have ok' := putN_ok ok hh x k s hk
  obtain ⟨b1, b2, b3⟩ := (putB_iff _ _ _).1 hB
  have b4 := (hasN_iff _ _).1 b1
  have hx : x < A.cs.length := by have := (slotN_iff _ _).1 b2; omega
  have h0x : (A.c x).i = 0 := by
    have := (ok.nat x hx).1
    have h3 : ¬ (0 < (A.c x).i) := fun h' => by rw [(inN_nat A x).2 ⟨hx, h'⟩] at b3; cases b3
    omega
  have hcs : (putN A hh x k s).cs.length = A.cs.length := by unfold putN; rw [if_pos hB, len_with]
  have hhs : (putN A hh x k s).hs.length = A.hs.length := by unfold putN; rw [if_pos hB]; rfl
  have hcx : ∀ y, (putN A hh x k s).c y = if y = x then ⟨hh, k, s⟩ else A.c y := fun y => by
    unfold putN; rw [if_pos hB, Int.toNat_natCast, c_with]
    by_cases e : y = x
    · rw [if_pos ⟨e, hx⟩, if_pos e]
    · rw [if_neg (fun h => e h.1), if_neg e]
  have hxn : x ∉ (tr hh).nodes := hI.out h0x
  have hX : ((tr hh).nodes ++ (single x).nodes).Nodup := by
    rw [List.nodup_append]
    refine ⟨hI.nd hh, by simp [single, BT.nodes], fun a ha b hb e => ?_⟩
    simp only [single, BT.nodes, List.append_nil, List.mem_singleton] at hb
    exact hxn (by rw [← hb, ← e]; exact ha)
  have hin : ∀ y, y ∈ (tr hh).nodes ++ (single x).nodes → inN (putN A hh x k s) (y : Int) = true := fun y hy => by
    rw [inN_nat, hcs, hcx]
    simp only [single, BT.nodes, List.append_nil, List.mem_append, List.mem_singleton] at hy
    by_cases e : y = x
    · rw [if_pos e, e]; exact ⟨hx, by show (0 : Int) < (hh : Int); omega⟩
    · rw [if_neg e]
      have := (hI.mem hh y).1 (hy.resolve_right e)
      exact ⟨this.2.1, by omega⟩
  have hHx : Heap (putN A hh x k s) (tr hh) := (hI.heap hh).frame (fun y hy => by rw [hcx, if_neg (fun e => hxn (by rw [← e]; exact hy))])
  obtain ⟨mp, mh⟩ := merge_ok settle_ok (putN A hh x k s) _ (tr hh) (single x) (Nat.le_refl _)
  have mh' := mh hHx ⟨by simp [BT.nodes], by simp [BT.nodes], trivial, trivial⟩ hX
  have ml := merge_lean (putN A hh x k s) _ (tr hh) (single x) (Nat.le_refl _) (hL hh) ⟨Nat.le_refl _, trivial, trivial⟩
  have hfr := hI.free x hx h0x
  have FI : Hid (∀ (W : World) (S' : TS) (rk' : Nat → Nat) (st' : Nat), LfM W B F gt ct (putN A hh x k s) st' S' rk' (tops.set hh (mergeT settleT (putN A hh x k s) (tr hh) (single x)).1.root) → IsT S' (-1) (mergeT settleT (putN A hh x k s) (tr hh) (single x)).1.root (mergeT settleT (putN A hh x k s) (tr hh) (single x)).1 → RkOk rk' (mergeT settleT (putN A hh x k s) (tr hh) (single x)).1 →
      (∀ y, y ∉ (tr hh).nodes ++ (single x).nodes → S.at S' y ∧ rk' y = rk y) → LfAt W B F gt ct (putN A hh x k s) st' (fun q => if q = hh then (mergeT settleT (putN A hh x k s) (tr hh) (single x)).1 else tr q)) := fun W S' rk' st' a1 a2 a3 a4 => by
    refine ⟨S', rk', _, a1, hI.put ok hM.topn hB a2 mp mh' (fun y hy => (a4 y hy).1), fun q => ?_, fun q => ?_⟩
    · show Lean (if q = hh then _ else _)
      split
      · exact ml
      · exact hL q
    · show RkOk rk' (if q = hh then _ else _)
      split
      · exact a3
      · rename_i hq
        refine (hR q).frame (fun y hy => (a4 y (fun hm => ?_)).2)
        simp only [single, BT.nodes, List.append_nil, List.mem_append, List.mem_singleton] at hm
        rcases hm with hm | hm
        · have c1 := (hI.mem hh y).1 hm
          have c2 := (hI.mem q y).1 hy
          omega
        · exact hI.out (g := q) h0x (by rw [← hm]; exact hy)
  have hTh := hI.isT hh
  have hRh := hR hh
  have htop := hI.top hh (by omega)
  have hgn : hh < tops.length := by rw [hM.topn]; omega
  have u1 : Upd [] w (w.alloc (.cells #[.int .i64 k, .int .u64 s] 59)) := (Upd.refl _ _).alloc _
  have kp := fun W (hW : Upd [] (w.alloc (.cells #[.int .i64 k, .int .u64 s] 59)) W) => cput_yes (hM.cells.upd0 (u1.trans hW)) hh x k s hk hB
  have h0 := hM.h0
  have hbF : B.n0 ∉ F := hM.sepF.1
  have hsz : w.heap.size ∉ F := fun hm => by have := hlt w.heap.size (by simp [LB.blk, hm]); omega
  have r0 : ∀ W, Upd F (w.alloc (.cells #[.int .i64 k, .int .u64 s] 59)) W → W.cell? ⟨B.n0, 0, none⟩ = some (.pointer (some ⟨B.c, 0, none⟩)) := fun W hW => hW.kept (u1.was h0) hbF
  have r1 : ∀ W, Upd F (w.alloc (.cells #[.int .i64 k, .int .u64 s] 59)) W → W.cell? ⟨w.heap.size, 0, none⟩ = some (.int .i64 k) := fun W h => h.kept (by simp) hsz
  have r2 : ∀ W, Upd F (w.alloc (.cells #[.int .i64 k, .int .u64 s] 59)) W → W.cell? ⟨w.heap.size, 1, none⟩ = some (.int .u64 s) := fun W h => h.kept (by simp) hsz
  have HM := Lib.hid hM
  have HH := Lib.hid (And.intro hX (And.intro hin (And.intro hTh (And.intro hRh hfr))))
  have HLT := Lib.hid hlt
  have HSE := Lib.hid (And.intro hM.sep hM.sepF)
  have hA := ok.c1
  have hAh := ok.h1
  have HXN := Lib.hid hxn
  clear hM hI hL hR ok ok' b1 b2 b3 h0x hcx hxn hX hin hHx mp mh mh' ml hfr h0 hlt hTh hRh
  generalize hA' : putN A hh x k s = A' at *
  generalize htr : tr hh = th at *
  go_enter Try.func40, Try.ntmps40
  go_wp2
  go_region_held3 (Upd F (w.alloc (.cells #[.int .i64 k, .int .u64 s] 59))) (repeat (first | assumption | exact Upd.refl _ _ | refine Upd.drew ?_ | refine Upd.alloc ?_ _ | refine Upd.setCell ?_ ?_ _ | focus (left; simp; done) | focus (right; simp; done) | focus (right; simp; omega) | (apply Upd.trans; rotate_left; assumption)))
    ((go_at_call 61; (with_reducible refine (kp _ (by (repeat (first | assumption | exact Upd.refl _ _ | refine Upd.alloc ?_ _ | refine Upd.drew ?_ | refine Upd.drewN ?_ _ | refine Upd.setCell ?_ ?_ _ | focus (left; simp; done) | focus (right; simp; done) | focus (right; simp; omega))))).mono ?_); rintro e w1 ⟨rfl, hC1, hu1⟩; (have hu2 : Upd F (w.alloc (.cells #[.int .i64 k, .int .u64 s] 59)) w1 := by (repeat (first | assumption | exact Upd.refl _ _ | refine Upd.drew ?_ | refine Upd.alloc ?_ _ | refine Upd.setCell ?_ ?_ _ | focus (left; simp; done) | focus (right; simp; done) | focus (right; simp; omega) | (apply Upd.trans; rotate_left; assumption))))))
  have uF : Upd F w (w.alloc (.cells #[.int .i64 k, .int .u64 s] 59)) := u1.mono (by simp)
  have hM1 := HM.out.setC (uF.trans hu2) hC1 (fun y hy => Or.inl hy) hcs hhs
  have h2 := hM1.h2
  have dR := hM1.ranks.cell x (by rw [hcs]; exact hx)
  have fR := hM1.ranks.free x
  have hw1 : Upd F w w1 := uF.trans hu2
  have HM1 := Lib.hid hM1
  clear r0 r1 r2 kp hu1 hu2 hC1 hM1 uF
  rw [hcs] at h2
  go_wp2
  obtain ⟨w2, hw2⟩ : ∃ w2, w2 = w1.setCell ⟨B.br, x, none⟩ (.int .i64 1) := ⟨_, rfl⟩
  have u2 : Upd [B.br] w1 w2 := by rw [hw2]; (repeat (first | assumption | exact Upd.refl _ _ | refine Upd.alloc ?_ _ | refine Upd.drew ?_ | refine Upd.drewN ?_ _ | refine Upd.setCell ?_ ?_ _ | focus (left; simp; done) | focus (right; simp; done) | focus (right; simp; omega)))
  have hM2 : LfM w2 B F gt ct A' st S (fun y => if y = x then 1 else rk y) tops := by rw [hw2]; exact HM1.out.setR x 1
  rw [← hw2]
  clear hw2 HM1 h2 dR fR
  have km := fun W (hW : Upd [] w2 W) => lmerge_any (hM2.upd0 hW) HH.out.2.2.1 (single_isT HH.out.2.2.2.2) HH.out.1 HH.out.2.1 (HH.out.2.2.2.1.frame (fun y hy => if_neg (fun e => HXN.out (by rw [← e]; exact hy)))) ⟨by simp [BT.rank], trivial, trivial⟩
  rw [show (single x).root = (x : Int) from rfl] at km
  have d4 := hM2.topI.cell hh hgn
  rw [htop] at d4
  have f4 := hM2.topI.free hh
  have h3 := hM2.h3
  have hg := hM2.lt gt (by simp [LB.blk])
  have HM2 := Lib.hid hM2
  have hn0g : B.n0 ∉ [B.c, B.ba, B.br, gt] := by
    have a1 := HSE.out
    have a2 : B.n0 ≠ B.c := fun e => a1.2.1 (by rw [e]; exact HM.out.cF)
    simp; omega
  have hgc : gt ∉ [B.c, B.ba, B.br] := by
    have a1 := HSE.out
    have a2 : gt ≠ B.c := fun e => a1.2.2.2.2.2 (by rw [e]; exact HM.out.cF)
    simp; omega
  have r3 : ∀ W, Upd [B.c, B.ba, B.br, gt] w2 W → W.cell? ⟨B.n0, 3, none⟩ = some (.slice (some ⟨gt, 0, none⟩) tops.length ct) := fun W hW => hW.kept h3 hn0g
  have r4 : ∀ W, Upd [B.c, B.ba, B.br] w2 W → W.cell? ⟨gt, hh, none⟩ = some (.int .i64 th.root) ∧ W.frozen? ⟨gt, hh, none⟩ = false := fun W hW => ⟨hW.kept d4 hgc, hW.keptF d4 hgc f4⟩
  have hib1 : (0 : Int) ≤ (hh : Int) := by omega
  have hib2 : (hh : Int) < (tops.length : Int) := by omega
  have MG : Hid (mergeT settleT A' th (single x) = mergeT settleT A' th (single x)) := rfl
  generalize hmt : (mergeT settleT A' th (single x)).1 = mt at *
  generalize hmk : (mergeT settleT A' th (single x)).2 = mk at *
  clear hM2 f4 h3 MG
  have q3 := r3 _ (Upd.refl _ _)
  have q4 := (r4 _ (Upd.refl _ _)).1
  go_region_law
    (first
      | (go_simp; go_at_call 62; (with_reducible refine (km _ (by (repeat (first | assumption | exact Upd.refl _ _ | refine Upd.alloc ?_ _ | refine Upd.drew ?_ | refine Upd.drewN ?_ _ | refine Upd.setCell ?_ ?_ _ | focus (left; simp; done) | focus (right; simp; done) | focus (right; simp; omega))))).mono ?_); rintro e w5 ⟨rfl, hu5a, S5, rk5, hM5, hT5, hr5, hs5⟩; (have hu5 : Upd [B.c, B.ba, B.br] w2 w5 := Upd.trans (by (repeat (first | assumption | exact Upd.refl _ _ | refine Upd.alloc ?_ _ | refine Upd.drew ?_ | refine Upd.drewN ?_ _ | refine Upd.setCell ?_ ?_ _ | focus (left; simp; done) | focus (right; simp; done) | focus (right; simp; omega)))) hu5a); (have hu6 : Upd [B.c, B.ba, B.br, gt] w2 w5 := hu5.mono (by simp)); obtain ⟨d5, f5⟩ := r4 _ hu5; (have q5 := r3 _ hu6)))
  all_goals
    go_wp2
    go_ret
    have hcF := HM.out.cF
    have v1 : Upd (B.blk F gt) w w1 := hw1.mono (fun y hy => by simp only [LB.blk, List.mem_cons]; simp [hy])
    have v2 : Upd (B.blk F gt) w w2 := v1.trans (u2.mono (fun y hy => by simp at hy; simp [LB.blk, hy]))
    have v3 : Upd (B.blk F gt) w w5 := v2.trans (hu5.mono (fun y hy => by
      simp only [List.mem_cons, List.not_mem_nil, or_false] at hy
      simp only [LB.blk, List.mem_cons]
      rcases hy with rfl | rfl | rfl
      · simp [hcF]
      · simp
      · simp))
    subst hmt hmk
    refine ⟨rfl, v3.setCell (Or.inl (by simp [LB.blk])) _, FI.out _ S5 rk5 _ (hM5.setTop hh _) hT5 hr5 (fun y hy => ⟨(hs5 y hy).1, ?_⟩)⟩
    rw [(hs5 y hy).2, if_neg (fun e => hy (by rw [e]; simp [single, BT.nodes]))]
end
end Go.Proofs.Ytechoojcgdjcdaa
