/-
  Leftist heaps: Meld, Extract. Conditions: those of each lemma.
-/
import Derived.Test.YtechoojcgdjcdaaLf15
import Derived.Test.YtechoojcgdjcdaaCells5
import Derived.Deep.RegionLaw
set_option linter.unusedVariables false
set_option linter.unusedSimpArgs false
namespace Go.Proofs.Ytechoojcgdjcdaa
open Go Go.RowKit

section
variable {w : World} {B : LB} {F : List Nat} {gt ct : Nat} {A : NS} {st : Nat} {tr : Nat → BT} {S : TS} {rk : Nat → Nat} {tops : List Int}
theorem lmeld_no (h : LfAt w B F gt ct A st tr) (a b : Int) (hB : joinB A a b = false) :
    Calls Try.prog 136 #[.pointer (some ⟨B.n0, 0, none⟩), .int .i64 a, .int .i64 b] w fun e w' => e = .returned (.bool false) ∧ w' = w := by
  obtain ⟨S, rk, tops, hM, -, -, -⟩ := h
  have k := cjoin_no hM.cells a b hB
  have h0 := hM.h0
  clear hM
  go_enter Try.func136, Try.ntmps136
  go_wp2_with (first | (go_at_call 140; (with_reducible refine (k).mono ?_); rintro e w9 ⟨rfl, hw9⟩; rw [hw9]; clear hw9 w9))
  go_ret
  exact ⟨rfl, rfl⟩
def meldT (up : Nat → BT → BT → BT) (A : NS) (tr : Nat → BT) (a b : Nat) : BT × Nat := mergeT up (joinN A a b) (tr a) (tr b)
set_option maxHeartbeats 8000000 in
theorem lmeld_yes (h : LfAt w B F gt ct A st tr) (a b : Nat) (hj : joinB A a b = true) :
    Calls Try.prog 136 #[.pointer (some ⟨B.n0, 0, none⟩), .int .i64 (a : Int), .int .i64 (b : Int)] w fun e w' => e = .returned (.bool true) ∧ Upd (B.blk F gt) w w' ∧
      LfAt w' B F gt ct (joinN A a b) (satS st (meldT settleT A tr a b).2) (fun q => if q = a then (meldT settleT A tr a b).1 else if q = b then .nil else tr q) := by
  obtain ⟨S, rk, tops, hM, hI, hL, hR⟩ := h
  obtain ⟨j1, j2, j3⟩ := (joinB_iff _ _ _).1 hj
  have a1 := (hasN_iff _ _).1 j1
  have a2 := (hasN_iff _ _).1 j2
  have hne : a ≠ b := fun e => j3 (by rw [e])
  have hcs := joinN_len A a b
  have hhs : (joinN A a b).hs.length = A.hs.length := by unfold joinN; rw [if_pos hj]; simp
  have hta := hI.top a (by omega)
  have htb := hI.top b (by omega)
  have hX : ((tr a).nodes ++ (tr b).nodes).Nodup := by
    rw [List.nodup_append]
    refine ⟨hI.nd a, hI.nd b, fun x hx y hy e2 => ?_⟩
    have b1 := (hI.mem a x).1 hx
    have b2 := (hI.mem b y).1 hy
    rw [e2] at b1
    omega
  have hin : ∀ y, y ∈ (tr a).nodes ++ (tr b).nodes → inN (joinN A a b) (y : Int) = true := fun y hy => by
    rw [inN_nat, hcs, join_c hj]
    rw [List.mem_append] at hy
    rcases hy with hy | hy
    · have := (hI.mem a y).1 hy
      refine ⟨this.2.1, ?_⟩
      show 0 < (if _ then _ else _ : Int)
      split <;> omega
    · have := (hI.mem b y).1 hy
      refine ⟨this.2.1, ?_⟩
      show 0 < (if _ then _ else _ : Int)
      split <;> omega
  obtain ⟨mp, mh⟩ := merge_ok settle_ok (joinN A a b) _ (tr a) (tr b) (Nat.le_refl _)
  have mh' := mh (join_heap hj (hI.heap a)) (join_heap hj (hI.heap b)) hX
  have ml := merge_lean (joinN A a b) _ (tr a) (tr b) (Nat.le_refl _) (hL a) (hL b)
  have hta' := hI.isT a
  have htb' := hI.isT b
  have hra := hR a
  have hrb := hR b
  unfold meldT
  have FI : Hid (∀ (W : World) (S' : TS) (rk' : Nat → Nat) (st' : Nat), LfM W B F gt ct (joinN A a b) st' S' rk' ((tops.set a (mergeT settleT (joinN A a b) (tr a) (tr b)).1.root).set b (-1)) → IsT S' (-1) (mergeT settleT (joinN A a b) (tr a) (tr b)).1.root (mergeT settleT (joinN A a b) (tr a) (tr b)).1 → RkOk rk' (mergeT settleT (joinN A a b) (tr a) (tr b)).1 →
      (∀ y, y ∉ (tr a).nodes ++ (tr b).nodes → S.at S' y ∧ rk' y = rk y) → LfAt W B F gt ct (joinN A a b) st' (fun q => if q = a then (mergeT settleT (joinN A a b) (tr a) (tr b)).1 else if q = b then .nil else tr q)) := fun W S' rk' st' b1 b2 b3 b4 => by
    refine ⟨S', rk', _, b1, hI.join hj b2 mp mh' (fun y hy => (b4 y hy).1) (fun q hq => ?_), fun q => ?_, fun q => ?_⟩
    · have hl : tops.length = A.hs.length := hM.topn
      rw [List.getD_eq_getElem?_getD, List.getElem?_set, List.length_set]
      by_cases e : q = a
      · rw [if_neg (by omega), List.getElem?_set, if_pos e.symm, if_pos (by omega), if_pos e]; rfl
      · by_cases e2 : q = b
        · rw [if_pos e2.symm, if_pos (by omega), if_neg e, if_pos e2]; rfl
        · rw [if_neg (by omega), List.getElem?_set, if_neg (by omega), if_neg e, if_neg e2, ← List.getD_eq_getElem?_getD]
    · show Lean (if q = a then _ else if q = b then _ else _)
      split
      · exact ml
      · split
        · exact trivial
        · exact hL q
    · show RkOk rk' (if q = a then _ else if q = b then _ else _)
      split
      · exact b3
      · split
        · exact trivial
        · rename_i hq1 hq2
          refine (hR q).frame (fun y hy => (b4 y (fun hm => ?_)).2)
          have c2 := (hI.mem q y).1 hy
          rw [List.mem_append] at hm
          rcases hm with hm | hm
          · have c1 := (hI.mem a y).1 hm
            omega
          · have c1 := (hI.mem b y).1 hm
            omega
  have hga : a < tops.length := by rw [hM.topn]; omega
  have hgb : b < tops.length := by rw [hM.topn]; omega
  have kj := cjoin_yes hM.cells a b hj
  have h0 := hM.h0
  have hAh := hM.cells.ok.h1
  have HM := Lib.hid hM
  have HSE := Lib.hid (And.intro hM.sep hM.sepF)
  have hcF := hM.cF
  have HH := Lib.hid (And.intro hX (And.intro hin (And.intro (And.intro hta' htb') (And.intro hra hrb))))
  clear hM hI hL hR hX hin mp mh mh' ml hta' htb' hra hrb j1 j2 j3 a1 a2
  generalize hA' : joinN A a b = A' at *
  generalize htra : tr a = ta at *
  generalize htrb : tr b = tb at *
  go_enter Try.func136, Try.ntmps136
  go_wp2_with (first
    | ((go_at_call 140; (with_reducible refine (kj).mono ?_)); rintro e w1 ⟨rfl, hC1, hu1⟩)
    | fail)
  have hM1 := HM.out.setC hu1 hC1 (fun y hy => Or.inl hy) hcs hhs
  have km := fun W (hW : Upd [] w1 W) => lmerge_any (hM1.upd0 hW) HH.out.2.2.1.1 HH.out.2.2.1.2 HH.out.1 HH.out.2.1 HH.out.2.2.2.1 HH.out.2.2.2.2
  have d4 := hM1.topI.cell a hga
  rw [hta] at d4
  have d4b := hM1.topI.cell b hgb
  rw [htb] at d4b
  have f4 := hM1.topI.free a
  have f4b := hM1.topI.free b
  have h3 := hM1.h3
  have hgl := hM1.lt gt (by simp [LB.blk])
  have HM1 := Lib.hid hM1
  have hn0g : B.n0 ∉ [B.c, B.ba, B.br, gt] := by
    have a1 := HSE.out
    have a2 : B.n0 ≠ B.c := fun e => a1.2.1 (by rw [e]; exact hcF)
    simp; omega
  have hgc : gt ∉ [B.c, B.ba, B.br] := by
    have a1 := HSE.out
    have a2 : gt ≠ B.c := fun e => a1.2.2.2.2.2 (by rw [e]; exact hcF)
    simp; omega
  have r3 : ∀ W, Upd [B.c, B.ba, B.br, gt] w1 W → W.cell? ⟨B.n0, 3, none⟩ = some (.slice (some ⟨gt, 0, none⟩) tops.length ct) := fun W hW => hW.kept h3 hn0g
  have r4 : ∀ W, Upd [B.c, B.ba, B.br] w1 W → W.cell? ⟨gt, a, none⟩ = some (.int .i64 ta.root) ∧ W.frozen? ⟨gt, a, none⟩ = false := fun W hW => ⟨hW.kept d4 hgc, hW.keptF d4 hgc f4⟩
  have r5 : ∀ W, Upd [B.c, B.ba, B.br] w1 W → W.cell? ⟨gt, b, none⟩ = some (.int .i64 tb.root) ∧ W.frozen? ⟨gt, b, none⟩ = false := fun W hW => ⟨hW.kept d4b hgc, hW.keptF d4b hgc f4b⟩
  have hib1 : (0 : Int) ≤ (a : Int) := by omega
  have hib2 : (a : Int) < (tops.length : Int) := by omega
  have hib3 : (0 : Int) ≤ (b : Int) := by omega
  have hib4 : (b : Int) < (tops.length : Int) := by omega
  generalize hmt : (mergeT settleT A' ta tb).1 = mt at *
  generalize hmk : (mergeT settleT A' ta tb).2 = mk at *
  have s1 : B.n0 ≠ gt := HSE.out.1.1.2.2.2
  clear hM1 f4 f4b h3
  have q3 := r3 _ (Upd.refl _ _)
  have q4 := (r4 _ (Upd.refl _ _)).1
  have q4b := (r5 _ (Upd.refl _ _)).1
  go_region_law
    (first
      | (go_simp; go_at_call 62; (with_reducible refine (km _ (by (repeat (first | assumption | exact Upd.refl _ _ | refine Upd.alloc ?_ _ | refine Upd.drew ?_ | refine Upd.drewN ?_ _ | refine Upd.setCell ?_ ?_ _ | focus (left; simp; done) | focus (right; simp; done) | focus (right; simp; omega))))).mono ?_); rintro e w5 ⟨rfl, hu5a, S5, rk5, hM5, hT5, hr5, hs5⟩; (have hu5 : Upd [B.c, B.ba, B.br] w1 w5 := Upd.trans (by (repeat (first | assumption | exact Upd.refl _ _ | refine Upd.alloc ?_ _ | refine Upd.drew ?_ | refine Upd.drewN ?_ _ | refine Upd.setCell ?_ ?_ _ | focus (left; simp; done) | focus (right; simp; done) | focus (right; simp; omega)))) hu5a); (have hu6 : Upd [B.c, B.ba, B.br, gt] w1 w5 := hu5.mono (by simp)); obtain ⟨d5, f5⟩ := r4 _ hu5; obtain ⟨d5b, f5b⟩ := r5 _ hu5; (have q5 := r3 _ hu6)))
  all_goals
    go_wp2
    go_ret
    have v1 : Upd (B.blk F gt) w w1 := hu1.mono (fun y hy => by simp only [LB.blk, List.mem_cons]; simp [hy])
    have v3 : Upd (B.blk F gt) w w5 := v1.trans (hu5.mono (fun y hy => by
      simp only [List.mem_cons, List.not_mem_nil, or_false] at hy
      simp only [LB.blk, List.mem_cons]
      rcases hy with rfl | rfl | rfl
      · simp [hcF]
      · simp
      · simp))
    subst hmt hmk
    exact ⟨rfl, (v3.setCell (Or.inl (by simp [LB.blk])) _).setCell (Or.inl (by simp [LB.blk])) _, FI.out _ S5 rk5 _ ((hM5.setTop a _).setTop b (-1)) hT5 hr5 hs5⟩
theorem lextract_none (h : LfAt w B F gt ct A st tr) (x : Int) (hx : -9223372036854775808 ≤ x ∧ x ≤ 9223372036854775807) (hn : lenN A x = 0) :
    Calls Try.prog 135 #[.pointer (some ⟨B.n0, 0, none⟩), .int .i64 x] w fun e w' => e = .returned (.tuple #[.int .i64 0, .bool false]) ∧ w' = w := by
  have k := lmin_none h x hx hn
  go_enter Try.func135, Try.ntmps135
  go_wp2_with (first | (go_at_call 137; (with_reducible refine (k).mono ?_); rintro e w9 ⟨rfl, hw9⟩; rw [hw9]; clear hw9 w9) | fail)
  go_ret2
  exact ⟨rfl, rfl⟩
theorem lextract_some (h : LfAt w B F gt ct A st tr) (g : Nat) (hn : 0 < lenN A g) :
    Calls Try.prog 135 #[.pointer (some ⟨B.n0, 0, none⟩), .int .i64 (g : Int)] w fun e w' => ∃ m : Nat, minN A g = some m ∧ e = .returned (.tuple #[.int .i64 (m : Int), .bool true]) ∧ Upd (B.blk F gt) w w' ∧
      LfAt w' B F gt ct (dropN A m) (satS st (ldelT A (tr g) m).2) (fun q => if q = g then (ldelT A (tr g) m).1 else tr q) := by
  have k := lmin_some h g hn
  have h' := h
  obtain ⟨S, rk, tops, hM, hI, hL, hR⟩ := h'
  have kd := fun m hm => ldelete_yes h g m hm
  have hroot : ∀ m : Nat, (tr g).root = m → m ∈ (tr g).nodes := fun m hm => by
    have hne : tr g ≠ .nil := fun e => by rw [e] at hm; have : (-1 : Int) = m := hm; omega
    have := (root_mem hne).1
    rw [hm] at this; simpa using this
  clear hM hI hL hR h
  go_enter Try.func135, Try.ntmps135
  go_wp2_with (first
    | ((go_at_call 137; (with_reducible refine (k).mono ?_)); rintro e w1 ⟨m, hm1, hm2, rfl, rfl⟩; (have kd2 := kd m (hroot m hm2)))
    | ((go_at_call 133; (with_reducible refine (kd2).mono ?_)); rintro e w2 ⟨rfl, hu2, hL2⟩)
    | fail)
  go_ret2
  exact ⟨m, hm1, rfl, hu2, hL2⟩
end
end Go.Proofs.Ytechoojcgdjcdaa
