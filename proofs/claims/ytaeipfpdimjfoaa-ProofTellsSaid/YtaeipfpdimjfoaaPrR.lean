/-
  The document's: are these the distances, and do the edges make a tree with them? Conditions: those of each lemma.
-/
import Derived.Test.YtaeipfpdimjfoaaPrD
set_option linter.unusedVariables false
set_option linter.unusedSimpArgs false
namespace Go.Proofs.Ytaeipfpdimjfoaa
open Go Go.RowKit

/-- What the document says of one vertex. -/
def TreeZ (E : List En) (N s : Nat) (W : Nat → Nat) (D B : List Int) (v : Nat) : Prop :=
  D.getD v 0 = ((W v : Nat) : Int) ∧ ((v = s ∨ W v = inf) → B.getD v 0 = -1) ∧ (¬ (v = s ∨ W v = inf) → chainOk E (fun x => B.getD x 0) W s N v = true)
def TreeA (E : List En) (N s : Nat) (W : Nat → Nat) (D B : List Int) : Prop := D.length = N ∧ B.length = N ∧ ∀ v, v < N → TreeZ E N s W D B v
theorem chain_step {E : List En} {b : Nat → Int} {W : Nat → Nat} {s k x : Nat} (hx : x ≠ s) : chainOk E b W s (k + 1) x = (stepOk E b W x && chainOk E b W s k (parN E b x)) := by
  show (decide (x = s) || _) = _
  rw [decide_eq_false hx]; rfl
theorem chain_src {E : List En} {b : Nat → Int} {W : Nat → Nat} {s : Nat} (k : Nat) : chainOk E b W s k s = true := by
  cases k with
  | zero => show decide (s = s) = true; simp
  | succ k => show (decide (s = s) || _) = true; simp
theorem chain_zero {E : List En} {b : Nat → Int} {W : Nat → Nat} {s x : Nat} (hx : x ≠ s) : chainOk E b W s 0 x = false := by
  show decide (x = s) = false; simpa using hx
/-- One answer of a test that is true just when Q. -/
def Tells (Q : Prop) (w : World) (r : Ending) (w' : World) : Prop := ∃ b : Bool, r = .returned (.bool b) ∧ (b = true ↔ Q) ∧ Upd [] w w'
theorem eN_len (E : List Ed) : (eN E).length = E.length := by unfold eN; simp
theorem edN_eN (E : List Ed) (i : Nat) (hi : i < E.length) : edN (eN E) (i : Int) = toN (E.getD i default) := by
  unfold edN eN
  simp [List.getD_eq_getElem?_getD, hi]
theorem step_at {E : List Ed} {b : Nat → Int} {W : Nat → Nat} {x i f t y : Nat} (hi : i < E.length) (hb : b x = (i : Int)) (he : toN (E.getD i default) = ⟨f, t, y⟩) :
    stepOk (eN E) b W x = (decide (t = x) && decide (W f ≠ inf) && decide (W f + y = W x)) ∧ parN (eN E) b x = f := by
  have hp : parN (eN E) b x = f := by rw [parN_of (by omega), hb, edN_eN E i hi, he]
  refine ⟨?_, hp⟩
  unfold stepOk
  rw [hp, hb, edN_eN E i hi, he, eN_len, decide_eq_true (by omega : (0 : Int) ≤ i), decide_eq_true (by omega : (i : Int) < E.length)]
  rfl
theorem step_out {E : List Ed} {b : Nat → Int} {W : Nat → Nat} {x : Nat} (h : b x < 0 ∨ (E.length : Int) ≤ b x) : stepOk (eN E) b W x = false := by
  unfold stepOk
  rw [eN_len]
  rcases h with h | h
  · rw [decide_eq_false (by omega : ¬ (0 : Int) ≤ b x)]; rfl
  · rw [decide_eq_false (by omega : ¬ b x < (E.length : Int))]; simp
set_option maxHeartbeats 8000000 in
set_option maxRecDepth 10000 in
theorem tree_any (w : World) (N : Nat) (va vd vb : Value) (E : List Ed) (D B : List Int) (s : Nat) (hE : SlE w va E) (hD : SlI w [] vd D) (hB : SlI w [] vb B) (hwE : weighB (N : Int) E = true) (hs : s < N) :
    Calls Try.prog 17 #[.agg #[.int .i64 (N : Int), va], .int .i64 (s : Int), vd, vb] w (Tells (TreeA (eN E) N s (passes (eN E) s N) D B) w) := by
  have hr := weigh_right hwE
  have hbd := right_bd hr
  have hN : N ≤ 4096 := by omega
  have hg := weigh_gok hwE hs
  have kd := fun W (hW : Upd [] w W) => dist_any W N va E s (hE.upd hW) hwE hs
  obtain ⟨a, cap, rfl, hcap⟩ := hE.shape
  obtain ⟨ad, capd, rfl, _, _, hcd⟩ := hD
  obtain ⟨ab, capb, rfl, _, _, hcb⟩ := hB
  have HE := Lib.hid hE
  have HD := Lib.hid hcd
  have HB := Lib.hid hcb
  have HW := Lib.hid (And.intro hwE (And.intro hr hg))
  have HR := Lib.hid (show Rx (eN E) s N (9223372036854775807 / N) (passes (eN E) s N) from passes_rx hg N)
  have u0 : Upd [] w (w.alloc (.cells #[.int .i64 N, .slice a E.length cap] 24)) := (Upd.refl _ _).alloc _
  have hE64 : E.length ≤ 65536 := hbd.2.2
  clear hE hwE hr hg hbd hcd hcb
  generalize hn : E.length = n at *
  have HN := Lib.hid hn
  clear hn
  generalize passes (eN E) s N = Z at *
  by_cases hl : D.length = N
  · by_cases hl2 : B.length = N
    · have HL := Lib.hid (And.intro hl hl2)
      rw [hl, hl2]
      clear hl hl2
      have hZl := rowN_len N Z
      have HZL := Lib.hid hZl
      clear hZl
      go_enter Try.func17, Try.ntmps17
      go_wp2_with (first
        | ((go_at_call 25; (with_reducible refine (kd _ (by (repeat (first | assumption | exact Upd.refl _ _ | refine Upd.alloc ?_ _ | refine Upd.drew ?_ | refine Upd.drewN ?_ _ | refine Upd.setCell ?_ ?_ _ | focus (left; simp; done) | focus (right; simp; done) | focus (right; simp; omega))))).mono ?_)); rintro e w1 ⟨v, rfl, hu1, ho1⟩; (obtain ⟨g, c9, rfl, hI, hgb, _⟩ := IE.of_own ho1 (by omega)); (have q0 : w1.cell? ⟨w.heap.size, 0, none⟩ = some (.int .i64 (N : Int)) := hu1.was (by simp)))
        | fail)
      clear q0
      go_loopw [10, 11, 12, 13, 14, 32] (fun _ _ _ _ _ i wr => ∃ k : Nat, k ≤ N ∧ i = .int .i64 (k : Int) ∧ (∀ v, v < k → TreeZ (eN E) N s Z D B v) ∧ Upd [] w1 wr) (fun _ _ _ _ _ i _ => N - (intOf i).toNat)
      case atStart => exact ⟨0, by omega, rfl, fun v hv => by omega, Upd.refl _ _⟩
      case round =>
        obtain ⟨k, hk, rfl, hT, hu⟩ := hrel
        rename World => wr
        have hu1' : Upd [] (w.alloc (.cells #[.int .i64 (N : Int), .slice a n cap] 24)) w1 := hu1
        have HT := Lib.hid hT
        have HU := Lib.hid (u0.trans (hu1'.trans hu))
        have hsz : w.heap.size < wr.heap.size := by have := (hu1'.trans hu).size; simp at this; omega
        have q0 : wr.cell? ⟨w.heap.size, 0, none⟩ = some (.int .i64 (N : Int)) := (hu1'.trans hu).was (by simp)
        have q1 : wr.cell? ⟨w.heap.size, 1, none⟩ = some (.slice a n cap) := (hu1'.trans hu).was (by simp)
        have hIr := hI.upd hu (by simp)
        have HI := Lib.hid hI
        have HS := Lib.hid (And.intro hu1' hu)
        by_cases hkN : k < N
        · obtain ⟨gd, od, rfl, _, _, cd'⟩ := HD.out k (D.getD k 0) (by simp [List.getD_eq_getElem?_getD, HL.out.1, hkN])
          obtain ⟨gb, ob, rfl, _, _, cb'⟩ := HB.out k (B.getD k 0) (by simp [List.getD_eq_getElem?_getD, HL.out.2, hkN])
          have cd := HU.out.was cd'
          have cb := HU.out.was cb'
          have cz := hIr.cell k (by rw [HZL.out]; exact hkN)
          rw [rowN_get hkN] at cz
          have hgl := hIr.lt
          have hkI : (k : Int) < (N : Int) := by omega
          have hwr : IntKind.i64.wrap ((k : Int) + 1) = (k : Int) + 1 := IntWalk.i64_in _ (by omega)
          have HZ := Lib.hid (show TreeZ (eN E) N s Z D B k ↔ D.getD k 0 = ((Z k : Nat) : Int) ∧ ((k = s ∨ Z k = inf) → B.getD k 0 = -1) ∧ (¬ (k = s ∨ Z k = inf) → chainOk (eN E) (fun x => B.getD x 0) Z s N k = true) from Iff.rfl)
          have HNO := Lib.hid (show ¬ TreeZ (eN E) N s Z D B k → (false = true ↔ TreeA (eN E) N s Z D B) from fun h => ⟨fun e => (by cases e), fun e => absurd (e.2.2 k hkN) h⟩)
          have HGO := Lib.hid (show TreeZ (eN E) N s Z D B k → ∀ v, v < k + 1 → TreeZ (eN E) N s Z D B v from fun h v hv => by
            rcases (by omega : v < k ∨ v = k) with h' | h'
            · exact hT v h'
            · rw [h']; exact h)
          clear cd' cb' hu hu1 hu1' hI hIr hT
          generalize D.getD k 0 = dv at *
          generalize hbk : B.getD k 0 = bv at *
          have HBK := Lib.hid hbk
          clear hbk
          by_cases e1 : dv = ((Z k : Nat) : Int)
          · have e1b : (dv != ((Z k : Nat) : Int)) = false := by simpa using e1
            have HE1 := Lib.hid e1
            clear e1
            have hks : ((k : Int) == (s : Int)) = decide (k = s) := by
              rcases Nat.decEq k s with h | h
              · rw [decide_eq_false h]; simp; omega
              · rw [decide_eq_true h]; simp; omega
            have hzi : (((Z k : Nat) : Int) == 9223372036854775807) = decide (Z k = inf) := by
              rw [show inf = 9223372036854775807 from rfl]
              rcases Nat.decEq (Z k) 9223372036854775807 with h | h
              · rw [decide_eq_false h]; simp; omega
              · rw [decide_eq_true h]; simp; omega
            by_cases e2 : k = s
            · rw [decide_eq_true e2] at hks
              have HK := Lib.hid (show TreeZ (eN E) N s Z D B k ↔ bv = -1 from by rw [HZ.out]; exact ⟨fun h => h.2.1 (Or.inl e2), fun h => ⟨HE1.out, fun _ => h, fun h' => absurd (Or.inl e2) h'⟩⟩)
              clear e2 hzi
              by_cases e3 : bv = -1
              · have e3b : (bv != -1) = false := by simpa using e3
                have HK2 := Lib.hid (HGO.out (HK.out.2 e3))
                clear e3
                go_wp2
                go_quiet (fail)
                go_wp2
                go_roundw
                case rel => exact ⟨k + 1, by omega, by go_num, HK2.out, by have := HS.out.2; (repeat (first | assumption | exact Upd.refl _ _ | refine Upd.alloc ?_ _ | refine Upd.drew ?_ | refine Upd.drewN ?_ _ | refine Upd.setCell ?_ ?_ _ | focus (left; simp; done) | focus (right; simp; done) | focus (right; simp; omega)))⟩
                case measure => simp [intOf]; omega
              · have e3b : (bv != -1) = true := by simpa using e3
                have HK2 := Lib.hid (HNO.out (fun h => e3 (HK.out.1 h)))
                clear e3
                go_wp2
                go_quiet (fail)
                go_wp2
                go_ret
                exact ⟨_, rfl, HK2.out, by have := HU.out; (repeat (first | assumption | exact Upd.refl _ _ | refine Upd.alloc ?_ _ | refine Upd.drew ?_ | refine Upd.drewN ?_ _ | refine Upd.setCell ?_ ?_ _ | focus (left; simp; done) | focus (right; simp; done) | focus (right; simp; omega)))⟩
            · rw [decide_eq_false e2] at hks
              by_cases e4 : Z k = inf
              · rw [decide_eq_true e4] at hzi
                have HK := Lib.hid (show TreeZ (eN E) N s Z D B k ↔ bv = -1 from by rw [HZ.out]; exact ⟨fun h => h.2.1 (Or.inr e4), fun h => ⟨HE1.out, fun _ => h, fun h' => absurd (Or.inr e4) h'⟩⟩)
                clear e2 e4
                by_cases e3 : bv = -1
                · have e3b : (bv != -1) = false := by simpa using e3
                  have HK2 := Lib.hid (HGO.out (HK.out.2 e3))
                  clear e3
                  go_wp2
                  go_quiet (fail)
                  go_wp2
                  go_roundw
                  case rel => exact ⟨k + 1, by omega, by go_num, HK2.out, by have := HS.out.2; (repeat (first | assumption | exact Upd.refl _ _ | refine Upd.alloc ?_ _ | refine Upd.drew ?_ | refine Upd.drewN ?_ _ | refine Upd.setCell ?_ ?_ _ | focus (left; simp; done) | focus (right; simp; done) | focus (right; simp; omega)))⟩
                  case measure => simp [intOf]; omega
                · have e3b : (bv != -1) = true := by simpa using e3
                  have HK2 := Lib.hid (HNO.out (fun h => e3 (HK.out.1 h)))
                  clear e3
                  go_wp2
                  go_quiet (fail)
                  go_wp2
                  go_ret
                  exact ⟨_, rfl, HK2.out, by have := HU.out; (repeat (first | assumption | exact Upd.refl _ _ | refine Upd.alloc ?_ _ | refine Upd.drew ?_ | refine Upd.drewN ?_ _ | refine Upd.setCell ?_ ?_ _ | focus (left; simp; done) | focus (right; simp; done) | focus (right; simp; omega)))⟩
              · rw [decide_eq_false e4] at hzi
                have HK := Lib.hid (show TreeZ (eN E) N s Z D B k ↔ chainOk (eN E) (fun x => B.getD x 0) Z s N k = true from by rw [HZ.out]; exact ⟨fun h => h.2.2 (fun h' => h'.elim e2 e4), fun h => ⟨HE1.out, fun h' => (h'.elim e2 e4).elim, fun _ => h⟩⟩)
                clear e2 e4
                go_wp2
                go_quiet (fail)
                go_wp2
                have HC0 := Lib.hid (show ∀ b, chainOk (eN E) (fun x => B.getD x 0) Z s N k = b → (b = false → (false = true ↔ TreeA (eN E) N s Z D B)) ∧ (b = true → ∀ v, v < k + 1 → TreeZ (eN E) N s Z D B v) from fun b hb => ⟨fun h => HNO.out (fun h' => by have h2 := HK.out.1 h'; rw [hb, h] at h2; cases h2), fun h => HGO.out (HK.out.2 (by rw [hb, h]))⟩)
                have hus := HS.out.2
                clear hks hzi cd cb cz e1b q0 q1
                go_loopw [11, 12, 13, 14] (fun at' kk _ _ wr => ∃ x j : Nat, x < N ∧ j ≤ N ∧ at' = .int .i64 (x : Int) ∧ kk = .int .i64 (j : Int) ∧ chainOk (eN E) (fun x => B.getD x 0) Z s N k = chainOk (eN E) (fun x => B.getD x 0) Z s (N - j) x ∧ Upd [] w1 wr) (fun _ kk _ _ _ => (N + 1) - (intOf kk).toNat)
                case atStart => exact ⟨k, 0, hkN, by omega, rfl, rfl, rfl, by (repeat (first | assumption | exact Upd.refl _ _ | refine Upd.alloc ?_ _ | refine Upd.drew ?_ | refine Upd.drewN ?_ _ | refine Upd.setCell ?_ ?_ _ | focus (left; simp; done) | focus (right; simp; done) | focus (right; simp; omega)))⟩
                case round =>
                  clear hus hsz hgl
                  obtain ⟨x, j, hx, hj, rfl, rfl, hch, hu⟩ := hrel
                  rename World => wr
                  have hu1' := HS.out.1
                  have HU := Lib.hid (u0.trans (hu1'.trans hu))
                  have hsz : w.heap.size < wr.heap.size := by have := (hu1'.trans hu).size; simp at this; omega
                  have q0 : wr.cell? ⟨w.heap.size, 0, none⟩ = some (.int .i64 (N : Int)) := (hu1'.trans hu).was (by simp)
                  have q1 : wr.cell? ⟨w.heap.size, 1, none⟩ = some (.slice a n cap) := (hu1'.trans hu).was (by simp)
                  have hxs : ((x : Int) != (s : Int)) = decide (x ≠ s) := by
                    rcases Nat.decEq x s with h | h
                    · rw [decide_eq_true h]; simp; omega
                    · rw [decide_eq_false (fun h' => h' h)]; simp; omega
                  have HS2 := Lib.hid hu
                  by_cases hxe : x = s
                  · rw [decide_eq_false (fun h' => h' hxe)] at hxs
                    have HK2 := Lib.hid ((HC0.out _ rfl).2 (by rw [hch, hxe]; exact chain_src _))
                    clear hxe hch hu hu1'
                    go_wp2
                    go_roundw
                    case rel => exact ⟨k + 1, by omega, by go_num, HK2.out, by have := HS2.out; (repeat (first | assumption | exact Upd.refl _ _ | refine Upd.alloc ?_ _ | refine Upd.drew ?_ | refine Upd.drewN ?_ _ | refine Upd.setCell ?_ ?_ _ | focus (left; simp; done) | focus (right; simp; done) | focus (right; simp; omega)))⟩
                    case measure => simp [intOf]; omega
                  · rw [decide_eq_true hxe] at hxs
                    obtain ⟨_, _, he2, _, _, cb'⟩ := HB.out x (B.getD x 0) (by simp [List.getD_eq_getElem?_getD, HL.out.2, hx])
                    cases he2
                    have cb := HU.out.was cb'
                    have hxI : (x : Int) < (N : Int) := by omega
                    by_cases hjN : j < N
                    · have hch1 : chainOk (eN E) (fun x => B.getD x 0) Z s N k = (stepOk (eN E) (fun x => B.getD x 0) Z x && chainOk (eN E) (fun x => B.getD x 0) Z s (N - (j + 1)) (parN (eN E) (fun x => B.getD x 0) x)) := by
                        rw [hch, show N - j = (N - (j + 1)) + 1 by omega, chain_step hxe]
                      have hjw : IntKind.i64.wrap ((j : Int) + 1) = (j : Int) + 1 := IntWalk.i64_in _ (by omega)
                      have hjNb : decide ((j : Int) ≥ (N : Int)) = false := by simp; omega
                      have HOUT := Lib.hid (show (B.getD x 0 < 0 ∨ (E.length : Int) ≤ B.getD x 0) → (false = true ↔ TreeA (eN E) N s Z D B) from fun h => (HC0.out _ rfl).1 (by rw [hch1, step_out h]; rfl))
                      have HAT := Lib.hid (show ∀ i f t y : Nat, i < E.length → B.getD x 0 = (i : Int) → toN (E.getD i default) = ⟨f, t, y⟩ → chainOk (eN E) (fun x => B.getD x 0) Z s N k = (decide (t = x) && decide (Z f ≠ inf) && decide (Z f + y = Z x) && chainOk (eN E) (fun x => B.getD x 0) Z s (N - (j + 1)) f) from fun i f t y hi hb he => by
                        obtain ⟨h1, h2⟩ := step_at (b := fun x => B.getD x 0) (W := Z) (x := x) hi hb he
                        rw [hch1, h1, h2])
                      clear hch hch1 hxe cb' hu hu1'
                      generalize B.getD x 0 = bx at *
                      by_cases b1 : bx < 0
                      · have HK2 := Lib.hid (HOUT.out (Or.inl b1))
                        have b1b : decide (bx < 0) = true := by simpa using b1
                        clear b1
                        go_wp2
                        go_ret
                        exact ⟨_, rfl, HK2.out, by have := HU.out; (repeat (first | assumption | exact Upd.refl _ _ | refine Upd.alloc ?_ _ | refine Upd.drew ?_ | refine Upd.drewN ?_ _ | refine Upd.setCell ?_ ?_ _ | focus (left; simp; done) | focus (right; simp; done) | focus (right; simp; omega)))⟩
                      · have b1b : decide (bx < 0) = false := by simpa using b1
                        by_cases b2 : bx ≥ (n : Int)
                        · have HK2 := Lib.hid (HOUT.out (Or.inr (by have := HN.out; omega)))
                          have b2b : decide (bx ≥ (n : Int)) = true := by simpa using b2
                          clear b1 b2
                          go_wp2
                          go_ret
                          exact ⟨_, rfl, HK2.out, by have := HU.out; (repeat (first | assumption | exact Upd.refl _ _ | refine Upd.alloc ?_ _ | refine Upd.drew ?_ | refine Upd.drewN ?_ _ | refine Upd.setCell ?_ ?_ _ | focus (left; simp; done) | focus (right; simp; done) | focus (right; simp; omega)))⟩
                        · obtain ⟨i, rfl⟩ : ∃ i : Nat, bx = i := ⟨bx.toNat, by omega⟩
                          have hin : i < n := by omega
                          have b2b : decide ((i : Int) ≥ (n : Int)) = false := by simpa using b2
                          clear b1 b2
                          have hiE : i < E.length := by rw [HN.out]; exact hin
                          have hx' : E[i]? = some (E.getD i default) := by simp [List.getD_eq_getElem?_getD, hiE]
                          have hmem : E.getD i default ∈ E := List.mem_of_getElem? hx'
                          obtain ⟨ge, off, rfl, hg, c0, c1, c2⟩ := (HE.out.upd HU.out).at i hiE
                          have h1 := right_mem HW.out.2.1 hmem
                          have h2 := weigh_mem HW.out.1 hmem
                          have hE3 := HW.out.2.2.e _ (List.mem_map_of_mem (f := toN) hmem)
                          have hat := fun f t y => HAT.out i f t y hiE rfl
                          have hinI : (i : Int) < (n : Int) := by omega
                          generalize E.getD i default = e at *
                          obtain ⟨ef, et, ew⟩ := e
                          dsimp only at c0 c1 c2 h1 h2
                          obtain ⟨f, rfl⟩ : ∃ f : Nat, ef = f := ⟨ef.toNat, by omega⟩
                          obtain ⟨t, rfl⟩ : ∃ t : Nat, et = t := ⟨et.toNat, by omega⟩
                          obtain ⟨y, rfl⟩ : ∃ y : Nat, ew = y := ⟨ew.toNat, by omega⟩
                          have hf : f < N := by omega
                          have hfI : (f : Int) < (N : Int) := by omega
                          have hIr := HI.out.upd HS2.out (by simp)
                          have d1 := hIr.cell f (by rw [HZL.out]; exact hf)
                          have d2 := hIr.cell x (by rw [HZL.out]; exact hx)
                          rw [rowN_get hf] at d1
                          rw [rowN_get hx] at d2
                          have hgl := hIr.lt
                          have hsum : Z f ≠ inf → Z f + y ≤ inf := fun h => HR.out.sum HW.out.2.2.nm (e := ⟨f, t, y⟩) hf (by simpa [toN] using hE3.2.2) h
                          have hle := HR.out.le f
                          have hle2 := HR.out.le x
                          have hq := hat f t y rfl
                          have HC1 := Lib.hid (HC0.out _ hq)
                          have HQ := Lib.hid hq
                          have hzi : (((Z f : Nat) : Int) == 9223372036854775807) = decide (Z f = inf) := by
                            rw [show inf = 9223372036854775807 from rfl]
                            rcases Nat.decEq (Z f) 9223372036854775807 with h | h
                            · rw [decide_eq_false h]; simp; omega
                            · rw [decide_eq_true h]; simp; omega
                          clear hx' hmem hat hq h2 hE3 hIr
                          rw [show inf = 9223372036854775807 from rfl] at *
                          by_cases b3 : t = x
                          · have b3b : ((t : Int) != (x : Int)) = false := by simp; omega
                            by_cases b4 : Z f = 9223372036854775807
                            · rw [decide_eq_true b4] at hzi
                              have HK2 := Lib.hid (HC1.out.1 (by simp [b4]))
                              clear b3 b4 hsum
                              go_wp2
                              go_quiet (fail)
                              go_wp2
                              go_ret
                              exact ⟨_, rfl, HK2.out, by have := HU.out; (repeat (first | assumption | exact Upd.refl _ _ | refine Upd.alloc ?_ _ | refine Upd.drew ?_ | refine Upd.drewN ?_ _ | refine Upd.setCell ?_ ?_ _ | focus (left; simp; done) | focus (right; simp; done) | focus (right; simp; omega)))⟩
                            · rw [decide_eq_false b4] at hzi
                              have hsm := hsum b4
                              have hwx : IntKind.i64.wrap (((Z f : Nat) : Int) + (y : Int)) = ((Z f : Nat) : Int) + (y : Int) := IntWalk.i64_in _ (by omega)
                              by_cases b5 : Z f + y = Z x
                              · have b5b : (((Z f : Nat) : Int) + (y : Int) != ((Z x : Nat) : Int)) = false := by simp; omega
                                have HQ2 := Lib.hid (show chainOk (eN E) (fun x => B.getD x 0) Z s N k = chainOk (eN E) (fun x => B.getD x 0) Z s (N - (j + 1)) f from by rw [HQ.out]; simp [b3, b4, b5])
                                clear b3 b4 b5 hsum
                                go_wp2
                                go_quiet (fail)
                                go_wp2
                                go_roundw
                                case rel => exact ⟨f, j + 1, hf, by omega, rfl, by go_num, HQ2.out, by have := HS2.out; (repeat (first | assumption | exact Upd.refl _ _ | refine Upd.alloc ?_ _ | refine Upd.drew ?_ | refine Upd.drewN ?_ _ | refine Upd.setCell ?_ ?_ _ | focus (left; simp; done) | focus (right; simp; done) | focus (right; simp; omega)))⟩
                                case measure => simp [intOf]; omega
                              · have b5b : (((Z f : Nat) : Int) + (y : Int) != ((Z x : Nat) : Int)) = true := by simp; omega
                                have HK2 := Lib.hid (HC1.out.1 (by simp [b5]))
                                clear b3 b4 b5 hsum
                                go_wp2
                                go_quiet (fail)
                                go_wp2
                                go_ret
                                exact ⟨_, rfl, HK2.out, by have := HU.out; (repeat (first | assumption | exact Upd.refl _ _ | refine Upd.alloc ?_ _ | refine Upd.drew ?_ | refine Upd.drewN ?_ _ | refine Upd.setCell ?_ ?_ _ | focus (left; simp; done) | focus (right; simp; done) | focus (right; simp; omega)))⟩
                          · have b3b : ((t : Int) != (x : Int)) = true := by simp; omega
                            have HK2 := Lib.hid (HC1.out.1 (by simp [b3]))
                            clear b3 hsum
                            go_wp2
                            go_quiet (fail)
                            go_wp2
                            go_ret
                            exact ⟨_, rfl, HK2.out, by have := HU.out; (repeat (first | assumption | exact Upd.refl _ _ | refine Upd.alloc ?_ _ | refine Upd.drew ?_ | refine Upd.drewN ?_ _ | refine Upd.setCell ?_ ?_ _ | focus (left; simp; done) | focus (right; simp; done) | focus (right; simp; omega)))⟩
                    · have hjNb : decide ((j : Int) ≥ (N : Int)) = true := by simp; omega
                      have HK2 := Lib.hid ((HC0.out _ rfl).1 (by rw [hch, show N - j = 0 by omega]; exact chain_zero hxe))
                      clear hxe hch cb' hu hu1'
                      generalize B.getD x 0 = bx at *
                      go_wp2
                      go_ret
                      exact ⟨_, rfl, HK2.out, by have := HU.out; (repeat (first | assumption | exact Upd.refl _ _ | refine Upd.alloc ?_ _ | refine Upd.drew ?_ | refine Upd.drewN ?_ _ | refine Upd.setCell ?_ ?_ _ | focus (left; simp; done) | focus (right; simp; done) | focus (right; simp; omega)))⟩
          · have e1b : (dv != ((Z k : Nat) : Int)) = true := by simpa using e1
            have HK2 := Lib.hid (HNO.out (fun h => e1 (HZ.out.1 h).1))
            clear e1
            go_wp2
            go_quiet (fail)
            go_wp2
            go_ret
            exact ⟨_, rfl, HK2.out, by have := HU.out; (repeat (first | assumption | exact Upd.refl _ _ | refine Upd.alloc ?_ _ | refine Upd.drew ?_ | refine Upd.drewN ?_ _ | refine Upd.setCell ?_ ?_ _ | focus (left; simp; done) | focus (right; simp; done) | focus (right; simp; omega)))⟩
        · obtain rfl : k = N := by omega
          clear hu1 hu hI hIr hT
          go_wp2
          go_ret
          exact ⟨_, rfl, ⟨fun _ => ⟨HL.out.1, HL.out.2, HT.out⟩, fun _ => rfl⟩, HU.out⟩
    · have hln : ((B.length : Int) != (N : Int)) = true := by simp; omega
      have hlb : ((D.length : Int) != (N : Int)) = false := by simp; omega
      have HNO := Lib.hid (show false = true ↔ TreeA (eN E) N s Z D B from ⟨fun e => (by cases e), fun e => absurd e.2.1 hl2⟩)
      clear hl hl2
      generalize D.length = md at *
      generalize B.length = mb at *
      go_enter Try.func17, Try.ntmps17
      go_wp2_with (first
        | ((go_at_call 25; (with_reducible refine (kd _ (by (repeat (first | assumption | exact Upd.refl _ _ | refine Upd.alloc ?_ _ | refine Upd.drew ?_ | refine Upd.drewN ?_ _ | refine Upd.setCell ?_ ?_ _ | focus (left; simp; done) | focus (right; simp; done) | focus (right; simp; omega))))).mono ?_)); rintro e w1 ⟨v, rfl, hu1, ho1⟩; (have q0 : w1.cell? ⟨w.heap.size, 0, none⟩ = some (.int .i64 (N : Int)) := hu1.was (by simp)))
        | fail)
      go_ret
      exact ⟨_, rfl, HNO.out, u0.trans hu1⟩
  · have hlb : ((D.length : Int) != (N : Int)) = true := by simp; omega
    have HNO := Lib.hid (show false = true ↔ TreeA (eN E) N s Z D B from ⟨fun e => (by cases e), fun e => absurd e.1 hl⟩)
    clear hl
    generalize D.length = md at *
    generalize B.length = mb at *
    go_enter Try.func17, Try.ntmps17
    go_wp2_with (first
      | ((go_at_call 25; (with_reducible refine (kd _ (by (repeat (first | assumption | exact Upd.refl _ _ | refine Upd.alloc ?_ _ | refine Upd.drew ?_ | refine Upd.drewN ?_ _ | refine Upd.setCell ?_ ?_ _ | focus (left; simp; done) | focus (right; simp; done) | focus (right; simp; omega))))).mono ?_)); rintro e w1 ⟨v, rfl, hu1, ho1⟩; (have q0 : w1.cell? ⟨w.heap.size, 0, none⟩ = some (.int .i64 (N : Int)) := hu1.was (by simp)))
      | fail)
    go_ret
    exact ⟨_, rfl, HNO.out, u0.trans hu1⟩
end Go.Proofs.Ytaeipfpdimjfoaa
