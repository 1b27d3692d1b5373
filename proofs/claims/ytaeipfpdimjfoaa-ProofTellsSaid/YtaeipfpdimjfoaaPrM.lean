/-
  By marks: does one come back to the source from everywhere? Conditions: those of each lemma.
-/
import Derived.Test.YtaeipfpdimjfoaaPrS
import Derived.Deep.LoopGhost
import Derived.Deep.OwnRows
set_option linter.unusedVariables false
set_option linter.unusedSimpArgs false
namespace Go.Proofs.Ytaeipfpdimjfoaa
open Go Go.RowKit

theorem intInfo' : (Try.prog.info? 3).map (fun i => (i.zero, i.size, i.bytes)) = some (some (.int .i64 0), 1, 8) := by kernel_rfl
theorem made_row (w : World) (n : Nat) (hn : n ≤ 1000000) : IE 3 (w.alloc (.cells (madeCells #[.int .i64 0] n) 3)) w.heap.size n (rowN n (fun _ => 0)) := by
  have e : madeCells #[.int .i64 0] n = (intsZ (rowN n (fun _ => 0))).toArray := by
    apply Array.ext
    · simp [madeCells, intsZ, rowN]
    · intro i h1 h2
      simp [madeCells, intsZ, rowN, Nat.mod_one]
  rw [e]
  exact ⟨by rw [rowN_len]; exact own_lit w _ 3 0 1 n (by rw [intsZ_len, rowN_len]; omega) (by omega) (by unfold maxLen; omega)⟩
theorem made_set (w : World) (n s x : Nat) (hn : n ≤ 1000000) : IE 3 (w.alloc (.cells ((madeCells #[.int .i64 0] n).setIfInBounds s (.int .i64 ((x : Nat) : Int))) 3)) w.heap.size n (rowN n (setN (fun _ => 0) s x)) := by
  have e : (madeCells #[.int .i64 0] n).setIfInBounds s (.int .i64 ((x : Nat) : Int)) = (intsZ (rowN n (setN (fun _ => 0) s x))).toArray := by
    apply Array.ext
    · simp [madeCells, intsZ, rowN]
    · intro i h1 h2
      rw [Array.getElem_setIfInBounds]
      · by_cases hi : s = i
        · simp [hi, intsZ, rowN, setN]
        · have hi' : ¬ i = s := fun e => hi e.symm
          simp [hi, hi', madeCells, intsZ, rowN, setN, Nat.mod_one]
      · simpa using h1
  rw [e]
  exact ⟨by rw [rowN_len]; exact own_lit w _ 3 0 1 n (by rw [intsZ_len, rowN_len]; omega) (by omega) (by unfold maxLen; omega)⟩
/-- What is asked. -/
def Rooted (E : List En) (b : Nat → Int) (s N : Nat) : Prop := ∀ v, v < N → b v ≠ -1 → GoodV E b s v
set_option maxHeartbeats 8000000 in
set_option maxRecDepth 10000 in
theorem rooted_any (w : World) (N : Nat) (va vb : Value) (E : List Ed) (B : List Int) (s : Nat) (hE : SlE w va E) (hB : SlI w [] vb B) (hwE : weighB (N : Int) E = true) (hs : s < N) (hl : B.length = N)
    (hBk : ∀ x, x < N → B.getD x 0 ≠ -1 → 0 ≤ B.getD x 0 ∧ B.getD x 0 < E.length) (hok : ByOk (eN E) (fun x => B.getD x 0) s N) :
    Calls Try.prog 15 #[.agg #[.int .i64 (N : Int), va], .int .i64 (s : Int), vb] w (Tells (Rooted (eN E) (fun x => B.getD x 0) s N) w) := by
  have hr := weigh_right hwE
  have hbd := right_bd hr
  have hN : N ≤ 4096 := by omega
  obtain ⟨a, cap, rfl, hcap⟩ := hE.shape
  obtain ⟨ab, capb, rfl, _, _, hcb⟩ := hB
  have hmk := run_make_row' (P := Try.prog) 26 3 (.int .i64 0) 8 Try.underlying26 intInfo' rfl .i64 .i64 N (by omega) (by omega)
  have HE := Lib.hid hE
  have HB := Lib.hid hcb
  have HW := Lib.hid (And.intro hwE (And.intro hr (And.intro hBk hok)))
  have u0 : Upd [] w (w.alloc (.cells #[.int .i64 N, .slice a E.length cap] 24)) := (Upd.refl _ _).alloc _
  have hE64 : E.length ≤ 65536 := hbd.2.2
  rw [hl]
  have HL := Lib.hid hl
  have hsI : (s : Int) < (N : Int) := by omega
  have hN1 : IntKind.i64.wrap ((N : Int) + 1) = (N : Int) + 1 := IntWalk.i64_in _ (by omega)
  have hI0 := made_row (w.alloc (.cells #[.int .i64 N, .slice a E.length cap] 24)) N (by omega)
  simp only [World.size_alloc] at hI0
  have hI1 := made_set (w.alloc (.cells #[.int .i64 N, .slice a E.length cap] 24)) N s (N + 1) (by omega)
  simp only [World.size_alloc] at hI1
  have HI1 := Lib.hid hI1
  have hf0 := hI0.free s
  have hc0 := hI0.cell s (by rw [rowN_len]; exact hs)
  clear hE hwE hr hbd hcb hl hBk hok hI0 hI1
  generalize hn : E.length = n at *
  have HN := Lib.hid hn
  clear hn
  go_enter Try.func15, Try.ntmps15
  go_wp2
  clear hf0 hc0
  go_loopw [8, 9, 21] (fun _ _ i wr => ∃ (v : Nat) (mk : Nat → Nat), v ≤ N ∧ i = .int .i64 (v : Int) ∧ MarkO (eN E) (fun x => B.getD x 0) s N v mk ∧ IE 3 wr (w.heap.size + 1) N (rowN N mk) ∧ Upd [] (w.alloc (.cells #[.int .i64 N, .slice a n cap] 24)) wr) (fun _ _ i _ => N - (intOf i).toNat)
  case atStart => exact ⟨0, _, by omega, rfl, mark_zero, HI1.out, by (repeat (first | assumption | exact Upd.refl _ _ | refine Upd.alloc ?_ _ | refine Upd.drew ?_ | refine Upd.drewN ?_ _ | refine Upd.setCell ?_ ?_ _ | focus (left; simp; done) | focus (right; simp; done) | focus (right; simp; omega)))⟩
  case round =>
    clear hmk hN1
    obtain ⟨v, mk, hv, rfl, hM, hI, hu⟩ := hrel
    rename World => wr
    have hwr : IntKind.i64.wrap ((v : Int) + 1) = (v : Int) + 1 := IntWalk.i64_in _ (by omega)
    have HM := Lib.hid hM
    have HLN := Lib.hid (rowN_len N)
    by_cases hvN : v < N
    · have hvI : (v : Int) < (N : Int) := by omega
      have hMI := mark_in hM hvN
      go_wp2
      go_loopg [9] (cntS (fun x => mk x = 0) N) (fun fu s9 wr => ∃ (x : Nat) (mk : Nat → Nat), s9 = .int .i64 (x : Int) ∧ cntS (fun x => mk x = 0) N ≤ fu ∧ MarkI (eN E) (fun x => B.getD x 0) s N v mk x ∧ IE 3 wr (w.heap.size + 1) N (rowN N mk) ∧ Upd [] (w.alloc (.cells #[.int .i64 N, .slice a n cap] 24)) wr)
      case atStart => exact ⟨v, mk, rfl, Nat.le_refl _, hMI, hI, hu⟩
      case round =>
        rename Nat => fu
        clear hMI hI hu hM HM mk
        obtain ⟨x, mk, rfl, hcn, hM, hI, hu⟩ := hrel
        rename World => wr
        have hx := hM.aN
        have hxI : (x : Int) < (N : Int) := by omega
        have cm := hI.cell x (by rw [HLN.out]; exact hx)
        have cv := hI.cell v (by rw [HLN.out]; exact hvN)
        rw [rowN_get hx] at cm
        have fm := hI.free x
        have hgl := hI.lt
        have HU := Lib.hid (u0.trans hu)
        have q0 : wr.cell? ⟨w.heap.size, 0, none⟩ = some (.int .i64 (N : Int)) := hu.was (by simp)
        have q1 : wr.cell? ⟨w.heap.size, 1, none⟩ = some (.slice a n cap) := hu.was (by simp)
        obtain ⟨gb, ob, rfl, hgbl, _, cb'⟩ := HB.out x (B.getD x 0) (by simp [List.getD_eq_getElem?_getD, HL.out, hx])
        obtain ⟨_, _, he2, _, _, cv'⟩ := HB.out v (B.getD v 0) (by simp [List.getD_eq_getElem?_getD, HL.out, hvN])
        cases he2
        have cb := HU.out.was cb'
        have cbv := HU.out.was cv'
        have hbx := HW.out.2.2.1 x hx
        have HX := Lib.hid (And.intro hM (And.intro hI (And.intro hu hcn)))
        have hm0 : (((mk x : Nat) : Int) == 0) = decide (mk x = 0) := by
          rcases Nat.decEq (mk x) 0 with h | h
          · rw [decide_eq_false h]; simp; omega
          · rw [decide_eq_true h]; simp; omega
        have hmv : (((mk x : Nat) : Int) == (v : Int) + 1) = decide (mk x = v + 1) := by
          rcases Nat.decEq (mk x) (v + 1) with h | h
          · rw [decide_eq_false h]; simp; omega
          · rw [decide_eq_true h]; simp; omega
        have hxs : ((x : Int) != (s : Int)) = decide (x ≠ s) := by
          rcases Nat.decEq x s with h | h
          · rw [decide_eq_true h]; simp; omega
          · rw [decide_eq_false (fun h' => h' h)]; simp; omega
        clear hM hI hu cb' cv' hcn cv
        generalize hbxe : B.getD x 0 = bx at *
        generalize hbve : B.getD v 0 = bv at *
        have HBE := Lib.hid (And.intro hbxe hbve)
        clear hbxe hbve
        by_cases hmz : mk x = 0
        · rw [decide_eq_true hmz] at hm0
          rw [decide_eq_false (by omega : ¬ mk x = v + 1)] at hmv
          by_cases hbn : bx = -1
          · have hbnb : (bx != -1) = false := by simpa using hbn
            have HNX := Lib.hid (mark_next HW.out.2.2.2 HX.out.1 (fun h => h.2 (HBE.out.1.trans hbn)) (fun h => by omega))
            clear hmz hbn hbx
            go_wp2
            go_roundw
            case rel => exact ⟨v + 1, mk, by omega, by go_num, HNX.out, HX.out.2.1.upd (S := []) (by (repeat (first | assumption | exact Upd.refl _ _ | refine Upd.alloc ?_ _ | refine Upd.drew ?_ | refine Upd.drewN ?_ _ | refine Upd.setCell ?_ ?_ _ | focus (left; simp; done) | focus (right; simp; done) | focus (right; simp; omega)))) (by simp), by have := HX.out.2.2.1; (repeat (first | assumption | exact Upd.refl _ _ | refine Upd.alloc ?_ _ | refine Upd.drew ?_ | refine Upd.drewN ?_ _ | refine Upd.setCell ?_ ?_ _ | focus (left; simp; done) | focus (right; simp; done) | focus (right; simp; omega)))⟩
            case measure => simp [intOf]; omega
          · have hbnb : (bx != -1) = true := by simpa using hbn
            obtain ⟨h1, h2⟩ := hbx hbn
            obtain ⟨i, rfl⟩ : ∃ i : Nat, bx = i := ⟨bx.toNat, by omega⟩
            have hi : i < n := by omega
            have hiE : i < E.length := by rw [HN.out]; exact hi
            obtain ⟨ge, off, rfl, hg, c0', _, _⟩ := HE.out.at i hiE
            have c0 := HU.out.was c0'
            have hne1 : ¬ gb = w.heap.size + 1 := by omega
            have hne2 : ¬ ge = w.heap.size + 1 := by omega
            have hne3 : ¬ w.heap.size + 1 = gb := by omega
            have hne4 : ¬ w.heap.size + 1 = ge := by omega
            clear c0'
            have hpar : parN (eN E) (fun x => B.getD x 0) x = (E.getD i default).f.toNat := by
              rw [parN_of (by show B.getD x 0 ≠ -1; rw [HBE.out.1]; exact hbn)]
              show (edN (eN E) (B.getD x 0)).f = _
              rw [HBE.out.1, edN_eN E i hiE]; rfl
            have h3 := right_mem HW.out.2.1 (List.mem_of_getElem? (show E[i]? = some (E.getD i default) by simp [List.getD_eq_getElem?_getD, hiE]))
            generalize E.getD i default = e at *
            obtain ⟨ef, et, ew⟩ := e
            dsimp only at c0 h3 hpar
            obtain ⟨f, rfl⟩ : ∃ f : Nat, ef = f := ⟨ef.toNat, by omega⟩
            have hST := mark_step HW.out.2.2.2 HX.out.1 hmz (by show B.getD x 0 ≠ -1; rw [HBE.out.1]; exact hbn)
            rw [hpar] at hST
            have hlt := mark_less (v := v) hx hmz
            have hle := HX.out.2.2.2
            obtain ⟨fv, rfl⟩ : ∃ fv, fu = fv + 1 := ⟨fu - 1, by omega⟩
            have HS := Lib.hid (And.intro hST (show cntS (fun y => setN mk x (v + 1) y = 0) N ≤ fv by omega))
            have hiI : (i : Int) < (n : Int) := by omega
            have hsetr : (rowN N mk).set x (((v + 1 : Nat)) : Int) = rowN N (setN mk x (v + 1)) := rowN_set
            have HR := Lib.hid hsetr
            have hci : ((v + 1 : Nat) : Int) = (v : Int) + 1 := by omega
            have HCI := Lib.hid hci
            clear hST hpar hmz hbn hbx hlt hle hsetr hci h1 h3
            go_wp2
            go_quiet (fail)
            go_wp2
            go_roundg fv
            case rel => exact ⟨f, _, rfl, HS.out.2, HS.out.1, by rw [← HR.out, HCI.out]; exact (HX.out.2.1.set x _).upd (S := []) (by (repeat (first | assumption | exact Upd.refl _ _ | refine Upd.alloc ?_ _ | refine Upd.drew ?_ | refine Upd.drewN ?_ _ | refine Upd.setCell ?_ ?_ _ | focus (left; simp; done) | focus (right; simp; done) | focus (right; simp; omega)))) (by simp), by have := HX.out.2.2.1; (repeat (first | assumption | exact Upd.refl _ _ | refine Upd.alloc ?_ _ | refine Upd.drew ?_ | refine Upd.drewN ?_ _ | refine Upd.setCell ?_ ?_ _ | focus (left; simp; done) | focus (right; simp; done) | focus (right; simp; omega)))⟩
            all_goals omega
        · rw [decide_eq_false hmz] at hm0
          by_cases hm1 : mk x = v + 1
          · rw [decide_eq_true hm1] at hmv
            by_cases hbn : bv = -1
            · have hbnb : (bv != -1) = false := by simpa using hbn
              have HNX := Lib.hid (mark_next HW.out.2.2.2 HX.out.1 (fun h => hmz h.1) (fun h => h.2.1 (HBE.out.2.trans hbn)))
              clear hmz hm1 hbn hbx
              go_wp2
              go_roundw
              case rel => exact ⟨v + 1, mk, by omega, by go_num, HNX.out, HX.out.2.1.upd (S := []) (by (repeat (first | assumption | exact Upd.refl _ _ | refine Upd.alloc ?_ _ | refine Upd.drew ?_ | refine Upd.drewN ?_ _ | refine Upd.setCell ?_ ?_ _ | focus (left; simp; done) | focus (right; simp; done) | focus (right; simp; omega)))) (by simp), by have := HX.out.2.2.1; (repeat (first | assumption | exact Upd.refl _ _ | refine Upd.alloc ?_ _ | refine Upd.drew ?_ | refine Upd.drewN ?_ _ | refine Upd.setCell ?_ ?_ _ | focus (left; simp; done) | focus (right; simp; done) | focus (right; simp; omega)))⟩
              case measure => simp [intOf]; omega
            · have hbnb : (bv != -1) = true := by simpa using hbn
              by_cases hxe : x = s
              · rw [decide_eq_false (fun h => h hxe)] at hxs
                have HNX := Lib.hid (mark_next HW.out.2.2.2 HX.out.1 (fun h => hmz h.1) (fun h => h.2.2 hxe))
                clear hmz hm1 hbn hbx hxe
                go_wp2
                go_roundw
                case rel => exact ⟨v + 1, mk, by omega, by go_num, HNX.out, HX.out.2.1.upd (S := []) (by (repeat (first | assumption | exact Upd.refl _ _ | refine Upd.alloc ?_ _ | refine Upd.drew ?_ | refine Upd.drewN ?_ _ | refine Upd.setCell ?_ ?_ _ | focus (left; simp; done) | focus (right; simp; done) | focus (right; simp; omega)))) (by simp), by have := HX.out.2.2.1; (repeat (first | assumption | exact Upd.refl _ _ | refine Upd.alloc ?_ _ | refine Upd.drew ?_ | refine Upd.drewN ?_ _ | refine Upd.setCell ?_ ?_ _ | focus (left; simp; done) | focus (right; simp; done) | focus (right; simp; omega)))⟩
                case measure => simp [intOf]; omega
              · rw [decide_eq_true hxe] at hxs
                have HNX := Lib.hid (show false = true ↔ Rooted (eN E) (fun x => B.getD x 0) s N from ⟨fun e => (by cases e), fun e => absurd (e v hvN (by show B.getD v 0 ≠ -1; rw [HBE.out.2]; exact hbn)) (mark_ring HW.out.2.2.2 HX.out.1 hm1 (by show B.getD v 0 ≠ -1; rw [HBE.out.2]; exact hbn) hxe)⟩)
                clear hmz hm1 hbn hbx hxe
                go_wp2
                go_ret
                exact ⟨_, rfl, HNX.out, by have := HU.out; (repeat (first | assumption | exact Upd.refl _ _ | refine Upd.alloc ?_ _ | refine Upd.drew ?_ | refine Upd.drewN ?_ _ | refine Upd.setCell ?_ ?_ _ | focus (left; simp; done) | focus (right; simp; done) | focus (right; simp; omega)))⟩
          · rw [decide_eq_false hm1] at hmv
            have HNX := Lib.hid (mark_next HW.out.2.2.2 HX.out.1 (fun h => hmz h.1) (fun h => hm1 h.1))
            clear hmz hm1 hbx
            go_wp2
            go_roundw
            case rel => exact ⟨v + 1, mk, by omega, by go_num, HNX.out, HX.out.2.1.upd (S := []) (by (repeat (first | assumption | exact Upd.refl _ _ | refine Upd.alloc ?_ _ | refine Upd.drew ?_ | refine Upd.drewN ?_ _ | refine Upd.setCell ?_ ?_ _ | focus (left; simp; done) | focus (right; simp; done) | focus (right; simp; omega)))) (by simp), by have := HX.out.2.2.1; (repeat (first | assumption | exact Upd.refl _ _ | refine Upd.alloc ?_ _ | refine Upd.drew ?_ | refine Upd.drewN ?_ _ | refine Upd.setCell ?_ ?_ _ | focus (left; simp; done) | focus (right; simp; done) | focus (right; simp; omega)))⟩
            case measure => simp [intOf]; omega
    · obtain rfl : v = N := by omega
      clear hI
      go_wp2
      go_ret
      exact ⟨_, rfl, ⟨fun _ v hv => HM.out.all v hv, fun _ => rfl⟩, u0.trans hu⟩
end Go.Proofs.Ytaeipfpdimjfoaa
