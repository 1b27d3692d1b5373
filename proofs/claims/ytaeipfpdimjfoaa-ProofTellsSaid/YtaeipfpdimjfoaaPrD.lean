/-
  The document's distances: all edges gone over, again and again. Conditions: those of each lemma.
-/
import Derived.Test.YtaeipfpdimjfoaaIe
import Derived.Test.YtaeipfpdimjfoaaPrV
set_option linter.unusedVariables false
set_option linter.unusedSimpArgs false
namespace Go.Proofs.Ytaeipfpdimjfoaa
open Go Go.RowKit

def eN (E : List Ed) : List En := E.map toN
theorem fold_take (E : List Ed) (d : Nat → Nat) (k : Nat) (x : Ed) (hx : E[k]? = some x) : ((eN E).take (k + 1)).foldl rel1 d = rel1 (((eN E).take k).foldl rel1 d) (toN x) := by
  unfold eN
  rw [List.take_add_one, List.getElem?_map, hx]
  simp [List.foldl_append]
set_option maxHeartbeats 4000000 in
set_option maxRecDepth 10000 in
theorem dist_any (w : World) (N : Nat) (va : Value) (E : List Ed) (s : Nat) (hE : SlE w va E) (hwE : weighB (N : Int) E = true) (hs : s < N) :
    Calls Try.prog 25 #[.agg #[.int .i64 (N : Int), va], .int .i64 (s : Int)] w fun r w' => ∃ v, r = .returned v ∧ Upd [] w w' ∧ w'.ownsRow w.heap.size 2 1 v N (intsZ (rowN N (passes (eN E) s N))) := by
  have hr := weigh_right hwE
  have hbd := right_bd hr
  have hN : N ≤ 4096 := by omega
  have hg := weigh_gok hwE hs
  obtain ⟨a, cap, rfl, hcap⟩ := hE.shape
  have HE := Lib.hid hE
  have HW := Lib.hid (And.intro hwE (And.intro hr hg))
  have u0 : Upd [] w (w.alloc (.cells #[.int .i64 N, .slice a E.length cap] 24)) := (Upd.refl _ _).alloc _
  have hE64 : E.length ≤ 65536 := hbd.2.2
  clear hE hwE hr hg hbd
  generalize hn : E.length = n at *
  have HN := Lib.hid hn
  clear hn
  go_enter Try.func25, Try.ntmps25
  go_wp2
  have ho1 := own_lit (w.alloc (.cells #[.int .i64 (N : Int), .slice a n cap] 24)) [] 2 (w.heap.size + 1) 1 0 (by simp) (by simp) (by simp [maxLen])
  go_loopw [5, 6, 7] (fun s5 i _ wr => ∃ k : Nat, k ≤ N ∧ i = .int .i64 (k : Int) ∧ wr.ownsRow (w.heap.size + 1) 2 1 s5 k (intsZ (rowN k (d0 s))) ∧ Upd [] (w.alloc (.cells #[.int .i64 N, .slice a n cap] 24)) wr) (fun _ i _ _ => N - (intOf i).toNat)
  case atStart => exact ⟨0, by omega, rfl, by simpa [rowN, intsZ] using ho1, (Upd.refl _ _).alloc _⟩
  case round =>
    clear ho1
    obtain ⟨k, hk, rfl, ho, hu⟩ := hrel
    rename World => wr
    have hsz : w.heap.size < wr.heap.size := by have := hu.size; simp at this; omega
    have q0 : wr.cell? ⟨w.heap.size, 0, none⟩ = some (.int .i64 (N : Int)) := hu.was (by simp)
    have q1 : wr.cell? ⟨w.heap.size, 1, none⟩ = some (.slice a n cap) := hu.was (by simp)
    by_cases hkn : k < N
    · obtain ⟨at5, c5, rfl, hc5⟩ := own_slice ho
      have HS := Lib.hid (rowN_succ k (d0 s))
      have HU := Lib.hid hu
      generalize rowN k (d0 s) = l at *
      have HO := Lib.hid ho
      have hwr : IntKind.i64.wrap ((k : Int) + 1) = (k : Int) + 1 := IntWalk.i64_in _ (by omega)
      have hks : ((k : Int) == (s : Int)) = decide (k = s) := by
        rcases Nat.decEq k s with h | h
        · rw [decide_eq_false h]; simp; omega
        · rw [decide_eq_true h]; simp; omega
      clear hu
      by_cases hks' : k = s
      · rw [decide_eq_true hks'] at hks
        have HV := Lib.hid (show d0 s k = 0 from by unfold d0; rw [if_pos hks'])
        clear hks'
        go_wp2_with (first
          | ((at_builtin; refine wpList_append_sep rfl _ _ 25 rfl (w.heap.size + 1) 2 (.int .i64 0) 1 8 Try.underlying25 lngInfo rfl (by decide) _ _ _ rfl (ho) [.int .i64 (0 : Int)] rfl (by simp [Value.oneCell']) (by first | rfl | (rw [World.size_alloc]; rfl)) (by unfold maxLen; omega) (by omega) ((by omega)) ?_; intro v2 w2 ho2 hu2 hsep2))
          | fail)
        have hw2 := Upd.own HU.out ho (by simp) hu2
        obtain ⟨a9, c9, rfl, _⟩ := own_slice ho2
        exact ⟨⟨k + 1, by omega, by go_num, by rw [HS.out, HV.out, intsZ_append]; exact ho2, hw2⟩, by simp [intOf]; omega⟩
      · rw [decide_eq_false hks'] at hks
        have HV := Lib.hid (show d0 s k = 9223372036854775807 from by unfold d0 inf; rw [if_neg hks'])
        clear hks'
        go_wp2_with (first
          | ((at_builtin; refine wpList_append_sep rfl _ _ 25 rfl (w.heap.size + 1) 2 (.int .i64 0) 1 8 Try.underlying25 lngInfo rfl (by decide) _ _ _ rfl (ho) [.int .i64 (9223372036854775807 : Int)] rfl (by simp [Value.oneCell']) (by first | rfl | (rw [World.size_alloc]; rfl)) (by unfold maxLen; omega) (by omega) ((by omega)) ?_; intro v2 w2 ho2 hu2 hsep2))
          | fail)
        have hw2 := Upd.own HU.out ho (by simp) hu2
        obtain ⟨a9, c9, rfl, _⟩ := own_slice ho2
        exact ⟨⟨k + 1, by omega, by go_num, by rw [HS.out, HV.out, intsZ_append]; exact ho2, hw2⟩, by simp [intOf]; omega⟩
    · obtain rfl : k = N := by omega
      obtain ⟨g, c5, rfl, hI, hgb, _⟩ := IE.of_own ho (by omega)
      have hlN : ∀ d, (rowN k d).length = k := rowN_len k
      have HLN := Lib.hid hlN
      have hUse := hu
      clear ho hlN
      go_wp2
      go_loopw [8, 10, 34] (fun i _ _ wr => ∃ m : Nat, m ≤ k ∧ i = .int .i64 (m : Int) ∧ IE 2 wr g c5 (rowN k (passes (eN E) s m)) ∧ Upd [] (w.alloc (.cells #[.int .i64 k, .slice a n cap] 24)) wr) (fun i _ _ _ => k - (intOf i).toNat)
      case atStart => exact ⟨0, by omega, rfl, hI, hUse⟩
      case round =>
        clear hI hUse hu q0 q1 hsz
        obtain ⟨m, hm, rfl, hI, hu⟩ := hrel
        rename World => wr
        have hsz : w.heap.size < wr.heap.size := by have := hu.size; simp at this; omega
        have q0 : wr.cell? ⟨w.heap.size, 0, none⟩ = some (.int .i64 (k : Int)) := hu.was (by simp)
        have q1 : wr.cell? ⟨w.heap.size, 1, none⟩ = some (.slice a n cap) := hu.was (by simp)
        have hwm : IntKind.i64.wrap ((m : Int) + 1) = (m : Int) + 1 := IntWalk.i64_in _ (by omega)
        have hRx := passes_rx HW.out.2.2 m
        have HP := Lib.hid (show passes (eN E) s (m + 1) = (eN E).foldl rel1 (passes (eN E) s m) from rfl)
        have HF := Lib.hid (show ∀ j, Rx (eN E) s k (9223372036854775807 / k) (((eN E).take j).foldl rel1 (passes (eN E) s m)) from fun j => fold_rx HW.out.2.2 _ (fun e he => List.mem_of_mem_take he) hRx)
        clear hRx
        generalize hDm : passes (eN E) s m = D at *
        have HDM := Lib.hid hDm
        clear hDm
        by_cases hmn : m < k
        · go_wp2
          go_loopw [10, 34] (fun _ i wr => ∃ j : Nat, j ≤ n ∧ i = .int .i64 (j : Int) ∧ IE 2 wr g c5 (rowN k (((eN E).take j).foldl rel1 D)) ∧ Upd [] (w.alloc (.cells #[.int .i64 k, .slice a n cap] 24)) wr) (fun _ i _ => n - (intOf i).toNat)
          case atStart => exact ⟨0, by omega, rfl, by simpa using hI, hu⟩
          case round =>
            clear hI hu q0 q1 hsz
            obtain ⟨j, hj, rfl, hI, hu⟩ := hrel
            rename World => wr
            have hsz : w.heap.size < wr.heap.size := by have := hu.size; simp at this; omega
            by_cases hjn : j < n
            · have hjE : j < E.length := by rw [HN.out]; exact hjn
              have hx : E[j]? = some (E.getD j default) := by simp [List.getD_eq_getElem?_getD, hjE]
              have hmem : E.getD j default ∈ E := List.mem_of_getElem? hx
              obtain ⟨ge, off, rfl, hg, c0, c1, c2⟩ := (HE.out.upd (u0.trans hu)).at j hjE
              have h1 := right_mem HW.out.2.1 hmem
              have h2 := weigh_mem HW.out.1 hmem
              have HT := Lib.hid (fold_take E D j _ hx)
              have hE3 := HW.out.2.2.e _ (List.mem_map_of_mem (f := toN) hmem)
              generalize E.getD j default = e at *
              have hwr : IntKind.i64.wrap ((j : Int) + 1) = (j : Int) + 1 := IntWalk.i64_in _ (by omega)
              obtain ⟨ef, et, ew⟩ := e
              dsimp only at c0 c1 c2 h1 h2
              have hRj := HF.out j
              generalize ((eN E).take j).foldl rel1 D = d at *
              obtain ⟨f, rfl⟩ : ∃ f : Nat, ef = f := ⟨ef.toNat, by omega⟩
              obtain ⟨t, rfl⟩ : ∃ t : Nat, et = t := ⟨et.toNat, by omega⟩
              obtain ⟨x, rfl⟩ : ∃ x : Nat, ew = x := ⟨ew.toNat, by omega⟩
              have hf : f < k := by omega
              have ht : t < k := by omega
              have hfI : (f : Int) < (k : Int) := by omega
              have htI : (t : Int) < (k : Int) := by omega
              have d1 := hI.cell f (by rw [HLN.out]; exact hf)
              have d2 := hI.cell t (by rw [HLN.out]; exact ht)
              rw [rowN_get hf] at d1
              rw [rowN_get ht] at d2
              have f1 := hI.free f
              have f2 := hI.free t
              have hgl := hI.lt
              have hle := hRj.le f
              have hle2 := hRj.le t
              have hsum : d f ≠ inf → d f + x ≤ inf := fun h => hRj.sum HW.out.2.2.nm (e := ⟨f, t, x⟩) hf (by simpa [toN] using hE3.2.2) h
              have HR : Hid (rel1 d (toN ⟨f, t, x⟩) = if d f ≠ inf ∧ d f + x < d t then setN d t (d f + x) else d) := Lib.hid rfl
              rw [show inf = 9223372036854775807 from rfl] at *
              have HI := Lib.hid hI
              have HU := Lib.hid hu
              have HD := Lib.hid (show ∀ y : Nat, y = d f + x → rowN k (setN d t y) = (rowN k d).set t ((y : Nat) : Int) from fun y _ => rowN_set.symm)
              clear hx hmem hI hu hRj h2 hE3
              generalize d f = xf at *
              generalize d t = xt at *
              by_cases b1 : xf = 9223372036854775807
              · have b1b : ((xf : Int) != 9223372036854775807) = false := by simp; omega
                have HQ : Hid (rel1 d (toN ⟨f, t, x⟩) = d) := Lib.hid (by rw [HR.out, if_neg (fun h => h.1 b1)])
                clear hsum b1
                go_wp2
                go_quiet (fail)
                go_wp2
                exact ⟨⟨j + 1, by omega, by go_num, by rw [HT.out, HQ.out]; exact HI.out.upd (S := []) (by (repeat (first | assumption | exact Upd.refl _ _ | refine Upd.alloc ?_ _ | refine Upd.drew ?_ | refine Upd.drewN ?_ _ | refine Upd.setCell ?_ ?_ _ | focus (left; simp; done) | focus (right; simp; done) | focus (right; simp; omega)))) (by simp), by have := HU.out; (repeat (first | assumption | exact Upd.refl _ _ | refine Upd.alloc ?_ _ | refine Upd.drew ?_ | refine Upd.drewN ?_ _ | refine Upd.setCell ?_ ?_ _ | focus (left; simp; done) | focus (right; simp; done) | focus (right; simp; omega)))⟩, by simp [intOf]; omega⟩
              · have b1b : ((xf : Int) != 9223372036854775807) = true := by simp; omega
                have hsm := hsum b1
                have hwx : IntKind.i64.wrap ((xf : Int) + (x : Int)) = (xf : Int) + (x : Int) := IntWalk.i64_in _ (by omega)
                clear hsum
                by_cases b2 : xf + x < xt
                · have b2b : (xf : Int) + (x : Int) < (xt : Int) := by omega
                  have HQ : Hid (rel1 d (toN ⟨f, t, x⟩) = setN d t (xf + x)) := Lib.hid (by rw [HR.out, if_pos ⟨b1, b2⟩])
                  clear b1 b2
                  go_wp2
                  go_quiet (fail)
                  go_wp2
                  go_region
                  all_goals
                    go_wp2
                    exact ⟨⟨j + 1, by omega, by go_num, by rw [HT.out, HQ.out, HD.out _ rfl]; exact (HI.out.upd (S := []) (by (repeat (first | assumption | exact Upd.refl _ _ | refine Upd.alloc ?_ _ | refine Upd.drew ?_ | refine Upd.drewN ?_ _ | refine Upd.setCell ?_ ?_ _ | focus (left; simp; done) | focus (right; simp; done) | focus (right; simp; omega)))) (by simp)).set t _, by have := HU.out; (repeat (first | assumption | exact Upd.refl _ _ | refine Upd.alloc ?_ _ | refine Upd.drew ?_ | refine Upd.drewN ?_ _ | refine Upd.setCell ?_ ?_ _ | focus (left; simp; done) | focus (right; simp; done) | focus (right; simp; omega)))⟩, by simp [intOf]; omega⟩
                · have b2b : ¬ (xf : Int) + (x : Int) < (xt : Int) := by omega
                  have HQ : Hid (rel1 d (toN ⟨f, t, x⟩) = d) := Lib.hid (by rw [HR.out, if_neg (fun h => b2 h.2)])
                  clear b1 b2
                  go_wp2
                  go_quiet (fail)
                  go_wp2
                  exact ⟨⟨j + 1, by omega, by go_num, by rw [HT.out, HQ.out]; exact HI.out.upd (S := []) (by (repeat (first | assumption | exact Upd.refl _ _ | refine Upd.alloc ?_ _ | refine Upd.drew ?_ | refine Upd.drewN ?_ _ | refine Upd.setCell ?_ ?_ _ | focus (left; simp; done) | focus (right; simp; done) | focus (right; simp; omega)))) (by simp), by have := HU.out; (repeat (first | assumption | exact Upd.refl _ _ | refine Upd.alloc ?_ _ | refine Upd.drew ?_ | refine Upd.drewN ?_ _ | refine Upd.setCell ?_ ?_ _ | focus (left; simp; done) | focus (right; simp; done) | focus (right; simp; omega)))⟩, by simp [intOf]; omega⟩
            · obtain rfl : j = n := by omega
              have hfin : (eN E).take j = eN E := by rw [List.take_of_length_le]; unfold eN; rw [List.length_map, HN.out]; omega
              rw [hfin, ← HP.out] at hI
              have HI := Lib.hid hI
              have HU := Lib.hid hu
              clear hI hu hfin
              go_wp2
              go_roundw
              case rel => exact ⟨m + 1, by omega, by go_num, HI.out, HU.out⟩
              case measure => simp [intOf]; omega
        · obtain rfl : m = k := by omega
          rw [← HDM.out] at hI
          have HI := Lib.hid hI
          have HU := Lib.hid hu
          clear hI hu
          go_wp2
          go_ret
          exact ⟨_, rfl, u0.trans HU.out, HI.out.based (by omega) (rowN_len _ _)⟩
end Go.Proofs.Ytaeipfpdimjfoaa
