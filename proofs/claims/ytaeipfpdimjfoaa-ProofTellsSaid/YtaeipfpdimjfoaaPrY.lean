/-
  Is a tree right? Package proof: of a graph that is weighed, and rows of the right length. Conditions: those of each lemma.
-/
import Derived.Test.YtaeipfpdimjfoaaPrQ
set_option linter.unusedVariables false
set_option linter.unusedSimpArgs false
namespace Go.Proofs.Ytaeipfpdimjfoaa
open Go Go.RowKit

theorem boolInfo : (Try.prog.info? 4).map (fun i => (i.zero, i.size, i.bytes)) = some (some (.bool false), 1, 1) := by kernel_rfl
theorem made_bools (w : World) (n : Nat) : RowAt (w.alloc (.cells (madeCells #[.bool false] n) 4)) w.heap.size 4 n (fun _ => .bool false) := by
  refine ⟨madeCells #[.bool false] n, ?_, by simp [madeCells], fun j hj => ?_⟩
  · show (w.heap.push _)[w.heap.size]? = _; simp
  · simp [madeCells, hj, Nat.mod_one]
theorem getD_at {l : List Int} {i : Nat} (h : i < l.length) : l[i]? = some (l.getD i 0) := by simp [List.getD_eq_getElem?_getD, h]
theorem tightL_mem {D : List Int} {E : List Ed} {k : Nat} {x : Int} : x ∈ tightL D E k ↔ ∃ i : Nat, x = i ∧ i < k ∧ tightB D (E.getD i default) = true := by
  unfold tightL
  simp only [List.mem_map, List.mem_filter, List.mem_range]
  constructor
  · rintro ⟨i, ⟨h1, h2⟩, rfl⟩; exact ⟨i, rfl, h1, h2⟩
  · rintro ⟨i, rfl, h1, h2⟩; exact ⟨i, ⟨h1, h2⟩, rfl⟩
set_option maxHeartbeats 8000000 in
set_option maxRecDepth 10000 in
theorem proves_yes (w : World) (N s : Nat) (va vd vb : Value) (E : List Ed) (D B : List Int) (hE : SlE w va E) (hwE : weighB (N : Int) E = true) (hs : s < N) (hD : SlI w [] vd D) (hB : SlI w [] vb B)
    (lD : D.length = N) (lB : B.length = N) (hb : ∀ x, x ∈ D → -9223372036854775808 ≤ x ∧ x ≤ 9223372036854775807) :
    Calls Try.prog 6 #[.agg #[.int .i64 (N : Int), va], .int .i64 (s : Int), .agg #[vd, vb]] w (Tells (ProvB N s E D B) w) := by
  have hr := weigh_right hwE
  have hbd := right_bd hr
  have hN : N ≤ 4096 := by omega
  have hE64 : E.length ≤ 65536 := hbd.2.2
  have hwm : ∀ e, e ∈ E → 0 ≤ e.w ∧ e.w ≤ 9223372036854775807 := fun e he => by
    have h1 := weigh_mem hwE he
    have h2 : (9223372036854775807 : Int) / (N : Int) ≤ 9223372036854775807 := Int.ediv_le_self _ (by omega)
    omega
  have kw := fun W (hW : Upd [] w W) => gweigh_any W N va E (hE.upd hW) (fun e he => (hwm e he).2)
  rw [hwE, show errW true = 0 from rfl] at kw
  have kn := fun W (hW : Upd [] w W) => conI_any W vd D (fun x => decide (x < 0)) 13 #[] (hD.fresh hW (fun g hg => Or.inl hg)) (fun _ _ => by kernel_rfl) (fun W e _ _ => neg_any e W)
  have kf' := fun (hp : ∀ x, x ∈ D → 0 ≤ x) W (hW : Upd [] w W) => feas_any W N va vd E D (hE.upd hW) (hD.fresh hW (fun g hg => Or.inl hg)) hr (by omega) hwm (fun x hx => ⟨hp x hx, (hb x hx).2⟩)
  have kt := fun W (hW : Upd [] w W) => ptight_any W N va vd E D (hE.upd hW) (hD.fresh hW (fun g hg => Or.inl hg)) hwE (by omega) hb
  have kr := fun W (hW : Upd [] w W) (h0 : B.getD s 0 = -1) (hd0 : D.getD s 0 = 0) (hok : ∀ v, v < N → okV E s D B v) =>
    rooted_any W N va vb E B s (hE.upd hW) (hB.fresh hW (fun g hg => Or.inl hg)) hwE hs lB (by_ok hwE hs h0 hd0 lD hok).1 (by_ok hwE hs h0 hd0 lD hok).2
  obtain ⟨a, cap, rfl, hcap⟩ := hE.shape
  obtain ⟨ad, capd, rfl, _, _, hcd⟩ := hD
  obtain ⟨ab, capb, rfl, _, _, hcb⟩ := hB
  have u0 : Upd [] w ((w.alloc (.cells #[.int .i64 (N : Int), .slice a E.length cap] 24)).alloc (.cells #[.slice ad D.length capd, .slice ab B.length capb] 28)) := ((Upd.refl _ _).alloc _).alloc _
  have HE := Lib.hid hE
  have HD := Lib.hid hcd
  have HB := Lib.hid hcb
  obtain ⟨gd, od, rfl, _, _, cd'⟩ := hcd s (D.getD s 0) (getD_at (by omega))
  obtain ⟨gb, ob, rfl, _, _, cb'⟩ := hcb s (B.getD s 0) (getD_at (by omega))
  have HW := Lib.hid (And.intro hwE (And.intro hr (And.intro hb hwm)))
  have HNO := Lib.hid (show ∀ h : ProvB N s E D B → False, (false = true ↔ ProvB N s E D B) from fun h => ⟨fun e => (by cases e), fun e => (h e).elim⟩)
  have hsI : (s : Int) < (N : Int) := by omega
  have hsn2 : ¬ N ≤ s := by omega
  have h1b : decide ((s : Int) ≥ (N : Int)) = false := by simp; omega
  have HL := Lib.hid (And.intro lD lB)
  rw [lD] at u0 kn kf' kt
  rw [lB] at u0 kr
  rw [lD, lB]
  have HKR := Lib.hid kr
  have HKT := Lib.hid kt
  clear hE hwE hr hbd hcd hcb hb hwm kr kt lD lB
  generalize hx0 : D.getD s 0 = x0 at *
  generalize hy0 : B.getD s 0 = y0 at *
  have HX := Lib.hid (And.intro hx0 hy0)
  generalize hn : E.length = n at *
  have HN := Lib.hid hn
  clear hx0 hy0 hn
  by_cases t1 : x0 = 0
  · have t1b : (x0 != 0) = false := by simpa using t1
    by_cases t2 : y0 = -1
    · have t2b : (y0 != -1) = false := by simpa using t2
      cases t3 : D.any (fun x => decide (x < 0)) with
      | true =>
        have HQ := Lib.hid (HNO.out (fun h => by have := h.pos; rw [t3] at this; cases this))
        rw [t3] at kn
        clear t1 t2 t3 kf'
        go_enter Try.func6, Try.ntmps6
        go_wp2_with (first | ((go_at_call 11; (with_reducible refine (kw _ u0).mono ?_)); rintro e w1 ⟨rfl, hu1⟩; (have q0 : w1.cell? ⟨w.heap.size, 0, none⟩ = some (.int .i64 (N : Int)) := hu1.was (by simp)); (have q1 : w1.cell? ⟨w.heap.size, 1, none⟩ = some (.slice a n cap) := hu1.was (by simp)); (have q2 : w1.cell? ⟨w.heap.size + 1, 0, none⟩ = some (.slice (some ⟨gd, od, none⟩) N capd) := hu1.was (by simp)); (have q3 : w1.cell? ⟨w.heap.size + 1, 1, none⟩ = some (.slice (some ⟨gb, ob, none⟩) N capb) := hu1.was (by simp)); (have p0 := (u0.trans hu1).was cd'); (have p1 := (u0.trans hu1).was cb')) | ((go_at_call 12; (with_reducible refine (kn _ (u0.trans hu1)).mono ?_)); rintro e w2 ⟨rfl, hu2⟩; (have q4 := hu2.was q0); (have q5 := hu2.was q1); (have q6 := hu2.was q2); (have q7 := hu2.was q3)) | fail)
        go_ret
        exact ⟨_, rfl, HQ.out, (u0.trans hu1).trans hu2⟩
      | false =>
        have kf := kf' ((pos_iff D).1 t3)
        rw [t3] at kn
        cases t4 : feasB D E with
        | false =>
          have HQ := Lib.hid (HNO.out (fun h => by have := h.feas; rw [t4] at this; cases this))
          rw [t4] at kf
          clear t1 t2 t3 t4 kf'
          go_enter Try.func6, Try.ntmps6
          go_wp2_with (first | ((go_at_call 11; (with_reducible refine (kw _ u0).mono ?_)); rintro e w1 ⟨rfl, hu1⟩; (have q0 : w1.cell? ⟨w.heap.size, 0, none⟩ = some (.int .i64 (N : Int)) := hu1.was (by simp)); (have q1 : w1.cell? ⟨w.heap.size, 1, none⟩ = some (.slice a n cap) := hu1.was (by simp)); (have q2 : w1.cell? ⟨w.heap.size + 1, 0, none⟩ = some (.slice (some ⟨gd, od, none⟩) N capd) := hu1.was (by simp)); (have q3 : w1.cell? ⟨w.heap.size + 1, 1, none⟩ = some (.slice (some ⟨gb, ob, none⟩) N capb) := hu1.was (by simp)); (have p0 := (u0.trans hu1).was cd'); (have p1 := (u0.trans hu1).was cb')) | ((go_at_call 12; (with_reducible refine (kn _ (u0.trans hu1)).mono ?_)); rintro e w2 ⟨rfl, hu2⟩; (have q4 := hu2.was q0); (have q5 := hu2.was q1); (have q6 := hu2.was q2); (have q7 := hu2.was q3)) | ((go_at_call 14; (with_reducible refine (kf _ ((u0.trans hu1).trans hu2)).mono ?_)); rintro e w3 ⟨rfl, hu3⟩; (have q8 := hu3.was q4); (have q9 := hu3.was q5); (have qa := hu3.was q6); (have qb := hu3.was q7)) | fail)
          go_ret
          exact ⟨_, rfl, HQ.out, ((u0.trans hu1).trans hu2).trans hu3⟩
        | true =>
          have HT := Lib.hid (And.intro t1 (And.intro t2 (And.intro t3 t4)))
          rw [t4] at kf
          have hmk := run_make_row' (P := Try.prog) 42 4 (.bool false) 1 Try.underlying42 boolInfo rfl .i64 .i64 n (by omega) (by omega)
          clear t1 t2 t3 t4 kf'
          go_enter Try.func6, Try.ntmps6
          go_upto_region 5 with (first | ((go_at_call 11; (with_reducible refine (kw _ u0).mono ?_)); rintro e w1 ⟨rfl, hu1⟩; (have q0 : w1.cell? ⟨w.heap.size, 0, none⟩ = some (.int .i64 (N : Int)) := hu1.was (by simp)); (have q1 : w1.cell? ⟨w.heap.size, 1, none⟩ = some (.slice a n cap) := hu1.was (by simp)); (have q2 : w1.cell? ⟨w.heap.size + 1, 0, none⟩ = some (.slice (some ⟨gd, od, none⟩) N capd) := hu1.was (by simp)); (have q3 : w1.cell? ⟨w.heap.size + 1, 1, none⟩ = some (.slice (some ⟨gb, ob, none⟩) N capb) := hu1.was (by simp)); (have p0 := (u0.trans hu1).was cd'); (have p1 := (u0.trans hu1).was cb')) | ((go_at_call 12; (with_reducible refine (kn _ (u0.trans hu1)).mono ?_)); rintro e w2 ⟨rfl, hu2⟩; (have q4 := hu2.was q0); (have q5 := hu2.was q1); (have q6 := hu2.was q2); (have q7 := hu2.was q3)) | ((go_at_call 14; (with_reducible refine (kf _ ((u0.trans hu1).trans hu2)).mono ?_)); rintro e w3 ⟨rfl, hu3⟩; (have q8 := hu3.was q4); (have q9 := hu3.was q5); (have qa := hu3.was q6); (have qb := hu3.was q7)) | fail)
          have hu := ((u0.trans hu1).trans hu2).trans hu3
          have hsz3 : w.heap.size + 2 ≤ w3.heap.size := by have h1 := hu1.size; have h2 := hu2.size; have h3 := hu3.size; simp at h1; omega
          clear hu1 hu2 hu3 q0 q1 q2 q3 q4 q5 q6 q7 p0 p1 kn kf kw w1 w2 u0 cd' cb' t1b t2b
          have hza : w.heap.size < w3.heap.size := by omega
          have hzb : w.heap.size + 1 < w3.heap.size := by omega
          have hbz : Upd [] w3 (w3.alloc (.cells (madeCells #[.bool false] n) 4)) := (Upd.refl _ _).alloc _
          have hrow := made_bools w3 n
          have kt := HKT.out _ (hu.trans hbz)
          rw [World.size_alloc] at kt
          have HU3 := Lib.hid hu
          generalize htl : tightL D E n = tl at *
          have HTL := Lib.hid (show ∀ x, x ∈ tl ↔ ∃ i : Nat, x = i ∧ i < n ∧ tightB D (E.getD i default) = true from fun x => by rw [← htl]; exact tightL_mem)
          clear htl hu
          go_wp2_with (first
            | ((go_at_call 9; (with_reducible refine (kt).mono ?_)); rintro e w4 ⟨v, rfl, hu4, ho4⟩; (obtain ⟨a4, c4, rfl, hc4⟩ := own_slice ho4); (have hr4 := hrow.upd hu4 (by simp)); (have q0 := (hbz.trans hu4).was q8); (have q1 := (hbz.trans hu4).was q9); (have q2 := (hbz.trans hu4).was qa); (have q3 := (hbz.trans hu4).was qb))
            | fail)
          have HU4 := Lib.hid ((HU3.out.trans hbz).trans hu4)
          have hsl : SlI w4 [w3.heap.size] (.slice a4 tl.length c4) tl := SlI.of_row ho4 (by simp)
          have hsz4 : w3.heap.size < w4.heap.size := by have := hu4.size; simp at this; omega
          have HSL := Lib.hid hsl
          have HQ4 := Lib.hid (And.intro q0 (And.intro q1 (And.intro q2 q3)))
          have htll : tl.length ≤ 9223372036854775807 := by have := ho4.1; obtain ⟨_, _, _, h1, h2, _⟩ := hsl; omega
          clear hrow kt hmk ho4 hsl q8 q9 qa qb hu4 hbz
          go_loopw [9, 77] (fun _ i wr => ∃ (k : Nat) (tk : Nat → Bool), k ≤ tl.length ∧ i = .int .i64 (k : Int) ∧ RowAt wr w3.heap.size 4 n (fun j => .bool (tk j)) ∧ (∀ j : Nat, tk j = true ↔ (j : Int) ∈ tl.take k) ∧ Upd [w3.heap.size] w4 wr) (fun _ i _ => tl.length - (intOf i).toNat)
          case atStart => exact ⟨0, fun _ => false, by omega, rfl, hr4, fun j => by simp, Upd.refl _ _⟩
          case round =>
            clear hr4 q0 q1 q2 q3
            obtain ⟨k, tk, hk, rfl, hR, htk, hu⟩ := hrel
            rename World => wr
            by_cases hkn : k < tl.length
            · have hx := getD_at hkn
              obtain ⟨i, hi, hin, _⟩ := (HTL.out _).1 (List.mem_of_getElem? hx)
              obtain ⟨_, _, he4, _, _, hcs⟩ := HSL.out
              cases he4
              obtain ⟨g4, o4, rfl, _, hne, c4'⟩ := hcs k _ hx
              have c4 := hu.kept c4' hne
              rw [hi] at c4
              have hiI : (i : Int) < (n : Int) := by omega
              have c7 := hR.cell i hin
              have f7 := hR.free i
              have hgl := hR.lt
              have hwr : IntKind.i64.wrap ((k : Int) + 1) = (k : Int) + 1 := IntWalk.i64_in _ (by omega)
              have HT := Lib.hid (show ∀ j : Nat, (if j = i then true else tk j) = true ↔ (j : Int) ∈ tl.take (k + 1) from fun j => by
                rw [List.take_add_one, hx, hi, List.mem_append]
                by_cases hj : j = i
                · simp [hj]
                · rw [if_neg hj, htk j]
                  constructor
                  · intro h; exact Or.inl h
                  · rintro (h | h)
                    · exact h
                    · simp at h; omega)
              have HR := Lib.hid (show RowAt (wr.setCell ⟨w3.heap.size, i, none⟩ (.bool true)) w3.heap.size 4 n (fun j => .bool (if j = i then true else tk j)) from (hR.set i (.bool true)).ext (fun j hj => by by_cases e : j = i <;> simp [e]))
              have HU := Lib.hid hu
              clear c4' hne hcs hx hi hin htk hR hu
              go_wp2
              go_roundw
              case rel => exact ⟨k + 1, _, by omega, by go_num, HR.out, HT.out, HU.out.setCell (Or.inl (by simp)) _⟩
              case measure => simp [intOf]; omega
            · obtain rfl : k = tl.length := by omega
              have hu5 : Upd [] w wr := HU4.out.joined hu (fun x hx => Or.inr (by simp at hx; omega))
              have hsz5 : w3.heap.size < wr.heap.size := by have := hu.size; omega
              have hTK : ∀ j : Nat, j < n → (tk j = tightB D (E.getD j default)) := fun j hj => by
                have h1 := htk j
                rw [List.take_length, HTL.out] at h1
                cases hb : tightB D (E.getD j default) with
                | true => exact h1.2 ⟨j, rfl, hj, hb⟩
                | false =>
                  cases ht : tk j with
                  | false => rfl
                  | true =>
                    obtain ⟨i, h2, h3, h4⟩ := h1.1 ht
                    obtain rfl : j = i := by omega
                    rw [hb] at h4; cases h4
              have HTK := Lib.hid hTK
              have HR := Lib.hid hR
              have HU5 := Lib.hid hu5
              have HQ5 : Hid (wr.cell? ⟨w.heap.size, 0, none⟩ = some (.int .i64 (N : Int)) ∧ wr.cell? ⟨w.heap.size, 1, none⟩ = some (.slice a n cap) ∧ wr.cell? ⟨w.heap.size + 1, 0, none⟩ = some (.slice (some ⟨gd, od, none⟩) N capd) ∧ wr.cell? ⟨w.heap.size + 1, 1, none⟩ = some (.slice (some ⟨gb, ob, none⟩) N capb)) :=
                Lib.hid ⟨hu.kept HQ4.out.1 (by simp; omega), hu.kept HQ4.out.2.1 (by simp; omega), hu.kept HQ4.out.2.2.1 (by simp; omega), hu.kept HQ4.out.2.2.2 (by simp; omega)⟩
              have q3 := HQ5.out.2.2.2
              clear hu hu5 hTK hR htk
              go_wp2
              go_loopw [10, 11, 12, 88] (fun _ _ _ i W => ∃ v : Nat, v ≤ N ∧ i = .int .i64 (v : Int) ∧ (∀ x, x < v → okV E s D B x) ∧ Upd [] wr W) (fun _ _ _ i _ => N - (intOf i).toNat)
              case atStart => exact ⟨0, by omega, rfl, fun x hx => by omega, Upd.refl _ _⟩
              case round =>
                clear q3
                obtain ⟨v, hv, rfl, hok, hu⟩ := hrel
                rename World => W
                have HOK := Lib.hid hok
                have HU := Lib.hid hu
                have HW5 := Lib.hid (HU5.out.trans hu)
                by_cases hvN : v < N
                · have q0 := hu.was HQ5.out.1
                  have q1 := hu.was HQ5.out.2.1
                  have q2 := hu.was HQ5.out.2.2.1
                  have q3 := hu.was HQ5.out.2.2.2
                  obtain ⟨_, _, he1, _, _, cd'⟩ := HD.out v (D.getD v 0) (getD_at (by have := HL.out.1; omega))
                  cases he1
                  obtain ⟨_, _, he2, _, _, cb'⟩ := HB.out v (B.getD v 0) (getD_at (by have := HL.out.2; omega))
                  cases he2
                  have cd := HW5.out.was cd'
                  have cb := HW5.out.was cb'
                  have hvI : (v : Int) < (N : Int) := by omega
                  have hwr : IntKind.i64.wrap ((v : Int) + 1) = (v : Int) + 1 := IntWalk.i64_in _ (by omega)
                  have HV := Lib.hid (show okV E s D B v ↔ ((v ≠ s ∧ D.getD v 0 ≠ 9223372036854775807) ↔ B.getD v 0 ≠ -1) ∧ (v ≠ s ∧ D.getD v 0 ≠ 9223372036854775807 → 0 ≤ B.getD v 0 ∧ B.getD v 0 < E.length ∧ tightB D (E.getD (B.getD v 0).toNat default) = true ∧ (E.getD (B.getD v 0).toNat default).t = v) from Iff.rfl)
                  have HGO := Lib.hid (show okV E s D B v → ∀ x, x < v + 1 → okV E s D B x from fun h x hx => by
                    rcases (by omega : x < v ∨ x = v) with h' | h'
                    · exact hok x h'
                    · rw [h']; exact h)
                  have HBAD := Lib.hid (show ¬ okV E s D B v → (false = true ↔ ProvB N s E D B) from fun h => HNO.out (fun h' => h (h'.ok v hvN)))
                  have hvs : ((v : Int) != (s : Int)) = decide (v ≠ s) := by
                    rcases Nat.decEq v s with h | h
                    · rw [decide_eq_true h]; simp; omega
                    · rw [decide_eq_false (fun h' => h' h)]; simp; omega
                  clear cd' cb' hok hu
                  generalize D.getD v 0 = dv at *
                  generalize B.getD v 0 = bv at *
                  clear q1
                  by_cases e1 : v = s
                  · rw [decide_eq_false (fun h => h e1)] at hvs
                    by_cases e3 : bv = -1
                    · have e3b : (bv != -1) = false := by simpa using e3
                      have HK := Lib.hid (HGO.out (HV.out.2 ⟨⟨fun h => absurd e1 h.1, fun h => absurd e3 h⟩, fun h => absurd e1 h.1⟩))
                      clear e1 e3 q2
                      go_wp2
                      go_roundw
                      case rel => exact ⟨v + 1, by omega, by go_num, HK.out, by have := HU.out; (repeat (first | assumption | exact Upd.refl _ _ | refine Upd.alloc ?_ _ | refine Upd.drew ?_ | refine Upd.drewN ?_ _ | refine Upd.setCell ?_ ?_ _ | focus (left; simp; done) | focus (right; simp; done) | focus (right; simp; omega)))⟩
                      case measure => simp [intOf]; omega
                    · have e3b : (bv != -1) = true := by simpa using e3
                      have HK := Lib.hid (HBAD.out (fun h => absurd e1 ((HV.out.1 h).1.2 e3).1))
                      clear e1 e3 q2
                      go_wp2
                      go_ret
                      exact ⟨_, rfl, HK.out, by have := HW5.out; (repeat (first | assumption | exact Upd.refl _ _ | refine Upd.alloc ?_ _ | refine Upd.drew ?_ | refine Upd.drewN ?_ _ | refine Upd.setCell ?_ ?_ _ | focus (left; simp; done) | focus (right; simp; done) | focus (right; simp; omega)))⟩
                  · rw [decide_eq_true e1] at hvs
                    by_cases e2 : dv = 9223372036854775807
                    · have e2b : (dv != 9223372036854775807) = false := by simpa using e2
                      by_cases e3 : bv = -1
                      · have e3b : (bv != -1) = false := by simpa using e3
                        have HK := Lib.hid (HGO.out (HV.out.2 ⟨⟨fun h => absurd e2 h.2, fun h => absurd e3 h⟩, fun h => absurd e2 h.2⟩))
                        clear e1 e2 e3
                        go_wp2
                        go_roundw
                        case rel => exact ⟨v + 1, by omega, by go_num, HK.out, by have := HU.out; (repeat (first | assumption | exact Upd.refl _ _ | refine Upd.alloc ?_ _ | refine Upd.drew ?_ | refine Upd.drewN ?_ _ | refine Upd.setCell ?_ ?_ _ | focus (left; simp; done) | focus (right; simp; done) | focus (right; simp; omega)))⟩
                        case measure => simp [intOf]; omega
                      · have e3b : (bv != -1) = true := by simpa using e3
                        have HK := Lib.hid (HBAD.out (fun h => absurd e2 ((HV.out.1 h).1.2 e3).2))
                        clear e1 e2 e3
                        go_wp2
                        go_ret
                        exact ⟨_, rfl, HK.out, by have := HW5.out; (repeat (first | assumption | exact Upd.refl _ _ | refine Upd.alloc ?_ _ | refine Upd.drew ?_ | refine Upd.drewN ?_ _ | refine Upd.setCell ?_ ?_ _ | focus (left; simp; done) | focus (right; simp; done) | focus (right; simp; omega)))⟩
                    · have e2b : (dv != 9223372036854775807) = true := by simpa using e2
                      by_cases e3 : bv = -1
                      · have e3b : (bv != -1) = false := by simpa using e3
                        have HK := Lib.hid (HBAD.out (fun h => absurd e3 ((HV.out.1 h).1.1 ⟨e1, e2⟩)))
                        clear e1 e2 e3
                        go_wp2
                        go_ret
                        exact ⟨_, rfl, HK.out, by have := HW5.out; (repeat (first | assumption | exact Upd.refl _ _ | refine Upd.alloc ?_ _ | refine Upd.drew ?_ | refine Upd.drewN ?_ _ | refine Upd.setCell ?_ ?_ _ | focus (left; simp; done) | focus (right; simp; done) | focus (right; simp; omega)))⟩
                      · have e3b : (bv != -1) = true := by simpa using e3
                        have HV2 := Lib.hid (show okV E s D B v ↔ 0 ≤ bv ∧ bv < E.length ∧ tightB D (E.getD bv.toNat default) = true ∧ (E.getD bv.toNat default).t = v from ⟨fun h => (HV.out.1 h).2 ⟨e1, e2⟩, fun h => HV.out.2 ⟨⟨fun _ => e3, fun _ => ⟨e1, e2⟩⟩, fun _ => h⟩⟩)
                        clear e1 e2 e3
                        by_cases e4 : bv < 0
                        · have e4b : decide (bv < 0) = true := by simpa using e4
                          have HK := Lib.hid (HBAD.out (fun h => by have := (HV2.out.1 h).1; omega))
                          clear e4
                          go_wp2
                          go_ret
                          exact ⟨_, rfl, HK.out, by have := HW5.out; (repeat (first | assumption | exact Upd.refl _ _ | refine Upd.alloc ?_ _ | refine Upd.drew ?_ | refine Upd.drewN ?_ _ | refine Upd.setCell ?_ ?_ _ | focus (left; simp; done) | focus (right; simp; done) | focus (right; simp; omega)))⟩
                        · have e4b : decide (bv < 0) = false := by simpa using e4
                          have q1 := HU.out.was HQ5.out.2.1
                          by_cases e5 : bv ≥ (n : Int)
                          · have e5b : decide (bv ≥ (n : Int)) = true := by simpa using e5
                            have HK := Lib.hid (HBAD.out (fun h => by have := (HV2.out.1 h).2.1; have := HN.out; omega))
                            clear e4 e5
                            go_wp2
                            go_ret
                            exact ⟨_, rfl, HK.out, by have := HW5.out; (repeat (first | assumption | exact Upd.refl _ _ | refine Upd.alloc ?_ _ | refine Upd.drew ?_ | refine Upd.drewN ?_ _ | refine Upd.setCell ?_ ?_ _ | focus (left; simp; done) | focus (right; simp; done) | focus (right; simp; omega)))⟩
                          · obtain ⟨i, rfl⟩ : ∃ i : Nat, bv = i := ⟨bv.toNat, by omega⟩
                            have hin : i < n := by omega
                            have hinI : (i : Int) < (n : Int) := by omega
                            have hin2 : ¬ n ≤ i := by omega
                            have hiE : i < E.length := by rw [HN.out]; exact hin
                            have hx' : E[i]? = some (E.getD i default) := by simp [List.getD_eq_getElem?_getD, hiE]
                            obtain ⟨ge, off, rfl, hg, _, c1, _⟩ := (HE.out.upd HW5.out).at i hiE
                            have h1 := right_mem HW.out.2.1 (List.mem_of_getElem? hx')
                            have ct := (HR.out.upd HU.out (by simp)).cell i hin
                            have HTi := Lib.hid (HTK.out i hin)
                            have HV3 := Lib.hid (show okV E s D B v ↔ tightB D (E.getD i default) = true ∧ (E.getD i default).t = v from by rw [HV2.out, show ((i : Int)).toNat = i by omega]; exact ⟨fun h => h.2.2, fun h => ⟨by omega, by omega, h⟩⟩)
                            generalize E.getD i default = e at *
                            obtain ⟨ef, et, ew⟩ := e
                            dsimp only at c1 h1 ct
                            obtain ⟨t, rfl⟩ : ∃ t : Nat, et = t := ⟨et.toNat, by omega⟩
                            generalize tk i = ti at *
                            clear e4 e4b e5 hx' h1 hin
                            cases ti with
                            | false =>
                              have HK := Lib.hid (HBAD.out (fun h => by have := (HV3.out.1 h).1; rw [← HTi.out] at this; cases this))
                              go_wp2
                              go_ret
                              exact ⟨_, rfl, HK.out, by have := HW5.out; (repeat (first | assumption | exact Upd.refl _ _ | refine Upd.alloc ?_ _ | refine Upd.drew ?_ | refine Upd.drewN ?_ _ | refine Upd.setCell ?_ ?_ _ | focus (left; simp; done) | focus (right; simp; done) | focus (right; simp; omega)))⟩
                            | true =>
                              by_cases e6 : t = v
                              · have e6b : ((t : Int) != (v : Int)) = false := by simp; omega
                                have HK := Lib.hid (HGO.out (HV3.out.2 ⟨HTi.out.symm, by show ((t : Nat) : Int) = v; omega⟩))
                                clear e6
                                go_wp2
                                go_roundw
                                case rel => exact ⟨v + 1, by omega, by go_num, HK.out, by have := HU.out; (repeat (first | assumption | exact Upd.refl _ _ | refine Upd.alloc ?_ _ | refine Upd.drew ?_ | refine Upd.drewN ?_ _ | refine Upd.setCell ?_ ?_ _ | focus (left; simp; done) | focus (right; simp; done) | focus (right; simp; omega)))⟩
                                case measure => simp [intOf]; omega
                              · have e6b : ((t : Int) != (v : Int)) = true := by simp; omega
                                have HK := Lib.hid (HBAD.out (fun h => by have h2 : ((t : Nat) : Int) = v := (HV3.out.1 h).2; omega))
                                clear e6
                                go_wp2
                                go_ret
                                exact ⟨_, rfl, HK.out, by have := HW5.out; (repeat (first | assumption | exact Upd.refl _ _ | refine Upd.alloc ?_ _ | refine Upd.drew ?_ | refine Upd.drewN ?_ _ | refine Upd.setCell ?_ ?_ _ | focus (left; simp; done) | focus (right; simp; done) | focus (right; simp; omega)))⟩
                · obtain rfl : v = N := by omega
                  have q0 := HU.out.was HQ5.out.1
                  have q1 := HU.out.was HQ5.out.2.1
                  have q3 := HU.out.was HQ5.out.2.2.2
                  have kr := HKR.out _ HW5.out HT.out.2.1 HT.out.1 HOK.out
                  have HP := Lib.hid (show Rooted (eN E) (fun x => B.getD x 0) s v ↔ ProvB v s E D B from ⟨fun h => ⟨HL.out.1, HL.out.2, HX.out.1.trans HT.out.1, HX.out.2.trans HT.out.2.1, HT.out.2.2.1, HT.out.2.2.2, HOK.out, h⟩, fun h => h.root⟩)
                  clear hu hok
                  generalize Rooted (eN E) (fun x => B.getD x 0) s v = RT at *
                  go_wp2_with (first
                    | ((go_at_call 15; (with_reducible refine (kr).mono ?_)); rintro e w6 ⟨b, rfl, hb6, hu6⟩)
                    | fail)
                  go_ret
                  exact ⟨_, rfl, hb6.trans HP.out, HW5.out.trans hu6⟩
    · have t2b : (y0 != -1) = true := by simpa using t2
      have HQ := Lib.hid (HNO.out (fun h => t2 (by rw [← HX.out.2]; exact h.b0)))
      clear t1 t2 kf'
      go_enter Try.func6, Try.ntmps6
      go_wp2_with (first | ((go_at_call 11; (with_reducible refine (kw _ u0).mono ?_)); rintro e w1 ⟨rfl, hu1⟩; (have q0 : w1.cell? ⟨w.heap.size, 0, none⟩ = some (.int .i64 (N : Int)) := hu1.was (by simp)); (have q1 : w1.cell? ⟨w.heap.size, 1, none⟩ = some (.slice a n cap) := hu1.was (by simp)); (have q2 : w1.cell? ⟨w.heap.size + 1, 0, none⟩ = some (.slice (some ⟨gd, od, none⟩) N capd) := hu1.was (by simp)); (have q3 : w1.cell? ⟨w.heap.size + 1, 1, none⟩ = some (.slice (some ⟨gb, ob, none⟩) N capb) := hu1.was (by simp)); (have p0 := (u0.trans hu1).was cd'); (have p1 := (u0.trans hu1).was cb')) | fail)
      go_ret
      exact ⟨_, rfl, HQ.out, u0.trans hu1⟩
  · have t1b : (x0 != 0) = true := by simpa using t1
    have HQ := Lib.hid (HNO.out (fun h => t1 (by rw [← HX.out.1]; exact h.d0)))
    clear t1 kf'
    go_enter Try.func6, Try.ntmps6
    go_wp2_with (first | ((go_at_call 11; (with_reducible refine (kw _ u0).mono ?_)); rintro e w1 ⟨rfl, hu1⟩; (have q0 : w1.cell? ⟨w.heap.size, 0, none⟩ = some (.int .i64 (N : Int)) := hu1.was (by simp)); (have q1 : w1.cell? ⟨w.heap.size, 1, none⟩ = some (.slice a n cap) := hu1.was (by simp)); (have q2 : w1.cell? ⟨w.heap.size + 1, 0, none⟩ = some (.slice (some ⟨gd, od, none⟩) N capd) := hu1.was (by simp)); (have q3 : w1.cell? ⟨w.heap.size + 1, 1, none⟩ = some (.slice (some ⟨gb, ob, none⟩) N capb) := hu1.was (by simp)); (have p0 := (u0.trans hu1).was cd'); (have p1 := (u0.trans hu1).was cb')) | fail)
    go_ret
    exact ⟨_, rfl, HQ.out, u0.trans hu1⟩
end Go.Proofs.Ytaeipfpdimjfoaa
