/-
  Rings in memory: what their blocks hold, and what each function of package ring does. Conditions: those of each lemma.
-/
import Derived.Test.YtighgbdijagolaaGfa
import Derived.Test.YtighgbdijagolaaGa
import Derived.Deep.OwnRows
set_option linter.unusedVariables false
set_option linter.unusedSimpArgs false
namespace Go.Proofs.Ytighgbdijagolaa
open Go Go.RowKit

structure RgM (w : World) (br bn bp n : Nat) (nx pv : Nat → Nat) : Prop where
  head : RowAt w br 135 2 (fun j => [Value.slice (some ⟨bn, 0, none⟩) n n, .slice (some ⟨bp, 0, none⟩) n n].getD j undef)
  nr : RowAt w bn 3 n (fun j => .int .i64 (nx j : Int))
  pr : RowAt w bp 3 n (fun j => .int .i64 (pv j : Int))
  ne : br ≠ bn ∧ br ≠ bp ∧ bn ≠ bp
  le : n ≤ 65536
  rg : Rg n nx pv
section
variable {w : World} {br bn bp n : Nat} {nx pv : Nat → Nat}
theorem RgM.upd {w' : World} {F : List Nat} (h : RgM w br bn bp n nx pv) (hu : Upd F w w') (h1 : br ∉ F) (h2 : bn ∉ F) (h3 : bp ∉ F) : RgM w' br bn bp n nx pv :=
  ⟨h.head.upd hu h1, h.nr.upd hu h2, h.pr.upd hu h3, h.ne, h.le, h.rg⟩
theorem RgM.upd0 {w' : World} (h : RgM w br bn bp n nx pv) (hu : Upd [] w w') : RgM w' br bn bp n nx pv := h.upd hu (by simp) (by simp) (by simp)
theorem RgM.h0 (h : RgM w br bn bp n nx pv) : w.cell? ⟨br, 0, none⟩ = some (.slice (some ⟨bn, 0, none⟩) n n) := h.head.cellAt 0 (by omega) rfl
theorem RgM.h1 (h : RgM w br bn bp n nx pv) : w.cell? ⟨br, 1, none⟩ = some (.slice (some ⟨bp, 0, none⟩) n n) := h.head.cellAt 1 (by omega) rfl
theorem RgM.lt (h : RgM w br bn bp n nx pv) : br < w.heap.size ∧ bn < w.heap.size ∧ bp < w.heap.size := ⟨h.head.lt, h.nr.lt, h.pr.lt⟩
end
theorem intInfo' : (Try.prog.info? 3).map (fun i => (i.zero, i.size, i.bytes)) = some (some (.int .i64 0), 1, 8) := by kernel_rfl

theorem rowAt_mk (w : World) (n : Nat) : RowAt (w.alloc (.cells (madeCells #[.int .i64 0] n) 3)) w.heap.size 3 n (fun j => (madeCells #[.int .i64 0] n).toList.getD j undef) := by
  refine ⟨madeCells #[.int .i64 0] n, ?_, by simp [madeCells], fun j hj => ?_⟩
  · show (w.heap.push _)[w.heap.size]? = _; simp
  · simp [madeCells, List.getD_eq_getElem?_getD, hj]
set_option maxHeartbeats 400000 in
theorem ringNew_no (n : Int) (w : World) (h : n < 0 ∨ 65536 < n) :
    Calls Try.prog 63 #[.int .i64 n] w fun e w' => e = .returned (.tuple #[.pointer none, .int .i64 31]) ∧ w' = w := by
  rcases h with h | h
  all_goals
    go_enter Try.func63, Try.ntmps63
    go_wp2
    go_ret2
    exact ⟨rfl, rfl⟩
set_option maxHeartbeats 2000000 in
theorem ringNew_yes (n : Nat) (w : World) (h : n ≤ 65536) :
    Calls Try.prog 63 #[.int .i64 (n : Int)] w fun e w' => ∃ br bn bp, e = .returned (.tuple #[.pointer (some ⟨br, 0, none⟩), .int .i64 0]) ∧ RgM w' br bn bp n id id ∧ Upd [] w w' ∧ w.heap.size ≤ br ∧ w.heap.size ≤ bn ∧ w.heap.size ≤ bp := by
  have hmk := run_make_row' (P := Try.prog) 63 3 (.int .i64 0) 8 Try.underlying63 intInfo' rfl .i64 .i64 n (by omega) (by omega)
  go_enter Try.func63, Try.ntmps63
  go_wp2
  go_region
  all_goals
    go_wp2
    go_loopw [19] (fun i wr => ∃ (bn bp k : Nat) (f g : Nat → Value), k ≤ n ∧ i = .int .i64 k ∧ RowAt wr (w.heap.size + 1 + 1) 135 2 (fun j => [Value.slice (some ⟨bn, 0, none⟩) n n, .slice (some ⟨bp, 0, none⟩) n n].getD j undef) ∧
      RowAt wr bn 3 n f ∧ RowAt wr bp 3 n g ∧ (∀ j, j < k → f j = .int .i64 (j : Int) ∧ g j = .int .i64 (j : Int)) ∧ (w.heap.size ≤ bn ∧ w.heap.size ≤ bp ∧ bn ≠ bp ∧ bn < w.heap.size + 1 + 1 ∧ bp < w.heap.size + 1 + 1) ∧ Upd [] w wr) (fun i _ => n - (intOf i).toNat)
    case atStart =>
      have r0 := rowAt_mk w n
      have r1 := rowAt_mk (w.alloc (.cells (madeCells #[.int .i64 0] n) 3)) n
      rw [World.size_alloc] at r1
      have rh := fun v1 v2 => rowAt_new ((w.alloc (.cells (madeCells #[.int .i64 0] n) 3)).alloc (.cells (madeCells #[.int .i64 0] n) 3)) [v1, v2] 135
      simp only [World.size_alloc] at rh
      first
        | exact ⟨w.heap.size, w.heap.size + 1, 0, _, _, by omega, rfl, (rh _ _).drew, ((r0.alloc _).alloc _).drew, (r1.alloc _).drew, by omega, by omega, by (repeat (first | assumption | exact Upd.refl _ _ | refine Upd.alloc ?_ _ | refine Upd.drew ?_ | refine Upd.drewN ?_ _ | refine Upd.setCell ?_ ?_ _ | focus (left; simp; done) | focus (right; simp; done) | focus (right; simp; omega)))⟩
        | exact ⟨w.heap.size + 1, w.heap.size, 0, _, _, by omega, rfl, (rh _ _).drew, (r1.alloc _).drew, ((r0.alloc _).alloc _).drew, by omega, by omega, by (repeat (first | assumption | exact Upd.refl _ _ | refine Upd.alloc ?_ _ | refine Upd.drew ?_ | refine Upd.drewN ?_ _ | refine Upd.setCell ?_ ?_ _ | focus (left; simp; done) | focus (right; simp; done) | focus (right; simp; omega)))⟩
    case round =>
      obtain ⟨bn, bp, k, f, g, hk, rfl, hH, hN, hP, hf, hb, hu⟩ := hrel
      rename World => wr
      by_cases hkn : k < n
      · have c0 := hH.cellAt 0 (by omega) rfl
        have c1 := hH.cellAt 1 (by omega) rfl
        have d0 := hN.cell k hkn
        have d1 := hP.cell k hkn
        have e0 := hN.free k
        have e1 := hP.free k
        have hkI : (k : Int) < (n : Int) := by omega
        obtain ⟨b1, b2, b3, b4, b5⟩ := hb
        have HF := Lib.hid (And.intro hf (And.intro hH (And.intro hN (And.intro hP hu))))
        clear hf hH hN hP hu hmk
        go_wp2
        go_region
        all_goals
          go_wp2
          go_roundw
          case rel =>
            obtain ⟨hf, hH, hN, hP, hu⟩ := HF.out
            refine ⟨bn, bp, k + 1, _, _, by omega, by go_num, (hH.far _ _ (by simp; omega)).far _ _ (by simp; omega), (hN.set _ _).far _ _ (by simp; omega), (hP.far _ _ (by simp; omega)).set _ _, fun j hj => ?_, ⟨b1, b2, b3, b4, b5⟩, ((hu.setCell (Or.inr (by simpa using b1)) _).setCell (Or.inr (by simpa using b2)) _).drew⟩
            by_cases e : j = k
            · subst e; simp
            · simp only [if_neg e]
              exact hf j (by omega)
          case measure => simp [intOf]; omega
      · obtain rfl : k = n := by omega
        go_wp2
        go_ret2
        exact ⟨_, bn, bp, rfl, ⟨hH, hN.ext (fun j hj => (hf j hj).1), hP.ext (fun j hj => (hf j hj).2), by omega, h, ⟨fun x hx => hx, fun x hx => hx, fun _ _ => rfl, fun _ _ => rfl⟩⟩, hu, by omega, by omega, by omega⟩

theorem rhas_any {w : World} {br bn bp n : Nat} {nx pv : Nat → Nat} (h : RgM w br bn bp n nx pv) (x : Int) (b : Bool) (hb : b = decide (0 ≤ x ∧ x < n)) :
    Calls Try.prog 88 #[.pointer (some ⟨br, 0, none⟩), .int .i64 x] w fun e w' => e = .returned (.bool b) ∧ w' = w := by
  have hle := h.le
  have c0 := h.h0
  clear h
  rw [hb]
  by_cases h0 : 0 ≤ x
  · by_cases h1 : x < n
    · go_enter Try.func88, Try.ntmps88
      go_wp2
      go_ret
      exact ⟨ret_bool (by simp [h0, h1]), rfl⟩
    · go_enter Try.func88, Try.ntmps88
      go_wp2
      go_ret
      exact ⟨ret_bool (by simp [h0, h1]), rfl⟩
  · go_enter Try.func88, Try.ntmps88
    go_wp2
    go_ret
    exact ⟨ret_bool (by simp; omega), rfl⟩
section
variable {w : World} {br bn bp n : Nat} {nx pv : Nat → Nat}
theorem rhas_yes (h : RgM w br bn bp n nx pv) {x : Nat} (hx : x < n) : Calls Try.prog 88 #[.pointer (some ⟨br, 0, none⟩), .int .i64 (x : Int)] w fun e w' => e = .returned (.bool true) ∧ w' = w :=
  rhas_any h x true (by simp; omega)
theorem rnext_any (h : RgM w br bn bp n nx pv) {x : Nat} (hx : x < n) : Calls Try.prog 168 #[.pointer (some ⟨br, 0, none⟩), .int .i64 (x : Int)] w fun e w' => e = .returned (.tuple #[.int .i64 (nx x : Int), .bool true]) ∧ w' = w := by
  have hle := h.le
  have c0 := h.h0
  have c1 := h.nr.cell x hx
  have kh := rhas_yes h hx
  have hxI : (x : Int) < (n : Int) := by omega
  clear h
  go_enter Try.func168, Try.ntmps168
  go_wp2_with ((go_at_call 88; (with_reducible refine (kh).mono ?_); rintro e w9 ⟨rfl, hw9⟩; rw [hw9]; clear hw9 w9))
  go_ret2
  exact ⟨rfl, rfl⟩
theorem swapN_cell (nx : Nat → Nat) (x y j : Nat) : (if j = y then Value.int .i64 (nx x : Int) else if j = x then Value.int .i64 (nx y : Int) else Value.int .i64 (nx j : Int)) = .int .i64 (swapN nx x y j : Int) := by
  unfold swapN
  by_cases e1 : j = y
  · rw [if_pos e1]
    by_cases e2 : j = x
    · rw [if_pos e2, ← e1, e2]
    · rw [if_neg e2, if_pos e1]
  · rw [if_neg e1]
    by_cases e2 : j = x
    · rw [if_pos e2, if_pos e2]
    · rw [if_neg e2, if_neg e2, if_neg e1]
theorem swapP_cell (nx pv : Nat → Nat) (x y j : Nat) : (if j = nx x then Value.int .i64 (y : Int) else if j = nx y then Value.int .i64 (x : Int) else Value.int .i64 (pv j : Int)) = .int .i64 (swapP nx pv x y j : Int) := by
  unfold swapP
  split
  · rfl
  · split <;> rfl
set_option maxHeartbeats 2000000 in
theorem rsplice_any (h : RgM w br bn bp n nx pv) {x y : Nat} (hx : x < n) (hy : y < n) : Calls Try.prog 103 #[.pointer (some ⟨br, 0, none⟩), .int .i64 (x : Int), .int .i64 (y : Int)] w fun e w' =>
    e = .returned (.bool true) ∧ RgM w' br bn bp n (swapN nx x y) (swapP nx pv x y) ∧ Upd [bn, bp] w w' := by
  have hle := h.le
  have c0 := h.h0
  have c1 := h.h1
  have d0 := h.nr.cell x hx
  have d1 := h.nr.cell y hy
  have f0 := h.nr.free x
  have f1 := h.nr.free y
  have ha := h.rg.nn x hx
  have hb := h.rg.nn y hy
  have e0 := h.pr.cell (nx x) ha
  have e1 := h.pr.cell (nx y) hb
  have g0 := h.pr.free (nx x)
  have g1 := h.pr.free (nx y)
  have kx := rhas_yes h hx
  have ky := rhas_yes h hy
  obtain ⟨n1, n2, n3⟩ := h.ne
  obtain ⟨l1, l2, l3⟩ := h.lt
  have i1 : (x : Int) < (n : Int) := by omega
  have i2 : (y : Int) < (n : Int) := by omega
  have i3 : (nx x : Int) < (n : Int) := by omega
  have i4 : (nx y : Int) < (n : Int) := by omega
  have H := Lib.hid h
  clear h
  generalize ea : nx x = a at *
  generalize eb : nx y = b at *
  by_cases hxy : x = y
  · subst hxy
    rw [ea] at eb
    subst eb
    go_enter Try.func103, Try.ntmps103
    go_wp2_with (first
      | (go_at_call 88; (with_reducible refine (kx).mono ?_); rintro e w9 ⟨rfl, hw9⟩; rw [hw9]; clear hw9 w9)
      | fail)
    go_region
    go_wp2
    go_region
    go_wp2
    go_region
    go_wp2
    go_ret
    have h := H.out
    refine ⟨rfl, ⟨((((h.head.far _ _ n1).far _ _ n1).far _ _ n2).far _ _ n2), ((((h.nr.set _ _).set _ _).far _ _ n3).far _ _ n3).ext (fun j hj => ?_), ((((h.pr.far _ _ (Ne.symm n3)).far _ _ (Ne.symm n3)).set _ _).set _ _).ext (fun j hj => ?_), h.ne, h.le, h.rg.swap hx hy⟩, by (repeat (first | assumption | exact Upd.refl _ _ | refine Upd.drew ?_ | refine Upd.alloc ?_ _ | refine Upd.setCell ?_ ?_ _ | focus (left; simp; done) | focus (right; simp; done) | focus (right; simp; omega) | (apply Upd.trans; rotate_left; assumption)))⟩
    · have := swapN_cell nx x x j; rw [ea] at this; exact this
    · have := swapP_cell nx pv x x j; rw [ea] at this; exact this
  · have hyx : y ≠ x := fun e => hxy e.symm
    have hab : a ≠ b := fun e => hxy (H.out.rg.inj hx hy (by rw [ea, eb, e]))
    go_enter Try.func103, Try.ntmps103
    go_wp2_with (first
      | (go_at_call 88; (with_reducible refine (kx).mono ?_); rintro e w9 ⟨rfl, hw9⟩; rw [hw9]; clear hw9 w9)
      | (go_at_call 88; (with_reducible refine (ky).mono ?_); rintro e w9 ⟨rfl, hw9⟩; rw [hw9]; clear hw9 w9)
      | fail)
    go_region
    go_wp2
    go_region
    go_wp2
    go_region
    go_wp2
    go_ret
    have h := H.out
    refine ⟨rfl, ⟨((((h.head.far _ _ n1).far _ _ n1).far _ _ n2).far _ _ n2), ((((h.nr.set _ _).set _ _).far _ _ n3).far _ _ n3).ext (fun j hj => ?_), ((((h.pr.far _ _ (Ne.symm n3)).far _ _ (Ne.symm n3)).set _ _).set _ _).ext (fun j hj => ?_), h.ne, h.le, h.rg.swap hx hy⟩, by (repeat (first | assumption | exact Upd.refl _ _ | refine Upd.drew ?_ | refine Upd.alloc ?_ _ | refine Upd.setCell ?_ ?_ _ | focus (left; simp; done) | focus (right; simp; done) | focus (right; simp; omega) | (apply Upd.trans; rotate_left; assumption)))⟩
    · have := swapN_cell nx x y j; rw [ea, eb] at this; exact this
    · have := swapP_cell nx pv x y j; rw [ea, eb] at this; exact this
set_option maxHeartbeats 2000000 in
theorem rpart_any (h : RgM w br bn bp n nx pv) {x : Nat} (hx : x < n) : Calls Try.prog 85 #[.pointer (some ⟨br, 0, none⟩), .int .i64 (x : Int)] w fun e w' =>
    e = .returned (.bool true) ∧ RgM w' br bn bp n (swapN nx x (pv x)) (swapP nx pv x (pv x)) ∧ Upd [bn, bp] w w' := by
  have hle := h.le
  have c1 := h.h1
  have d0 := h.pr.cell x hx
  have kx := rhas_yes h hx
  have ks := rsplice_any h hx (h.rg.pp x hx)
  have hxI : (x : Int) < (n : Int) := by omega
  clear h
  go_enter Try.func85, Try.ntmps85
  go_wp2_with (first
    | (go_at_call 88; (with_reducible refine (kx).mono ?_); rintro e w9 ⟨rfl, hw9⟩; rw [hw9]; clear hw9 w9)
    | ((go_at_call 103; (with_reducible refine (ks).mono ?_)); rintro e w1 ⟨rfl, hR, hu⟩)
    | fail)
  go_ret
  exact ⟨rfl, hR, hu⟩
set_option maxHeartbeats 2000000 in
theorem rall_any (h : RgM w br bn bp n nx pv) {x : Nat} {t : List Nat} (hr : Ring nx (x :: t)) (hl : ∀ z, z ∈ x :: t → z < n) : Calls Try.prog 65 #[.pointer (some ⟨br, 0, none⟩), .int .i64 (x : Int)] w fun e w' =>
    ∃ v, e = .returned v ∧ w'.ownsRow w.heap.size 3 1 v (x :: t).length (intsZ (natI (x :: t))) ∧ Upd [] w w' := by
  have hx : x < n := hl x (by simp)
  have hlen : (x :: t).length ≤ n := nodup_bound n (x :: t) hr.nd hl
  have hle := h.le
  obtain ⟨l1, l2, l3⟩ := h.lt
  have c0 := h.h0
  have d0 := h.nr.cell x hx
  have kx := rhas_yes h hx
  have hxI : (x : Int) < (n : Int) := by omega
  have e0 := hr.at 0 (by simp)
  have hcell : ∀ (W : World) (y : Nat), Upd [] w W → y < n → W.cell? ⟨bn, y, none⟩ = some (.int .i64 (nx y : Int)) := fun W y hW hy => hW.was (h.nr.cell y hy)
  have hc0 : ∀ (W : World), Upd [] w W → W.cell? ⟨br, 0, none⟩ = some (.slice (some ⟨bn, 0, none⟩) n n) := fun W hW => hW.was h.h0
  have HR := Lib.hid (And.intro hr (And.intro hl hcell))
  have ho0 : (w.alloc (.cells #[.int .i64 (x : Int)] 3)).ownsRow w.heap.size 3 1 (.slice (some ⟨w.heap.size, 0, none⟩) 1 1) 1 [.int .i64 (x : Int)] := own_lit w [.int .i64 (x : Int)] 3 w.heap.size 1 1 rfl (Nat.le_refl _) (by unfold maxLen; omega)
  have HO := Lib.hid ho0
  clear h hr hl hcell ho0
  go_enter Try.func65, Try.ntmps65
  go_wp2_with (first
    | (go_at_call 88; (with_reducible refine (kx).mono ?_); rintro e w9 ⟨rfl, hw9⟩; rw [hw9]; clear hw9 w9)
    | fail)
  go_loopw [5, 6] (fun s5 s6 wr => ∃ k : Nat, k < (x :: t).length ∧ s6 = .int .i64 ((nx ((x :: t).getD k 0) : Nat) : Int) ∧ wr.ownsRow w.heap.size 3 1 s5 (k + 1) (intsZ (natI ((x :: t).take (k + 1)))) ∧ Upd [] w wr) (fun s5 _ _ => match s5 with | .slice _ l _ => n - l | _ => 0)
  case atStart => exact ⟨0, by simp, rfl, HO.out, by (repeat (first | assumption | exact Upd.refl _ _ | refine Upd.alloc ?_ _ | refine Upd.drew ?_ | refine Upd.drewN ?_ _ | refine Upd.setCell ?_ ?_ _ | focus (left; simp; done) | focus (right; simp; done) | focus (right; simp; omega)))⟩
  case round =>
    obtain ⟨k, hk, rfl, ho, hu⟩ := hrel
    rename World => wr
    obtain ⟨a, c, rfl, hc⟩ := own_slice ho
    have hat := HR.out.1.at k hk
    have hgk : (x :: t).getD k 0 = (x :: t)[k] := by rw [List.getD_eq_getElem?_getD, List.getElem?_eq_getElem hk]; rfl
    rw [hgk, hat]
    have h0 := hc0 wr hu
    by_cases hk1 : k + 1 < (x :: t).length
    · obtain ⟨y, hy⟩ : ∃ y, (x :: t)[k + 1]? = some y := ⟨_, List.getElem?_eq_getElem hk1⟩
      have hg1 : (x :: t).getD (k + 1) x = y := by rw [List.getD_eq_getElem?_getD, hy]; rfl
      have hne : y ≠ x := fun e => by
        have hp := List.pairwise_iff_getElem.1 (List.nodup_iff_pairwise_ne.1 HR.out.1.nd) 0 (k + 1) (by simp) hk1 (by omega)
        rw [List.getElem?_eq_getElem hk1] at hy
        have h2 : (x :: t)[k + 1] = y := by injection hy
        exact hp (by rw [h2, e]; rfl)
      have hyn : y < n := HR.out.2.1 _ (List.mem_of_getElem? hy)
      have e2 : (x :: t).take (k + 1 + 1) = (x :: t).take (k + 1) ++ [y] := by rw [List.take_add_one, hy]; rfl
      have e3 : (x :: t).getD (k + 1) 0 = y := by rw [List.getD_eq_getElem?_getD, hy]; rfl
      rw [hg1]
      have HE := Lib.hid (And.intro hk1 (And.intro e2 (And.intro e3 hu)))
      have hsz := hu.size
      have hkn : k + 1 < n := by omega
      clear hat hgk hg1 e2 e3 hk1 hk hy hlen
      have hyI : (y : Int) < (n : Int) := by omega
      have hyx : ((y : Int) == (x : Int)) = false := by simp; omega
      have d1 := fun W hW => HR.out.2.2 W y hW hyn
      have HU := Lib.hid hu
      go_wp2_with (first
        | ((at_builtin; refine wpList_append_sep rfl _ _ 63 rfl w.heap.size 3 (.int .i64 0) 1 8 Try.underlying63 intInfo rfl (by decide) _ _ _ rfl (ho) [.int .i64 (y : Int)] rfl (by simp [Value.oneCell']) (by first | rfl | (rw [World.size_alloc]; rfl)) (by unfold maxLen; omega) (by omega) ((by omega)) ?_; intro v2 w2 ho2 hu2 hsep2); (have hw2 : Upd [] w w2 := HU.out.own ho (Nat.le_refl _) hu2); (have q0 := hc0 w2 hw2); (have q1 := d1 w2 hw2))
        | fail)
      obtain ⟨hk1, e2, e3, _⟩ := HE.out
      obtain ⟨a2, c2, rfl, _⟩ := own_slice ho2
      refine ⟨⟨k + 1, hk1, by rw [e3], ?_, hw2⟩, by simp; omega⟩
      rw [e2, natI_app, intsZ_append]
      exact ho2
    · have hkl : k + 1 = (x :: t).length := by omega
      have hg1 : (x :: t).getD (k + 1) x = x := by rw [List.getD_eq_getElem?_getD, List.getElem?_eq_none (by omega)]; rfl
      rw [hg1]
      have e2 : (x :: t).take (k + 1) = x :: t := List.take_of_length_le (by omega)
      rw [e2] at ho
      have HO2 := Lib.hid (And.intro ho (And.intro hu hkl))
      clear hat hgk hg1 e2 hk1 hk ho hkl hlen
      go_wp2
      go_ret
      obtain ⟨ho, hu, hkl⟩ := HO2.out
      exact ⟨_, rfl, hkl ▸ ho, hu⟩
end
end Go.Proofs.Ytighgbdijagolaa
