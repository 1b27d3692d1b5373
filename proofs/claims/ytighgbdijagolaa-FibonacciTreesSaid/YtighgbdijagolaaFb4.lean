/-
  Fibonacci heaps: off, cascade, loosen. Conditions: those of each lemma.
-/
import Derived.Test.YtighgbdijagolaaFb3
import Derived.Test.YtighgbdijagolaaGfb
set_option linter.unusedVariables false
set_option linter.unusedSimpArgs false
namespace Go.Proofs.Ytighgbdijagolaa
open Go Go.RowKit

section
variable {w : World} {B : FB} {F : List Nat} {gt ct : Nat} {A : NS} {st : Nat} {G : FG}
theorem putF_twice {α : Type} (f : Nat → α) (x : Nat) (u v : α) : putF (putF f x u) x v = putF f x v := by
  funext z; unfold putF; split <;> rfl
/-- A slot's children are others. -/
theorem FbM.kids (M : FbM w B F gt ct A st G) (p : Nat) (l : List Nat) (d v : Int) (hd : d = (l.length : Int)) (hv : v = hdI l) :
    FbM ((w.setCell ⟨B.bl, p * 4 + 2, none⟩ (.int .i64 d)).setCell ⟨B.bl, p * 4 + 1, none⟩ (.int .i64 v)) B F gt ct A st { G with K := putF G.K p l } := by
  refine M.setP (up := G.up) (mr := G.mr) (by (repeat (first | assumption | exact Upd.refl _ _ | refine Upd.drew ?_ | refine Upd.alloc ?_ _ | refine Upd.setCell ?_ ?_ _ | focus (left; simp; done) | focus (right; simp; done) | focus (right; simp; omega) | (apply Upd.trans; rotate_left; assumption)))) ?_
  unfold plCell
  simp only [hd_put, len_put, ← hv, ← hd]
  exact row_set1 (row_set2 M.pl p d) p v
theorem FbM.kids2 (M : FbM w B F gt ct A st G) (p : Nat) (l : List Nat) (d v u : Int) (hd : d = (l.length : Int)) (hv : v = hdI l) :
    FbM (((w.setCell ⟨B.bl, p * 4 + 2, none⟩ (.int .i64 d)).setCell ⟨B.bl, p * 4 + 1, none⟩ (.int .i64 u)).setCell ⟨B.bl, p * 4 + 1, none⟩ (.int .i64 v)) B F gt ct A st { G with K := putF G.K p l } := by
  refine M.setP (up := G.up) (mr := G.mr) (by (repeat (first | assumption | exact Upd.refl _ _ | refine Upd.drew ?_ | refine Upd.alloc ?_ _ | refine Upd.setCell ?_ ?_ _ | focus (left; simp; done) | focus (right; simp; done) | focus (right; simp; omega) | (apply Upd.trans; rotate_left; assumption)))) ?_
  unfold plCell
  simp only [hd_put, len_put, ← hv, ← hd]
  have := row_set1 (row_set1 (row_set2 M.pl p d) p u) p v
  rw [putF_twice] at this
  exact this
/-- A slot is topmost, and not marked. -/
theorem FbM.lone (M : FbM w B F gt ct A st G) (x : Nat) : FbM ((w.setCell ⟨B.bl, x * 4, none⟩ (.int .i64 (-1))).setCell ⟨B.bl, x * 4 + 3, none⟩ (.bool false)) B F gt ct A st { G with up := putF G.up x (-1), mr := putF G.mr x false } := by
  refine M.setP (K := G.K) (by (repeat (first | assumption | exact Upd.refl _ _ | refine Upd.drew ?_ | refine Upd.alloc ?_ _ | refine Upd.setCell ?_ ?_ _ | focus (left; simp; done) | focus (right; simp; done) | focus (right; simp; omega) | (apply Upd.trans; rotate_left; assumption)))) ?_
  exact row_set3 (row_set0 M.pl x (-1)) x false
theorem wp_named {c : Code} {K : Exit → Act → World → Prop} {a : Act} {W : World} (R : World → Prop) (h : R W) (k : ∀ W', R W' → Code.wp Try.prog c K a W') : Code.wp Try.prog c K a W := k W h
set_option maxHeartbeats 4000000 in
theorem foff_any (M : FbM w B F gt ct A st G) {q x p t : Nat} {s : List Nat} (hq : q < A.hs.length) (hx : x < A.cs.length) (hp : p < A.cs.length) (ux : G.up x = p) (hR : G.R q = t :: s) (ht : t < A.cs.length)
    (hl : (G.K p).length = (aft (G.K p) x).length + 1) (hl2 : (G.K p).length ≤ 65536) (hn : G.nx x = (aft (G.K p) x).headD x) (hxa : x ∉ aft (G.K p) x) :
    Calls Try.prog 166 #[.pointer (some ⟨B.n0, 0, none⟩), .int .i64 (q : Int), .int .i64 (x : Int)] w fun e w' => e = .returned (.tuple #[]) ∧ FbM w' B F gt ct A st (offG q x G) ∧ Upd [B.bn, B.bp, B.bl] w w' := by
  have hc1 := M.cells.ok.c1
  have h2 := M.h2
  have h1 := M.h1
  have hxI : (x : Int) < (A.cs.length : Int) := by omega
  have hpI : (p : Int) < (A.cs.length : Int) := by omega
  have px0 := M.p0 hx
  rw [ux] at px0
  have pp1 := M.p1 hp
  have pp2 := M.p2 hp
  have fp1 := M.pl.free (p * 4 + 1)
  have fp2 := M.pl.free (p * 4 + 2)
  have eg : offG q x G = { nx := swapN (swapN G.nx x (G.pv x)) t x, pv := swapP (swapN G.nx x (G.pv x)) (swapP G.nx G.pv x (G.pv x)) t x, up := putF G.up x (-1), mr := putF G.mr x false, K := putF G.K p (aft (G.K p) x), R := putF G.R q (t :: x :: s) } := by
    unfold offG; rw [hR, ux]; rfl
  rw [eg]
  have hw1 : IntKind.i64.wrap (((G.K p).length : Int) - 1) = ((aft (G.K p) x).length : Int) := by rw [IntWalk.i64_in _ (by omega)]; omega
  obtain ⟨g1, g2, g3, g4, g5, g6, g7⟩ := M.d3
  obtain ⟨e1, e2, e3, e4, e5⟩ := M.d2
  have hlt := M.lt
  have lbl := hlt B.bl (by simp [FB.blk])
  have hkn : ∀ W, FbM W B F gt ct A st { G with K := putF G.K p (aft (G.K p) x) } → Calls Try.prog 168 #[.pointer (some ⟨B.br, 0, none⟩), .int .i64 (x : Int)] W fun e w' => e = .returned (.tuple #[.int .i64 (G.nx x : Int), .bool true]) ∧ w' = W := fun W hW => rnext_any hW.rings hx
  -- the end, from where the children are told anew
  have kpart : ∀ W, FbM W B F gt ct A st { G with K := putF G.K p (aft (G.K p) x) } → Calls Try.prog 85 #[.pointer (some ⟨B.br, 0, none⟩), .int .i64 (x : Int)] W fun e w' => e = .returned (.bool true) ∧ RgM w' B.br B.bn B.bp A.cs.length (swapN G.nx x (G.pv x)) (swapP G.nx G.pv x (G.pv x)) ∧ Upd [B.bn, B.bp] W w' := fun W hW => rpart_any hW.rings hx
  cases hA : aft (G.K p) x with
  | nil =>
    rw [hA] at hn hw1 hl kpart hkn
    have hn' : G.nx x = x := hn
    rw [hn'] at hkn
    obtain ⟨W5, hW5⟩ : ∃ W5, W5 = (w.setCell ⟨B.bl, p * 4 + 2, none⟩ (.int .i64 0)).setCell ⟨B.bl, p * 4 + 1, none⟩ (.int .i64 (-1)) := ⟨_, rfl⟩
    have M5 : FbM W5 B F gt ct A st { G with K := putF G.K p [] } := by rw [hW5]; exact M.kids p [] 0 (-1) rfl rfl
    have hu5 : Upd [B.bl] w W5 := by rw [hW5]; (repeat (first | assumption | exact Upd.refl _ _ | refine Upd.drew ?_ | refine Upd.alloc ?_ _ | refine Upd.setCell ?_ ?_ _ | focus (left; simp; done) | focus (right; simp; done) | focus (right; simp; omega) | (apply Upd.trans; rotate_left; assumption)))
    go_enter Try.func166, Try.ntmps166
    go_wp2
    go_region
    have KP := Lib.hid kpart
    have KN := Lib.hid hkn
    have H5 := Lib.hid (And.intro M5 (And.intro hu5 hW5))
    have HM := Lib.hid (And.intro M (And.intro hlt hR))
    clear kpart hkn M5 hu5 hW5 M hlt hR eg hA hn hn' hl ux hxa
    have kn5 := fun W (hW : Upd [] W5 W) => KN.out W (H5.out.1.upd0 hW)
    have kp5 := fun W (hW : Upd [] W5 W) => KP.out W (H5.out.1.upd0 hW)
    rw [H5.out.2.2] at kn5 kp5
    go_wp2_with (first
      | ((go_at_call 168; (with_reducible refine (kn5 _ (by (repeat (first | assumption | exact Upd.refl _ _ | refine Upd.alloc ?_ _ | refine Upd.drew ?_ | refine Upd.drewN ?_ _ | refine Upd.setCell ?_ ?_ _ | focus (left; simp; done) | focus (right; simp; done) | focus (right; simp; omega))))).mono ?_)); rintro e w9 ⟨rfl, hw9⟩; rw [hw9]; clear hw9 w9)
      | ((go_at_call 85; (with_reducible refine (kp5 _ (by (repeat (first | assumption | exact Upd.refl _ _ | refine Upd.alloc ?_ _ | refine Upd.drew ?_ | refine Upd.drewN ?_ _ | refine Upd.setCell ?_ ?_ _ | focus (left; simp; done) | focus (right; simp; done) | focus (right; simp; omega))))).mono ?_)); rintro e w6 ⟨rfl, hR6, hu6⟩)
      | fail)
    have U6 : Upd [B.bn, B.bp] W5 w6 := by rw [H5.out.2.2]; exact Upd.trans (by (repeat (first | assumption | exact Upd.refl _ _ | refine Upd.alloc ?_ _ | refine Upd.drew ?_ | refine Upd.drewN ?_ _ | refine Upd.setCell ?_ ?_ _ | focus (left; simp; done) | focus (right; simp; done) | focus (right; simp; omega)))) hu6
    have M6 := ((H5.out.1)).setR U6 hR6
    have hu7 : Upd [B.bn, B.bp, B.bl] w w6 := (H5.out.2.1.mono (by simp)).trans ((U6).mono (fun z hz => by simp at hz; rcases hz with e | e <;> simp [e]))
    have q2 := M6.h2
    have q0 := M6.p0 hx
    have q3 := M6.p3 hx
    have f0 := M6.pl.free (x * 4)
    have f3 := M6.pl.free (x * 4 + 3)
    have H6 := Lib.hid (And.intro M6 hu7)
    clear M6 hu7 hR6 hu6 kn5 kp5
    go_region
    go_wp2
    refine wp_named (fun W => FbM W B F gt ct A st { nx := swapN G.nx x (G.pv x), pv := swapP G.nx G.pv x (G.pv x), up := putF G.up x (-1), mr := putF G.mr x false, K := putF G.K p [], R := G.R } ∧ Upd [B.bn, B.bp, B.bl] w W) ?_ ?_
    · have hu7 := H6.out.2
      exact ⟨(H6.out.1.lone x).drewN 1, by (repeat (first | assumption | exact Upd.refl _ _ | refine Upd.drew ?_ | refine Upd.alloc ?_ _ | refine Upd.setCell ?_ ?_ _ | focus (left; simp; done) | focus (right; simp; done) | focus (right; simp; omega) | (apply Upd.trans; rotate_left; assumption)))⟩
    rintro w7 ⟨M7, hu7⟩
    have ks := fun W (hW : Upd [] w7 W) => rsplice_any (M7.rings.upd0 hW) ht hx
    have m : ∀ x, x ≠ B.bn → x ≠ B.bp → x ∉ [B.bn, B.bp] := fun x h1 h2 => by simp [h1, h2]
    have r1 : ∀ W, Upd [B.bn, B.bp] w7 W → W.cell? ⟨B.n0, 1, none⟩ = some (.pointer (some ⟨B.br, 0, none⟩)) := fun W hW => hW.kept M7.h1 (m _ e2 e3)
    have r3 : ∀ W, Upd [B.bn, B.bp] w7 W → W.cell? ⟨B.n0, 3, none⟩ = some (.slice (some ⟨gt, 0, none⟩) A.hs.length ct) := fun W hW => hW.kept M7.h3 (m _ e2 e3)
    have rt : ∀ W, Upd [B.bn, B.bp] w7 W → W.cell? ⟨gt, q, none⟩ = some (.int .i64 (t : Int)) := fun W hW => by
      have := hW.kept (M7.top hq) (m _ g6 g7)
      rw [show hdI ((({ nx := swapN G.nx x (G.pv x), pv := swapP G.nx G.pv x (G.pv x), up := putF G.up x (-1), mr := putF G.mr x false, K := putF G.K p [], R := G.R } : FG)).R q) = t from by show hdI (G.R q) = t; rw [HM.out.2.2]; rfl] at this
      exact this
    have hqI : (q : Int) < (A.hs.length : Int) := by omega
    have hcap := M7.cap
    have H7 := Lib.hid (And.intro M7 hu7)
    clear M7 hu7 q2 q0 q3 f0 f3
    go_region_held3 (Upd [B.bn, B.bp] w7) (repeat (first | assumption | exact Upd.refl _ _ | refine Upd.drew ?_ | refine Upd.alloc ?_ _ | refine Upd.setCell ?_ ?_ _ | focus (left; simp; done) | focus (right; simp; done) | focus (right; simp; omega) | (apply Upd.trans; rotate_left; assumption)))
      (first
        | ((go_at_call 103; (with_reducible refine (ks _ (by (repeat (first | assumption | exact Upd.refl _ _ | refine Upd.alloc ?_ _ | refine Upd.drew ?_ | refine Upd.drewN ?_ _ | refine Upd.setCell ?_ ?_ _ | focus (left; simp; done) | focus (right; simp; done) | focus (right; simp; omega))))).mono ?_)); rintro e w8 ⟨rfl, hR8, hu8⟩; (have hu9 : Upd [B.bn, B.bp] w7 w8 := Upd.trans (by (repeat (first | assumption | exact Upd.refl _ _ | refine Upd.drew ?_ | refine Upd.alloc ?_ _ | refine Upd.setCell ?_ ?_ _ | focus (left; simp; done) | focus (right; simp; done) | focus (right; simp; omega) | (apply Upd.trans; rotate_left; assumption)))) hu8)))
    go_wp2
    go_end0
    refine ⟨rfl, ((H7.out.1.setR hu9 hR8).setT0 q (t :: x :: s) (by show _ = hdI (G.R q); rw [HM.out.2.2]; rfl)).drewN 0, H7.out.2.trans (hu9.mono (fun z hz => by simp at hz; rcases hz with e | e <;> simp [e]))⟩
  | cons y r =>
    rw [hA] at hn hw1 hl kpart hkn
    have hn' : G.nx x = y := hn
    rw [hA] at hxa
    have hyx : y ≠ x := fun e => hxa (by simp [e])
    have hyxI : ((y : Int) == (x : Int)) = false := by simp; omega
    rw [hn'] at hkn
    have hrl : ((r.length : Nat) : Int) + 1 = (((y :: r).length : Nat) : Int) := by simp
    obtain ⟨W4, hW4⟩ : ∃ W4, W4 = (w.setCell ⟨B.bl, p * 4 + 2, none⟩ (.int .i64 (((y :: r).length : Nat) : Int))).setCell ⟨B.bl, p * 4 + 1, none⟩ (.int .i64 (-1)) := ⟨_, rfl⟩
    obtain ⟨W5, hW5⟩ : ∃ W5, W5 = ((w.setCell ⟨B.bl, p * 4 + 2, none⟩ (.int .i64 (((y :: r).length : Nat) : Int))).setCell ⟨B.bl, p * 4 + 1, none⟩ (.int .i64 (-1))).setCell ⟨B.bl, p * 4 + 1, none⟩ (.int .i64 (y : Int)) := ⟨_, rfl⟩
    have M5 : FbM W5 B F gt ct A st { G with K := putF G.K p (y :: r) } := by rw [hW5]; exact M.kids2 p (y :: r) _ (y : Int) (-1) rfl rfl
    have hu5 : Upd [B.bl] w W5 := by rw [hW5]; (repeat (first | assumption | exact Upd.refl _ _ | refine Upd.drew ?_ | refine Upd.alloc ?_ _ | refine Upd.setCell ?_ ?_ _ | focus (left; simp; done) | focus (right; simp; done) | focus (right; simp; omega) | (apply Upd.trans; rotate_left; assumption)))
    have hu4 : Upd [B.bl] w W4 := by rw [hW4]; (repeat (first | assumption | exact Upd.refl _ _ | refine Upd.drew ?_ | refine Upd.alloc ?_ _ | refine Upd.setCell ?_ ?_ _ | focus (left; simp; done) | focus (right; simp; done) | focus (right; simp; omega) | (apply Upd.trans; rotate_left; assumption)))
    have kn4 : ∀ W, Upd [] W4 W → Calls Try.prog 168 #[.pointer (some ⟨B.br, 0, none⟩), .int .i64 (x : Int)] W fun e w' => e = .returned (.tuple #[.int .i64 (y : Int), .bool true]) ∧ w' = W := fun W hW => by
      have := rnext_any (M.rings.upd (hu4.then hW) (by simp; exact Ne.symm g1) (by simp; exact Ne.symm g2) (by simp; exact Ne.symm g3)) hx
      rw [hn'] at this
      exact this
    have kp5 : ∀ W, Upd [] W5 W → Calls Try.prog 85 #[.pointer (some ⟨B.br, 0, none⟩), .int .i64 (x : Int)] W fun e w' => e = .returned (.bool true) ∧ RgM w' B.br B.bn B.bp A.cs.length (swapN G.nx x (G.pv x)) (swapP G.nx G.pv x (G.pv x)) ∧ Upd [B.bn, B.bp] W w' := fun W hW => kpart W (M5.upd0 hW)
    rw [hW4] at kn4
    rw [hW5] at kp5
    have kn5 := kn4
    have H5 := Lib.hid (And.intro M5 (And.intro hu5 hW5))
    have HM := Lib.hid (And.intro M (And.intro hlt hR))
    clear kpart hkn M5 hu5 hW5 M hlt hR eg hA hn hn' hl ux hxa hW4 hu4 kn4 hrl
    generalize (((y :: r).length : Nat) : Int) = dl at *
    go_enter Try.func166, Try.ntmps166
    go_wp2
    go_region
    go_wp2_with (first
      | ((go_at_call 168; (with_reducible refine (kn5 _ (by (repeat (first | assumption | exact Upd.refl _ _ | refine Upd.alloc ?_ _ | refine Upd.drew ?_ | refine Upd.drewN ?_ _ | refine Upd.setCell ?_ ?_ _ | focus (left; simp; done) | focus (right; simp; done) | focus (right; simp; omega))))).mono ?_)); rintro e w9 ⟨rfl, hw9⟩; rw [hw9]; clear hw9 w9)
      | ((go_at_call 85; (with_reducible refine (kp5 _ (by (repeat (first | assumption | exact Upd.refl _ _ | refine Upd.alloc ?_ _ | refine Upd.drew ?_ | refine Upd.drewN ?_ _ | refine Upd.setCell ?_ ?_ _ | focus (left; simp; done) | focus (right; simp; done) | focus (right; simp; omega))))).mono ?_)); rintro e w6 ⟨rfl, hR6, hu6⟩)
      | fail)
    have U6 : Upd [B.bn, B.bp] W5 w6 := by rw [H5.out.2.2]; exact Upd.trans (by (repeat (first | assumption | exact Upd.refl _ _ | refine Upd.alloc ?_ _ | refine Upd.drew ?_ | refine Upd.drewN ?_ _ | refine Upd.setCell ?_ ?_ _ | focus (left; simp; done) | focus (right; simp; done) | focus (right; simp; omega)))) hu6
    have M6 := ((H5.out.1)).setR U6 hR6
    have hu7 : Upd [B.bn, B.bp, B.bl] w w6 := (H5.out.2.1.mono (by simp)).trans ((U6).mono (fun z hz => by simp at hz; rcases hz with e | e <;> simp [e]))
    have q2 := M6.h2
    have q0 := M6.p0 hx
    have q3 := M6.p3 hx
    have f0 := M6.pl.free (x * 4)
    have f3 := M6.pl.free (x * 4 + 3)
    have H6 := Lib.hid (And.intro M6 hu7)
    clear M6 hu7 hR6 hu6 kn5 kp5
    go_region
    go_wp2
    refine wp_named (fun W => FbM W B F gt ct A st { nx := swapN G.nx x (G.pv x), pv := swapP G.nx G.pv x (G.pv x), up := putF G.up x (-1), mr := putF G.mr x false, K := putF G.K p (y :: r), R := G.R } ∧ Upd [B.bn, B.bp, B.bl] w W) ?_ ?_
    · have hu7 := H6.out.2
      exact ⟨(H6.out.1.lone x).drewN 1, by (repeat (first | assumption | exact Upd.refl _ _ | refine Upd.drew ?_ | refine Upd.alloc ?_ _ | refine Upd.setCell ?_ ?_ _ | focus (left; simp; done) | focus (right; simp; done) | focus (right; simp; omega) | (apply Upd.trans; rotate_left; assumption)))⟩
    rintro w7 ⟨M7, hu7⟩
    have ks := fun W (hW : Upd [] w7 W) => rsplice_any (M7.rings.upd0 hW) ht hx
    have m : ∀ x, x ≠ B.bn → x ≠ B.bp → x ∉ [B.bn, B.bp] := fun x h1 h2 => by simp [h1, h2]
    have r1 : ∀ W, Upd [B.bn, B.bp] w7 W → W.cell? ⟨B.n0, 1, none⟩ = some (.pointer (some ⟨B.br, 0, none⟩)) := fun W hW => hW.kept M7.h1 (m _ e2 e3)
    have r3 : ∀ W, Upd [B.bn, B.bp] w7 W → W.cell? ⟨B.n0, 3, none⟩ = some (.slice (some ⟨gt, 0, none⟩) A.hs.length ct) := fun W hW => hW.kept M7.h3 (m _ e2 e3)
    have rt : ∀ W, Upd [B.bn, B.bp] w7 W → W.cell? ⟨gt, q, none⟩ = some (.int .i64 (t : Int)) := fun W hW => by
      have := hW.kept (M7.top hq) (m _ g6 g7)
      rw [show hdI ((({ nx := swapN G.nx x (G.pv x), pv := swapP G.nx G.pv x (G.pv x), up := putF G.up x (-1), mr := putF G.mr x false, K := putF G.K p (y :: r), R := G.R } : FG)).R q) = t from by show hdI (G.R q) = t; rw [HM.out.2.2]; rfl] at this
      exact this
    have hqI : (q : Int) < (A.hs.length : Int) := by omega
    have hcap := M7.cap
    have H7 := Lib.hid (And.intro M7 hu7)
    clear M7 hu7 q2 q0 q3 f0 f3
    go_region_held3 (Upd [B.bn, B.bp] w7) (repeat (first | assumption | exact Upd.refl _ _ | refine Upd.drew ?_ | refine Upd.alloc ?_ _ | refine Upd.setCell ?_ ?_ _ | focus (left; simp; done) | focus (right; simp; done) | focus (right; simp; omega) | (apply Upd.trans; rotate_left; assumption)))
      (first
        | ((go_at_call 103; (with_reducible refine (ks _ (by (repeat (first | assumption | exact Upd.refl _ _ | refine Upd.alloc ?_ _ | refine Upd.drew ?_ | refine Upd.drewN ?_ _ | refine Upd.setCell ?_ ?_ _ | focus (left; simp; done) | focus (right; simp; done) | focus (right; simp; omega))))).mono ?_)); rintro e w8 ⟨rfl, hR8, hu8⟩; (have hu9 : Upd [B.bn, B.bp] w7 w8 := Upd.trans (by (repeat (first | assumption | exact Upd.refl _ _ | refine Upd.drew ?_ | refine Upd.alloc ?_ _ | refine Upd.setCell ?_ ?_ _ | focus (left; simp; done) | focus (right; simp; done) | focus (right; simp; omega) | (apply Upd.trans; rotate_left; assumption)))) hu8)))
    go_wp2
    go_end0
    refine ⟨rfl, ((H7.out.1.setR hu9 hR8).setT0 q (t :: x :: s) (by show _ = hdI (G.R q); rw [HM.out.2.2]; rfl)).drewN 0, H7.out.2.trans (hu9.mono (fun z hz => by simp at hz; rcases hz with e | e <;> simp [e]))⟩
/-- A slot is marked. -/
theorem FbM.marked (M : FbM w B F gt ct A st G) (x : Nat) : FbM (w.setCell ⟨B.bl, x * 4 + 3, none⟩ (.bool true)) B F gt ct A st { G with mr := putF G.mr x true } := by
  refine M.setP (up := G.up) (K := G.K) (by (repeat (first | assumption | exact Upd.refl _ _ | refine Upd.drew ?_ | refine Upd.alloc ?_ _ | refine Upd.setCell ?_ ?_ _ | focus (left; simp; done) | focus (right; simp; done) | focus (right; simp; omega) | (apply Upd.trans; rotate_left; assumption)))) ?_
  exact row_set3 M.pl x true
set_option maxHeartbeats 4000000 in
theorem fcascade_any {hom : Nat → Int} {L Mx : Nat → Nat → Prop} (irr : ∀ a, ¬ L a a) (M : FbM w B F gt ct A st G) {q p t : Nat} {s : List Nat} (hq : q < A.hs.length) (H : FF A.cs.length G hom L (fun c => if c = p then 1 else 0)) (R : FR A.cs.length G hom Mx none) (hR : G.R q = t :: s) (hp : p < A.cs.length) (hh : hom p = q) (h1 : 1 ≤ q)
    (hf : ∀ y, y < A.cs.length → hom y = q → y ≠ t → Mx t y) :
    Calls Try.prog 167 #[.pointer (some ⟨B.n0, 0, none⟩), .int .i64 (q : Int), .int .i64 (p : Int)] w fun e w' => e = .returned (.tuple #[]) ∧ FbM w' B F gt ct A st (casG (marks A.cs.length G + 1) q p G) ∧ Upd [B.bn, B.bp, B.bl] w w' := by
  have hc1 := M.cells.ok.c1
  obtain ⟨D, hD⟩ : ∃ D, casG (marks A.cs.length G + 1) q p G = D := ⟨_, rfl⟩
  rw [hD]
  have H0 := Lib.hid (And.intro M (And.intro H (And.intro R (And.intro hR (And.intro hD hf)))))
  clear M H R hR hD hf
  go_enter Try.func167, Try.ntmps167
  go_wp2
  go_loopg [2] (marks A.cs.length G + 1) (fun fu s2 wr => ∃ (p' : Nat) (s' : List Nat) (G' : FG), s2 = .int .i64 (p' : Int) ∧ FF A.cs.length G' hom L (fun c => if c = p' then 1 else 0) ∧ FR A.cs.length G' hom Mx none ∧ G'.R q = t :: s' ∧ p' < A.cs.length ∧ hom p' = q ∧ marks A.cs.length G' < fu ∧ casG fu q p' G' = D ∧ FbM wr B F gt ct A st G' ∧ Upd [B.bn, B.bp, B.bl] w wr)
  case atStart => exact ⟨p, s, G, rfl, H0.out.2.1, H0.out.2.2.1, H0.out.2.2.2.1, hp, hh, by omega, H0.out.2.2.2.2.1, H0.out.1, Upd.refl _ _⟩
  case round =>
    rename Nat => fu
    obtain ⟨p', s', G', rfl, H, R, hR, hp', hh', hm, hcas, hM, hu⟩ := hrel
    rename World => wr
    obtain ⟨fv, rfl⟩ : ∃ fv, fu = fv + 1 := ⟨fu - 1, by omega⟩
    have hpI : (p' : Int) < (A.cs.length : Int) := by omega
    have q2 := hM.h2
    have p0 := hM.p0 hp'
    have p3 := hM.p3 hp'
    have f3 := hM.pl.free (p' * 4 + 3)
    unfold casG at hcas
    have HR := Lib.hid (And.intro H (And.intro R (And.intro hR (And.intro hM hu))))
    by_cases e : G'.up p' = -1
    · rw [if_pos e] at hcas
      rw [e] at p0
      subst hcas
      clear H R hR hM hu e H0
      go_wp2
      go_end0
      exact ⟨rfl, HR.out.2.2.2.1, HR.out.2.2.2.2⟩
    · rw [if_neg e] at hcas
      obtain ⟨pp, hpp, upp, _⟩ := (H.upK p' hp').resolve_left e
      have hne : ((pp : Int) == -1) = false := by simp
      rw [upp] at p0 hcas
      rw [Int.toNat_natCast] at hcas
      cases hb : G'.mr p' with
      | false =>
        rw [hb] at p3 hcas
        rw [if_pos rfl] at hcas
        have HC := Lib.hid hcas
        clear H R hR hM hu e hcas hb upp H0
        go_wp2
        refine bodyPost_ret (v := .tuple #[]) (by simp [results, Try.results167, go_sem]) rfl ?_
        exact ⟨rfl, by rw [← HC.out]; exact HR.out.2.2.2.1.marked p', HR.out.2.2.2.2.setCell (Or.inl (by simp)) _⟩
      | true =>
        rw [hb] at p3 hcas
        rw [if_neg (by simp)] at hcas
        have hqp : pp ≠ p' := fun e3 => by subst e3; exact irr _ (H.ord pp pp hp' upp)
        have htp : p' ≠ t := fun e3 => by
          subst e3
          have := ((R.all q).2.1 p').1 (by rw [hR]; simp)
          exact e this.2.2.1
        obtain ⟨o1, o2, o3, o4, o5, o6, ⟨a, b, eK, eA⟩, o8⟩ := off_ok H R hR hp' upp hqp hh' (H0.out.2.2.2.2.2 p' hp' hh' htp)
        have ht := (((R.all q).2.1 t).1 (by rw [hR]; simp)).2.1
        have hnd := (H.ring pp hpp).nd
        have hka : (G'.K pp).length = (aft (G'.K pp) p').length + 1 := by rw [eA, eK]; simp; omega
        have hkb : (G'.K pp).length ≤ 65536 := Nat.le_trans (H.klen hpp) hc1
        have hxa : p' ∉ aft (G'.K pp) p' := by
          rw [eA]
          rw [eK, List.nodup_append, List.nodup_cons] at hnd
          intro hm2
          rcases List.mem_append.1 hm2 with h' | h'
          · exact hnd.2.1.1 h'
          · exact hnd.2.2 p' h' p' (by simp) rfl
        have ko := fun W (hW : Upd [] wr W) => foff_any (hM.upd0 hW) hq hp' hpp upp hR ht hka hkb o8 hxa
        have hmk := marks_put (G := G') (b := false) hp' rfl (offG q p' G') o4
        rw [hb] at hmk
        simp only [Bool.false_eq_true, if_false, if_true] at hmk
        have o1' : FF A.cs.length (offG q p' G') hom L (fun c => if c = pp then 1 else 0) := by
          refine ⟨o1.rg, o1.kid, o1.upK, o1.ring, o1.home, o1.ord, o1.alone, o1.free, fun x d hx => ?_⟩
          have hupp : (offG q p' G').up p' = -1 := by rw [o3, putF_at]
          rw [few_ext (G := offG q p' G') (ex := fun c => if c = pp then (if c = p' then 1 else 0) + 1 else if c = p' then 1 else 0) d (fun c hc => by
            have hcp : c ≠ p' := fun e3 => o1.notkid hx hupp (e3 ▸ hc)
            rw [if_neg hcp])]
          exact o1.cnt x d hx
        have hph : hom pp = q := by have := (H.home p' pp hp' upp).1; omega
        have HS := Lib.hid (And.intro o1' (And.intro o2 (And.intro o6 (And.intro hcas hmk))))
        clear H R hR hM hu e hcas hb upp o1 o1' o2 o3 o4 o5 o6 o8 eK eA hnd hka hkb hxa hmk
        go_wp2_with (first
          | ((go_at_call 166; (with_reducible refine (ko _ (by (repeat (first | assumption | exact Upd.refl _ _ | refine Upd.alloc ?_ _ | refine Upd.drew ?_ | refine Upd.drewN ?_ _ | refine Upd.setCell ?_ ?_ _ | focus (left; simp; done) | focus (right; simp; done) | focus (right; simp; omega))))).mono ?_)); rintro e w2 ⟨rfl, hM2, hu2⟩)
          | fail)
        go_roundg fv
        case measure => omega
        case rel =>
          obtain ⟨o1, o2, o6, hcas, hmk⟩ := HS.out
          exact ⟨pp, p' :: s', offG q p' G', rfl, o1, o2, by rw [o6, putF_at], hpp, hph, by omega, hcas, hM2, HR.out.2.2.2.2.trans hu2⟩
set_option maxHeartbeats 4000000 in
theorem floosen_any {hom : Nat → Int} {L Mx : Nat → Nat → Prop} (irr : ∀ a, ¬ L a a) (M : FbM w B F gt ct A st G) {q x t : Nat} {s : List Nat} (hq : q < A.hs.length) (hx : x < A.cs.length) (H0 : FF A.cs.length G hom (fun a y => y ≠ x → L a y) (fun _ => 0)) (hR : G.R q = t :: s) (ht : t < A.cs.length) (h1 : 1 ≤ q)
    (hp : ∀ p : Nat, G.up x = p → p ≠ x ∧ hom p = q ∧ FF A.cs.length (offG q x G) hom L (fun c => if c = p then 0 + 1 else 0) ∧ FR A.cs.length (offG q x G) hom Mx none ∧ (offG q x G).R q = t :: x :: s)
    (hf : ∀ y, y < A.cs.length → hom y = q → y ≠ t → Mx t y) :
    Calls Try.prog 165 #[.pointer (some ⟨B.n0, 0, none⟩), .int .i64 (q : Int), .int .i64 (x : Int)] w fun e w' => e = .returned (.tuple #[]) ∧ FbM w' B F gt ct A st (looseG A.cs.length q x G) ∧ Upd [B.bn, B.bp, B.bl] w w' := by
  have hc1 := M.cells.ok.c1
  have q2 := M.h2
  have p0 := M.p0 hx
  have hxI : (x : Int) < (A.cs.length : Int) := by omega
  by_cases e : G.up x = -1
  · have eg : looseG A.cs.length q x G = G := by unfold looseG; rw [if_pos e]
    rw [eg]
    rw [e] at p0
    have HM := Lib.hid M
    clear M H0 hR hp hf e eg
    go_enter Try.func165, Try.ntmps165
    go_wp2
    go_end0
    exact ⟨rfl, HM.out, Upd.refl _ _⟩
  · obtain ⟨p, hpn, ux, hxk⟩ := (H0.upK x hx).resolve_left e
    obtain ⟨hpx, hph, o1, o2, o3⟩ := hp p ux
    have eg : looseG A.cs.length q x G = casG (marks A.cs.length (offG q x G) + 1) q p (offG q x G) := by unfold looseG; rw [ux, if_neg (by omega), Int.toNat_natCast]
    rw [eg]
    rw [ux] at p0
    have hne : ((p : Int) == -1) = false := by simp
    have hrk := H0.ring p hpn
    obtain ⟨a, b, eK, eA, xa, xb⟩ := aft_eq hxk hrk.nd
    have hka : (G.K p).length = (aft (G.K p) x).length + 1 := by rw [eA, eK]; simp; omega
    have hkb : (G.K p).length ≤ 65536 := Nat.le_trans (H0.klen hpn) hc1
    have hxa : x ∉ aft (G.K p) x := by rw [eA]; simp; exact ⟨xb, xa⟩
    have hnx : G.nx x = (aft (G.K p) x).headD x := by
      rw [eK] at hrk
      have := Ring.rot (a := a) (b := x :: b) hrk
      rw [eA]; exact (ring_cons.1 this).2.1
    have ko := fun W (hW : Upd [] w W) => foff_any (M.upd0 hW) hq hx hpn ux hR ht hka hkb hnx hxa
    have o1' : FF A.cs.length (offG q x G) hom L (fun c => if c = p then 1 else 0) := by simpa using o1
    have kc := fun W (hM : FbM W B F gt ct A st (offG q x G)) => fcascade_any irr hM hq o1' o2 o3 hpn hph h1 hf
    have HM := Lib.hid (And.intro M kc)
    clear M H0 hR hp hf e eg kc o1 o1' o2 o3 eK eA hka hkb hxa hnx ux hrk
    go_enter Try.func165, Try.ntmps165
    go_wp2_with (first
      | ((go_at_call 166; (with_reducible refine (ko _ (by (repeat (first | assumption | exact Upd.refl _ _ | refine Upd.alloc ?_ _ | refine Upd.drew ?_ | refine Upd.drewN ?_ _ | refine Upd.setCell ?_ ?_ _ | focus (left; simp; done) | focus (right; simp; done) | focus (right; simp; omega))))).mono ?_)); rintro e w2 ⟨rfl, hM2, hu2⟩; (have kc2 := HM.out.2 _ hM2); (have HU := Lib.hid hu2); clear hM2 hu2 ko)
      | ((go_at_call 167; (with_reducible refine (kc2).mono ?_)); rintro e w3 ⟨rfl, hM3, hu3⟩)
      | fail)
    go_end0
    exact ⟨rfl, hM3, HU.out.trans hu3⟩
end
end Go.Proofs.Ytighgbdijagolaa
