/-
  The document's nest (haycockref05): Drop, Lower. Conditions: those of each lemma.
-/
import Derived.Test.YtighgbdijagolaaGr
set_option linter.unusedVariables false
set_option linter.unusedSimpArgs false
namespace Go.Proofs.Ytighgbdijagolaa
open Go Go.RowKit

section
variable {w : World} {F : List Nat} {v : Value} {A : NS}
set_option maxHeartbeats 2000000 in
theorem rdrop_any (h : RefAt w F v A) (ok : A.Ok) (hF : ∀ x, x ∈ F → x < w.heap.size) (x : Int) :
    Calls Try.prog 53 #[v, .int .i64 x] w fun e w' => ∃ v', e = .returned (.tuple #[v', .bool (inN A x)]) ∧ RefAt w' F v' (dropN A x) ∧ Upd [] w w' := by
  obtain ⟨gh, oh, ch, gc, oc, cc, rfl, h⟩ := h
  have k2 := fun W (hW : Upd [] w W) => rinN_any ⟨gh, oh, ch, gc, oc, cc, rfl, h.upd0 hW⟩ ok x
  have hlc := h.lt
  have k3 := fun W (hW : Upd [] w W) (hs : w.heap.size + 1 < W.heap.size) (i : Nat) (hi : i < A.cs.length) => rwith_any (F := (w.heap.size + 1) :: F) ⟨gh, oh, ch, gc, oc, cc, rfl, (h.upd0 hW).add (by omega) (by omega)⟩ ok (fun y hy => by rcases List.mem_cons.1 hy with rfl | hy; exact hs; exact Nat.lt_of_lt_of_le (hF y hy) hW.size) i hi ⟨0, 0, 0⟩
  have h1 := h.hcap
  have h2 := h.ccap
  have h3 := ok.h1
  have h4 := ok.c1
  have H := Lib.hid h
  unfold refV at *
  generalize hn : A.cs.length = n at *
  generalize hm : A.hs.length = m at *
  have R : Hid (∀ W, Upd [] ((w.alloc (.cells #[.slice (some ⟨gh, oh, none⟩) m ch, .slice (some ⟨gc, oc, none⟩) n cc] 53)).alloc (.cells #[.slice none 0 0, .slice none 0 0] 53)) W →
      W.cell? ⟨w.heap.size, 0, none⟩ = some (.slice (some ⟨gh, oh, none⟩) m ch) ∧ W.cell? ⟨w.heap.size, 1, none⟩ = some (.slice (some ⟨gc, oc, none⟩) n cc) ∧
      W.cell? ⟨w.heap.size + 1, 0, none⟩ = some (.slice none 0 0) ∧ W.cell? ⟨w.heap.size + 1, 1, none⟩ = some (.slice none 0 0) ∧ W.frozen? ⟨w.heap.size + 1, 0, none⟩ = false ∧ W.frozen? ⟨w.heap.size + 1, 1, none⟩ = false) := fun W h =>
    ⟨h.was (by go_simp), h.was (by go_simp), h.was (by go_simp), h.was (by go_simp), h.keptF (v := .slice none 0 0) (by go_simp) (by simp) (by go_simp), h.keptF (v := .slice none 0 0) (by go_simp) (by simp) (by go_simp)⟩
  have HN := Lib.hid (And.intro hn hm)
  cases e2 : inN A x
  · rw [e2] at k2
    have e : dropN A x = A := by unfold dropN; rw [if_neg (by rw [e2]; simp)]
    rw [e]
    have FI : Hid (∀ W, Upd [] w W → RefAt W F (.agg #[.slice (some ⟨gh, oh, none⟩) m ch, .slice (some ⟨gc, oc, none⟩) n cc]) A) := fun W hW => ⟨gh, oh, ch, gc, oc, cc, by unfold refV; rw [hn, hm], H.out.upd0 hW⟩
    clear h ok k3 hn hm e2 e
    go_enter Try.func53, Try.ntmps53
    go_wp2_with (((go_at_call 35; (with_reducible refine (k2 _ (by (repeat (first | assumption | exact Upd.refl _ _ | refine Upd.alloc ?_ _ | refine Upd.drew ?_ | refine Upd.drewN ?_ _ | refine Upd.setCell ?_ ?_ _ | focus (left; simp; done) | focus (right; simp; done) | focus (right; simp; omega))))).mono ?_)); rintro e w1 ⟨rfl, hu1⟩; (have v1 : Upd [] w w1 := Upd.trans (by (repeat (first | assumption | exact Upd.refl _ _ | refine Upd.alloc ?_ _ | refine Upd.drew ?_ | refine Upd.drewN ?_ _ | refine Upd.setCell ?_ ?_ _ | focus (left; simp; done) | focus (right; simp; done) | focus (right; simp; omega)))) hu1); obtain ⟨q0, q1, q4, q5, q6, q7⟩ := R.out w1 hu1))
    exact bodyPost_ret (v := .tuple #[.agg #[.slice (some ⟨gh, oh, none⟩) m ch, .slice (some ⟨gc, oc, none⟩) n cc], .bool false]) (by simp [results, Try.results53, go_sem, q4, q5]) rfl
      ⟨_, rfl, FI.out _ (by (repeat (first | assumption | exact Upd.refl _ _ | refine Upd.alloc ?_ _ | refine Upd.drew ?_ | refine Upd.drewN ?_ _ | refine Upd.setCell ?_ ?_ _ | focus (left; simp; done) | focus (right; simp; done) | focus (right; simp; omega)))), by (repeat (first | assumption | exact Upd.refl _ _ | refine Upd.alloc ?_ _ | refine Upd.drew ?_ | refine Upd.drewN ?_ _ | refine Upd.setCell ?_ ?_ _ | focus (left; simp; done) | focus (right; simp; done) | focus (right; simp; omega)))⟩
  · have hx := (inN_iff _ _).1 e2
    obtain ⟨i, rfl⟩ : ∃ i : Nat, x = i := ⟨x.toNat, by omega⟩
    have k4 := fun W hW hs => k3 W hW hs i (by omega)
    have e : dropN A (i : Int) = withN A i ⟨0, 0, 0⟩ := by unfold dropN; rw [if_pos e2]; simp [Cl.z]
    rw [e]
    rw [e2] at k2
    clear h ok k3 hn hm e2 e hx
    go_enter Try.func53, Try.ntmps53
    go_wp2_with (first
      | ((go_at_call 35; (with_reducible refine (k2 _ (by (repeat (first | assumption | exact Upd.refl _ _ | refine Upd.alloc ?_ _ | refine Upd.drew ?_ | refine Upd.drewN ?_ _ | refine Upd.setCell ?_ ?_ _ | focus (left; simp; done) | focus (right; simp; done) | focus (right; simp; omega))))).mono ?_)); rintro e w1 ⟨rfl, hu1⟩; (have v1 : Upd [] w w1 := Upd.trans (by (repeat (first | assumption | exact Upd.refl _ _ | refine Upd.alloc ?_ _ | refine Upd.drew ?_ | refine Upd.drewN ?_ _ | refine Upd.setCell ?_ ?_ _ | focus (left; simp; done) | focus (right; simp; done) | focus (right; simp; omega)))) hu1); obtain ⟨q0, q1, q4, q5, q6, q7⟩ := R.out w1 hu1)
      | ((go_at_call 73; (with_reducible refine (k4 _ (by (repeat (first | assumption | exact Upd.refl _ _ | refine Upd.drew ?_ | refine Upd.alloc ?_ _ | (apply Upd.trans; rotate_left; assumption)))) (by have := hu1.size; simp at *; omega)).mono ?_)); rintro e w3 ⟨gh', oh', ch', gc', oc', cc', rfl, hM, hu3⟩; (have v3 : Upd [] w w3 := Upd.trans v1 hu3); obtain ⟨r0, r1, r4, r5, r6, r7⟩ := R.out w3 (hu1.trans hu3)))
    exact bodyPost_ret (v := .tuple #[.agg #[.slice (some ⟨gh', oh', none⟩) (withN A i ⟨0, 0, 0⟩).hs.length ch', .slice (some ⟨gc', oc', none⟩) (withN A i ⟨0, 0, 0⟩).cs.length cc'], .bool true]) (by simp [results, Try.results53, go_sem, r4, r5]) rfl
      ⟨_, rfl, ⟨gh', oh', ch', gc', oc', cc', rfl, hM.stored _ _⟩, by (repeat (first | assumption | exact Upd.refl _ _ | refine Upd.alloc ?_ _ | refine Upd.drew ?_ | refine Upd.drewN ?_ _ | refine Upd.setCell ?_ ?_ _ | focus (left; simp; done) | focus (right; simp; done) | focus (right; simp; omega)))⟩
set_option maxHeartbeats 4000000 in
theorem rlow_any (h : RefAt w F v A) (ok : A.Ok) (hF : ∀ x, x ∈ F → x < w.heap.size) (x k s : Int) :
    Calls Try.prog 54 #[v, .int .i64 x, .agg #[.int .i64 k, .int .u64 s]] w fun e w' => ∃ v', e = .returned (.tuple #[v', .bool (lowB A x k s)]) ∧ RefAt w' F v' (lowN A x k s) ∧ Upd [] w w' := by
  obtain ⟨gh, oh, ch, gc, oc, cc, rfl, h⟩ := h
  have k2 := fun W (hW : Upd [] w W) => rinN_any ⟨gh, oh, ch, gc, oc, cc, rfl, h.upd0 hW⟩ ok x
  have hlc := h.lt
  have k3 := fun W (hW : Upd [] w W) (hs : w.heap.size + 1 + 1 < W.heap.size) (i : Nat) (hi : i < A.cs.length) => rwith_any (F := (w.heap.size + 1 + 1) :: F) ⟨gh, oh, ch, gc, oc, cc, rfl, (h.upd0 hW).add (by omega) (by omega)⟩ ok (fun y hy => by rcases List.mem_cons.1 hy with rfl | hy; exact hs; exact Nat.lt_of_lt_of_le (hF y hy) hW.size) i hi ⟨(A.c i).i, k, s⟩
  have h1 := h.hcap
  have h2 := h.ccap
  have h3 := ok.h1
  have h4 := ok.c1
  have H := Lib.hid h
  unfold refV at *
  generalize hn : A.cs.length = n at *
  generalize hm : A.hs.length = m at *
  obtain ⟨BB, hBB⟩ : ∃ BB, BB = (((w.alloc (.cells #[.slice (some ⟨gh, oh, none⟩) m ch, .slice (some ⟨gc, oc, none⟩) n cc] 53)).alloc (.cells #[.int .i64 k, .int .u64 s] 57)).alloc (.cells #[.slice none 0 0, .slice none 0 0] 53)) := ⟨_, rfl⟩
  have R : Hid (∀ W, Upd [] (((w.alloc (.cells #[.slice (some ⟨gh, oh, none⟩) m ch, .slice (some ⟨gc, oc, none⟩) n cc] 53)).alloc (.cells #[.int .i64 k, .int .u64 s] 57)).alloc (.cells #[.slice none 0 0, .slice none 0 0] 53)) W →
      W.cell? ⟨w.heap.size, 0, none⟩ = some (.slice (some ⟨gh, oh, none⟩) m ch) ∧ W.cell? ⟨w.heap.size, 1, none⟩ = some (.slice (some ⟨gc, oc, none⟩) n cc) ∧ W.cell? ⟨w.heap.size + 1, 0, none⟩ = some (.int .i64 k) ∧ W.cell? ⟨w.heap.size + 1, 1, none⟩ = some (.int .u64 s) ∧
      W.cell? ⟨w.heap.size + 1 + 1, 0, none⟩ = some (.slice none 0 0) ∧ W.cell? ⟨w.heap.size + 1 + 1, 1, none⟩ = some (.slice none 0 0) ∧ W.frozen? ⟨w.heap.size + 1 + 1, 0, none⟩ = false ∧ W.frozen? ⟨w.heap.size + 1 + 1, 1, none⟩ = false) := fun W h =>
    ⟨h.was (by go_simp), h.was (by go_simp), h.was (by go_simp), h.was (by go_simp), h.was (by go_simp), h.was (by go_simp), h.keptF (v := .slice none 0 0) (by go_simp) (by simp) (by go_simp), h.keptF (v := .slice none 0 0) (by go_simp) (by simp) (by go_simp)⟩
  have HN := Lib.hid (And.intro hn hm)
  have h0B : Upd [] w BB := by rw [hBB]; (repeat (first | assumption | exact Upd.refl _ _ | refine Upd.alloc ?_ _ | refine Upd.drew ?_ | refine Upd.drewN ?_ _ | refine Upd.setCell ?_ ?_ _ | focus (left; simp; done) | focus (right; simp; done) | focus (right; simp; omega)))
  have hsB : w.heap.size + 3 ≤ BB.heap.size := by rw [hBB]; simp
  cases e2 : inN A x
  · rw [e2] at k2
    have e : lowB A x k s = false := by unfold lowB; rw [e2]; rfl
    have e' : lowN A x k s = A := by unfold lowN; rw [if_neg (by rw [e]; simp)]
    rw [e, e']
    have FI : Hid (∀ W, Upd [] w W → RefAt W F (.agg #[.slice (some ⟨gh, oh, none⟩) m ch, .slice (some ⟨gc, oc, none⟩) n cc]) A) := fun W hW => ⟨gh, oh, ch, gc, oc, cc, by unfold refV; rw [hn, hm], H.out.upd0 hW⟩
    clear h ok k3 hn hm e2 e e' hBB hsB h0B
    go_enter Try.func54, Try.ntmps54
    go_wp2
    first
      | (go_region_with ((go_at_call 35; (with_reducible refine (k2 _ (by (repeat (first | assumption | exact Upd.refl _ _ | refine Upd.alloc ?_ _ | refine Upd.drew ?_ | refine Upd.drewN ?_ _ | refine Upd.setCell ?_ ?_ _ | focus (left; simp; done) | focus (right; simp; done) | focus (right; simp; omega))))).mono ?_)); rintro e w1 ⟨rfl, hu1⟩; (have v0 : Upd [] (((w.alloc (.cells #[.slice (some ⟨gh, oh, none⟩) m ch, .slice (some ⟨gc, oc, none⟩) n cc] 53)).alloc (.cells #[.int .i64 k, .int .u64 s] 57)).alloc (.cells #[.slice none 0 0, .slice none 0 0] 53)) w1 := Upd.trans (by (repeat (first | assumption | exact Upd.refl _ _ | refine Upd.alloc ?_ _ | refine Upd.drew ?_ | refine Upd.drewN ?_ _ | refine Upd.setCell ?_ ?_ _ | focus (left; simp; done) | focus (right; simp; done) | focus (right; simp; omega)))) hu1); (have v1 : Upd [] w w1 := Upd.trans (by (repeat (first | assumption | exact Upd.refl _ _ | refine Upd.alloc ?_ _ | refine Upd.drew ?_ | refine Upd.drewN ?_ _ | refine Upd.setCell ?_ ?_ _ | focus (left; simp; done) | focus (right; simp; done) | focus (right; simp; omega)))) v0); obtain ⟨q0, q1, q2, q3, q4, q5, q6, q7⟩ := R.out w1 v0))
      | fail
    all_goals
      go_wp2
      exact bodyPost_ret (v := .tuple #[.agg #[.slice (some ⟨gh, oh, none⟩) m ch, .slice (some ⟨gc, oc, none⟩) n cc], .bool false]) (by simp [results, Try.results54, go_sem, q4, q5]) rfl
        ⟨_, rfl, FI.out _ (by (repeat (first | assumption | exact Upd.refl _ _ | refine Upd.alloc ?_ _ | refine Upd.drew ?_ | refine Upd.drewN ?_ _ | refine Upd.setCell ?_ ?_ _ | focus (left; simp; done) | focus (right; simp; done) | focus (right; simp; omega)))), by (repeat (first | assumption | exact Upd.refl _ _ | refine Upd.alloc ?_ _ | refine Upd.drew ?_ | refine Upd.drewN ?_ _ | refine Upd.setCell ?_ ?_ _ | focus (left; simp; done) | focus (right; simp; done) | focus (right; simp; omega)))⟩
  · have hx := (inN_iff _ _).1 e2
    obtain ⟨i, rfl⟩ : ∃ i : Nat, x = i := ⟨x.toNat, by omega⟩
    have hi : i < n := by omega
    have k4 := fun W hW hs => k3 W hW hs i hi
    have d0 := H.out.c0 i (by omega)
    have d1 := H.out.c1 i (by omega)
    have d2 := H.out.c2 i (by omega)
    have kl := fun W => rless_any (A.c i).k (A.c i).s k s W
    have el : lowB A (i : Int) k s = !lessE (A.c i).k (A.c i).s k s := by unfold lowB; rw [e2]; simp
    have r1 : ∀ W, Upd [] BB W → W.cell? ⟨w.heap.size, 1, none⟩ = some (.slice (some ⟨gc, oc, none⟩) n cc) := fun W hW => (R.out W (by rw [← hBB]; exact hW)).2.1
    have r0 : ∀ W, Upd [] BB W → W.cell? ⟨w.heap.size, 0, none⟩ = some (.slice (some ⟨gh, oh, none⟩) m ch) := fun W hW => (R.out W (by rw [← hBB]; exact hW)).1
    have r2 : ∀ W, Upd [] BB W → W.cell? ⟨w.heap.size + 1, 0, none⟩ = some (.int .i64 k) := fun W hW => (R.out W (by rw [← hBB]; exact hW)).2.2.1
    have r3 : ∀ W, Upd [] BB W → W.cell? ⟨w.heap.size + 1, 1, none⟩ = some (.int .u64 s) := fun W hW => (R.out W (by rw [← hBB]; exact hW)).2.2.2.1
    have r4 : ∀ W, Upd [] BB W → W.cell? ⟨gc, oc + i * 3, none⟩ = some (.int .i64 (A.c i).i) := fun W hW => (h0B.trans hW).was d0
    have r5 : ∀ W, Upd [] BB W → W.cell? ⟨gc, oc + i * 3 + 1, none⟩ = some (.int .i64 (A.c i).k) := fun W hW => (h0B.trans hW).was d1
    have r6 : ∀ W, Upd [] BB W → W.cell? ⟨gc, oc + i * 3 + 2, none⟩ = some (.int .u64 (A.c i).s) := fun W hW => (h0B.trans hW).was d2
    have k2' : ∀ W, Upd [] BB W → Calls Try.prog 35 #[.agg #[.slice (some ⟨gh, oh, none⟩) m ch, .slice (some ⟨gc, oc, none⟩) n cc], .int .i64 (i : Int)] W fun e w' => e = .returned (.bool (inN A i)) ∧ Upd [] W w' := fun W hW => k2 W (h0B.trans hW)
    rw [e2] at k2'
    have R8 : Hid (∀ W, Upd [] BB W → W.cell? ⟨w.heap.size + 1 + 1, 0, none⟩ = some (.slice none 0 0) ∧ W.cell? ⟨w.heap.size + 1 + 1, 1, none⟩ = some (.slice none 0 0) ∧ W.frozen? ⟨w.heap.size + 1 + 1, 0, none⟩ = false ∧ W.frozen? ⟨w.heap.size + 1 + 1, 1, none⟩ = false) := fun W hW => by
      obtain ⟨_, _, _, _, a, b, c, d⟩ := R.out W (by rw [← hBB]; exact hW)
      exact ⟨a, b, c, d⟩
    have FI : Hid (∀ W, Upd [] w W → RefAt W F (.agg #[.slice (some ⟨gh, oh, none⟩) m ch, .slice (some ⟨gc, oc, none⟩) n cc]) A) := fun W hW => ⟨gh, oh, ch, gc, oc, cc, by unfold refV; rw [hn, hm], H.out.upd0 hW⟩
    cases hl : lessE (A.c i).k (A.c i).s k s
    · have e' : lowN A (i : Int) k s = withN A i ⟨(A.c i).i, k, s⟩ := by unfold lowN; rw [if_pos (by rw [el, hl]; rfl)]; simp
      rw [el, hl, e']
      rw [hl] at kl
      generalize (A.c i).i = i0 at *
      generalize (A.c i).k = k0 at *
      generalize (A.c i).s = s0 at *
      have HBB := Lib.hid hBB
      clear h ok k3 hn hm e2 el hl e' hx d0 d1 d2 R FI k2 hBB
      go_enter Try.func54, Try.ntmps54
      go_wp2
      rw [← HBB.out]
      go_region_held3 (Upd [] BB) (repeat (first | assumption | exact Upd.refl _ _ | refine Upd.drew ?_ | refine Upd.alloc ?_ _ | (apply Upd.trans; rotate_left; assumption)))
        (first
          | (go_at_call 35; (with_reducible refine (k2' _ (by (repeat (first | assumption | exact Upd.refl _ _ | refine Upd.drew ?_ | refine Upd.alloc ?_ _ | (apply Upd.trans; rotate_left; assumption))))).mono ?_); rintro e w1 ⟨rfl, hu1⟩; (have v1 : Upd [] BB w1 := by (repeat (first | assumption | exact Upd.refl _ _ | refine Upd.drew ?_ | refine Upd.alloc ?_ _ | (apply Upd.trans; rotate_left; assumption)))))
          | (go_at_call 75; (with_reducible refine (kl _).mono ?_); rintro e w2 ⟨rfl, hu2⟩; (have v2 : Upd [] BB w2 := Upd.trans v1 hu2)))
      have z0 : ∀ W, Upd [w.heap.size + 1 + 1] BB W → W.cell? ⟨w.heap.size, 0, none⟩ = some (.slice (some ⟨gh, oh, none⟩) m ch) := fun W hW => hW.kept (r0 BB (Upd.refl _ _)) (by first | (simp; done) | (simp; omega))
      have z1 : ∀ W, Upd [w.heap.size + 1 + 1] BB W → W.cell? ⟨w.heap.size, 1, none⟩ = some (.slice (some ⟨gc, oc, none⟩) n cc) := fun W hW => hW.kept (r1 BB (Upd.refl _ _)) (by first | (simp; done) | (simp; omega))
      have z2 : ∀ W, Upd [w.heap.size + 1 + 1] BB W → W.cell? ⟨w.heap.size + 1, 0, none⟩ = some (.int .i64 k) := fun W hW => hW.kept (r2 BB (Upd.refl _ _)) (by first | (simp; done) | (simp; omega))
      have z3 : ∀ W, Upd [w.heap.size + 1 + 1] BB W → W.cell? ⟨w.heap.size + 1, 1, none⟩ = some (.int .u64 s) := fun W hW => hW.kept (r3 BB (Upd.refl _ _)) (by first | (simp; done) | (simp; omega))
      have z4 : ∀ W, Upd [w.heap.size + 1 + 1] BB W → W.cell? ⟨gc, oc + i * 3, none⟩ = some (.int .i64 i0) := fun W hW => hW.kept (r4 BB (Upd.refl _ _)) (by first | (simp; done) | (simp; omega))
      have hT : ∀ W, Upd [w.heap.size + 1 + 1] BB W → Upd [] w W := fun W hW => h0B.joined hW (fun y hy => Or.inr (by simp at hy; omega))
      have HT := Lib.hid hT
      have v5 : Upd [w.heap.size + 1 + 1] BB w2 := v2.mono (by simp)
      clear r0 r1 r2 r3 r4 r5 r6 k2' kl hT
      go_wp2
      go_region_held3 (Upd [w.heap.size + 1 + 1] BB) (repeat (first | assumption | exact Upd.refl _ _ | refine Upd.drew ?_ | refine Upd.alloc ?_ _ | refine Upd.setCell ?_ ?_ _ | focus (left; simp; done) | focus (right; simp; done) | focus (right; simp; omega) | (apply Upd.trans; rotate_left; assumption)))
        ((go_at_call 73; (with_reducible refine (k4 _ (HT.out _ (by (repeat (first | assumption | exact Upd.refl _ _ | refine Upd.drew ?_ | refine Upd.alloc ?_ _ | refine Upd.setCell ?_ ?_ _ | focus (left; simp; done) | focus (right; simp; done) | focus (right; simp; omega) | (apply Upd.trans; rotate_left; assumption))))) (by have h5 := v2.size; simp; omega)).mono ?_); rintro e w3 ⟨gh', oh', ch', gc', oc', cc', rfl, hM, hu3⟩; (have hu4 := hu3.mono (T := [w.heap.size + 1 + 1]) (by simp)); (have v3 : Upd [w.heap.size + 1 + 1] BB w3 := by (repeat (first | assumption | exact Upd.refl _ _ | refine Upd.drew ?_ | refine Upd.alloc ?_ _ | refine Upd.setCell ?_ ?_ _ | focus (left; simp; done) | focus (right; simp; done) | focus (right; simp; omega) | (apply Upd.trans; rotate_left; assumption)))); (have v6 : Upd [] BB w3 := by (refine Upd.trans ?_ hu3; (repeat (first | assumption | exact Upd.refl _ _ | refine Upd.drew ?_ | refine Upd.alloc ?_ _ | refine Upd.setCell ?_ ?_ _ | focus (left; simp; done) | focus (right; simp; done) | focus (right; simp; omega) | (apply Upd.trans; rotate_left; assumption))))); obtain ⟨p0, p1, p2, p3⟩ := R8.out w3 v6))
      go_wp2
      have hfin := Upd.trans h0B v6
      exact bodyPost_ret (v := .tuple #[.agg #[.slice (some ⟨gh', oh', none⟩) (withN A i ⟨i0, k, s⟩).hs.length ch', .slice (some ⟨gc', oc', none⟩) (withN A i ⟨i0, k, s⟩).cs.length cc'], .bool true]) (by simp [results, Try.results54, go_sem, p0, p1]) rfl
        ⟨_, rfl, ⟨gh', oh', ch', gc', oc', cc', rfl, hM.stored _ _⟩, by (repeat (first | assumption | exact Upd.refl _ _ | refine Upd.alloc ?_ _ | refine Upd.drew ?_ | refine Upd.drewN ?_ _ | refine Upd.setCell ?_ ?_ _ | focus (left; simp; done) | focus (right; simp; done) | focus (right; simp; omega)))⟩
    · have e' : lowN A (i : Int) k s = A := by unfold lowN; rw [if_neg (by rw [el, hl]; simp)]
      rw [el, hl, e']
      rw [hl] at kl
      generalize (A.c i).i = i0 at *
      generalize (A.c i).k = k0 at *
      generalize (A.c i).s = s0 at *
      have HBB := Lib.hid hBB
      clear h ok k3 k4 hn hm e2 el hl e' hx d0 d1 d2 R k2 hBB
      go_enter Try.func54, Try.ntmps54
      go_wp2
      rw [← HBB.out]
      go_region_held3 (Upd [] BB) (repeat (first | assumption | exact Upd.refl _ _ | refine Upd.drew ?_ | refine Upd.alloc ?_ _ | (apply Upd.trans; rotate_left; assumption)))
        (first
          | (go_at_call 35; (with_reducible refine (k2' _ (by (repeat (first | assumption | exact Upd.refl _ _ | refine Upd.drew ?_ | refine Upd.alloc ?_ _ | (apply Upd.trans; rotate_left; assumption))))).mono ?_); rintro e w1 ⟨rfl, hu1⟩; (have v1 : Upd [] BB w1 := by (repeat (first | assumption | exact Upd.refl _ _ | refine Upd.drew ?_ | refine Upd.alloc ?_ _ | (apply Upd.trans; rotate_left; assumption)))))
          | (go_at_call 75; (with_reducible refine (kl _).mono ?_); rintro e w2 ⟨rfl, hu2⟩; (have v2 : Upd [] BB w2 := Upd.trans v1 hu2)))
      have q0 := r0 w2 v2
      have q1 := r1 w2 v2
      obtain ⟨p0, p1, p2, p3⟩ := R8.out w2 v2
      have v3 : Upd [] w w2 := h0B.trans v2
      clear r0 r1 r2 r3 r4 r5 r6 k2' kl
      go_wp2
      exact bodyPost_ret (v := .tuple #[.agg #[.slice (some ⟨gh, oh, none⟩) m ch, .slice (some ⟨gc, oc, none⟩) n cc], .bool false]) (by simp [results, Try.results54, go_sem, p0, p1]) rfl
        ⟨_, rfl, FI.out _ (by (repeat (first | assumption | exact Upd.refl _ _ | refine Upd.alloc ?_ _ | refine Upd.drew ?_ | refine Upd.drewN ?_ _ | refine Upd.setCell ?_ ?_ _ | focus (left; simp; done) | focus (right; simp; done) | focus (right; simp; omega)))), by (repeat (first | assumption | exact Upd.refl _ _ | refine Upd.alloc ?_ _ | refine Upd.drew ?_ | refine Upd.drewN ?_ _ | refine Upd.setCell ?_ ?_ _ | focus (left; simp; done) | focus (right; simp; done) | focus (right; simp; omega)))⟩
end
end Go.Proofs.Ytighgbdijagolaa
