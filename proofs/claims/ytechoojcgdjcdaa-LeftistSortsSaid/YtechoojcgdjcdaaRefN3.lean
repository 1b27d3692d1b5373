/-
  The document's nest (haycockref05): Put, Drop, Lower. Conditions: those of each lemma.
-/
import Derived.Test.YtechoojcgdjcdaaRefN2
set_option linter.unusedVariables false
set_option linter.unusedSimpArgs false
namespace Go.Proofs.Ytechoojcgdjcdaa
open Go Go.RowKit

theorem RefM.add {w : World} {F : List Nat} {gh oh ch gc oc cc : Nat} {A : NS} (h : RefM w F gh oh ch gc oc cc A) {b : Nat} (h1 : gh ≠ b) (h2 : gc ≠ b) : RefM w (b :: F) gh oh ch gc oc cc A :=
  ⟨h.hcap, h.ccap, h.lt, ⟨fun m => by rcases List.mem_cons.1 m with e | e; exact h1 e; exact h.far.1 e, fun m => by rcases List.mem_cons.1 m with e | e; exact h2 e; exact h.far.2 e⟩, h.h, h.c0, h.c1, h.c2⟩
theorem RefM.less {w : World} {F G : List Nat} {gh oh ch gc oc cc : Nat} {A : NS} (h : RefM w F gh oh ch gc oc cc A) (hG : ∀ x, x ∈ G → x ∈ F) : RefM w G gh oh ch gc oc cc A :=
  ⟨h.hcap, h.ccap, h.lt, ⟨fun m => h.far.1 (hG _ m), fun m => h.far.2 (hG _ m)⟩, h.h, h.c0, h.c1, h.c2⟩
/-- It is stored into the result's own block. -/
theorem RefM.stored {w : World} {F : List Nat} {gh oh ch gc oc cc b : Nat} {A : NS} (h : RefM w (b :: F) gh oh ch gc oc cc A) (v0 v1 : Value) : RefM ((w.setCell ⟨b, 0, none⟩ v0).setCell ⟨b, 1, none⟩ v1) F gh oh ch gc oc cc A :=
  (h.upd (((Upd.refl (b :: F) w).setCell (Or.inl (by simp)) _).setCell (Or.inl (by simp)) _)).less (fun x hx => List.mem_cons_of_mem _ hx)
section
variable {w : World} {F : List Nat} {v : Value} {A : NS}
set_option maxHeartbeats 2000000 in
theorem rput_any (h : RefAt w F v A) (ok : A.Ok) (hF : ∀ x, x ∈ F → x < w.heap.size) (hh x k s : Int) :
    Calls Try.prog 49 #[v, .int .i64 hh, .int .i64 x, .agg #[.int .i64 k, .int .u64 s]] w fun e w' => ∃ v', e = .returned (.tuple #[v', .bool (putB A hh x)]) ∧ RefAt w' F v' (putN A hh x k s) ∧ Upd [] w w' := by
  obtain ⟨gh, oh, ch, gc, oc, cc, rfl, h⟩ := h
  have k1 := fun W (hW : Upd [] w W) => rhasN_any ⟨gh, oh, ch, gc, oc, cc, rfl, h.upd0 hW⟩ ok hh
  have k2 := fun W (hW : Upd [] w W) => rinN_any ⟨gh, oh, ch, gc, oc, cc, rfl, h.upd0 hW⟩ ok x
  have hlc := h.lt
  have k3 := fun W (hW : Upd [] w W) (hs : w.heap.size + 1 + 1 < W.heap.size) (i : Nat) (hi : i < A.cs.length) => rwith_any (F := (w.heap.size + 1 + 1) :: F) ⟨gh, oh, ch, gc, oc, cc, rfl, (h.upd0 hW).add (by omega) (by omega)⟩ ok (fun y hy => by rcases List.mem_cons.1 hy with rfl | hy; exact hs; exact Nat.lt_of_lt_of_le (hF y hy) hW.size) i hi ⟨hh, k, s⟩
  have h1 := h.hcap
  have h2 := h.ccap
  have h3 := ok.h1
  have h4 := ok.c1
  have H := Lib.hid h
  have FIN : Hid (putB A hh x = false → ∀ W, Upd [] w W → RefAt W F (refV gh oh ch gc oc cc A) (putN A hh x k s)) := fun hp W hW => by
    unfold putN; rw [if_neg (by rw [hp]; simp)]; exact ⟨gh, oh, ch, gc, oc, cc, rfl, H.out.upd0 hW⟩
  unfold refV at *
  generalize hn : A.cs.length = n at *
  generalize hm : A.hs.length = m at *
  have R : Hid (∀ W, Upd [] (((w.alloc (.cells #[.slice (some ⟨gh, oh, none⟩) m ch, .slice (some ⟨gc, oc, none⟩) n cc] 55)).alloc (.cells #[.int .i64 k, .int .u64 s] 59)).alloc (.cells #[.slice none 0 0, .slice none 0 0] 55)) W →
      W.cell? ⟨w.heap.size, 0, none⟩ = some (.slice (some ⟨gh, oh, none⟩) m ch) ∧ W.cell? ⟨w.heap.size, 1, none⟩ = some (.slice (some ⟨gc, oc, none⟩) n cc) ∧ W.cell? ⟨w.heap.size + 1, 0, none⟩ = some (.int .i64 k) ∧ W.cell? ⟨w.heap.size + 1, 1, none⟩ = some (.int .u64 s) ∧
      W.cell? ⟨w.heap.size + 1 + 1, 0, none⟩ = some (.slice none 0 0) ∧ W.cell? ⟨w.heap.size + 1 + 1, 1, none⟩ = some (.slice none 0 0) ∧ W.frozen? ⟨w.heap.size + 1 + 1, 0, none⟩ = false ∧ W.frozen? ⟨w.heap.size + 1 + 1, 1, none⟩ = false) := fun W h =>
    ⟨h.was (by go_simp), h.was (by go_simp), h.was (by go_simp), h.was (by go_simp), h.was (by go_simp), h.was (by go_simp), h.keptF (v := .slice none 0 0) (by go_simp) (by simp) (by go_simp), h.keptF (v := .slice none 0 0) (by go_simp) (by simp) (by go_simp)⟩
  have HN := Lib.hid (And.intro hn hm)
  by_cases hp : putB A hh x = true
  · have hq := (putB_iff _ _ _).1 hp
    have hx := (slotN_iff _ _).1 hq.2.1
    obtain ⟨i, rfl⟩ : ∃ i : Nat, x = i := ⟨x.toNat, by omega⟩
    have k4 := fun W hW hs => k3 W hW hs i (by omega)
    have e : putN A hh (i : Int) k s = withN A i ⟨hh, k, s⟩ := by unfold putN; rw [if_pos hp]; simp
    rw [hp, e]
    rw [hq.1] at k1
    rw [hq.2.2] at k2
    have hi : i < n := by omega
    clear h ok k3 FIN hp hq e hn hm hx
    go_enter Try.func49, Try.ntmps49
    go_wp2_with (first
      | ((go_at_call 67; (with_reducible refine (k1 _ (by (repeat (first | assumption | exact Upd.refl _ _ | refine Upd.alloc ?_ _ | refine Upd.drew ?_ | refine Upd.drewN ?_ _ | refine Upd.setCell ?_ ?_ _ | focus (left; simp; done) | focus (right; simp; done) | focus (right; simp; omega))))).mono ?_)); rintro e w1 ⟨rfl, hu1⟩; (have v1 : Upd [] w w1 := Upd.trans (by (repeat (first | assumption | exact Upd.refl _ _ | refine Upd.alloc ?_ _ | refine Upd.drew ?_ | refine Upd.drewN ?_ _ | refine Upd.setCell ?_ ?_ _ | focus (left; simp; done) | focus (right; simp; done) | focus (right; simp; omega)))) hu1); obtain ⟨q0, q1, q2, q3, q4, q5, q6, q7⟩ := R.out w1 hu1)
      | ((go_at_call 31; (with_reducible refine (k2 _ (by (repeat (first | assumption | exact Upd.refl _ _ | refine Upd.drew ?_ | refine Upd.alloc ?_ _ | (apply Upd.trans; rotate_left; assumption))))).mono ?_)); rintro e w2 ⟨rfl, hu2⟩; (have v2 : Upd [] w w2 := Upd.trans v1 hu2); obtain ⟨p0, p1, p2, p3, p4, p5, p6, p7⟩ := R.out w2 (hu1.trans hu2))
      | ((go_at_call 68; (with_reducible refine (k4 _ (by (repeat (first | assumption | exact Upd.refl _ _ | refine Upd.drew ?_ | refine Upd.alloc ?_ _ | (apply Upd.trans; rotate_left; assumption)))) (by have := hu1.size; have := hu2.size; simp at *; omega)).mono ?_)); rintro e w3 ⟨gh', oh', ch', gc', oc', cc', rfl, hM, hu3⟩; obtain ⟨r0, r1, r2, r3, r4, r5, r6, r7⟩ := R.out w3 ((hu1.trans hu2).trans hu3)))
    exact bodyPost_ret (v := .tuple #[.agg #[.slice (some ⟨gh', oh', none⟩) (withN A i ⟨hh, k, s⟩).hs.length ch', .slice (some ⟨gc', oc', none⟩) (withN A i ⟨hh, k, s⟩).cs.length cc'], .bool true]) (by simp [results, Try.results49, go_sem, r4, r5]) rfl
      ⟨_, rfl, ⟨gh', oh', ch', gc', oc', cc', rfl, hM.stored _ _⟩, Upd.setCell (Upd.setCell (Upd.trans (Upd.trans (Upd.trans (by (repeat (first | assumption | exact Upd.refl _ _ | refine Upd.alloc ?_ _ | refine Upd.drew ?_ | refine Upd.drewN ?_ _ | refine Upd.setCell ?_ ?_ _ | focus (left; simp; done) | focus (right; simp; done) | focus (right; simp; omega)))) hu1) hu2) hu3) (Or.inr (by simp; omega)) _) (Or.inr (by simp; omega)) _⟩
  · have hp' : putB A hh x = false := by simpa using hp
    rw [hp']
    have FI := Lib.hid (FIN.out hp')
    have hk : hasN A hh = false ∨ (hasN A hh = true ∧ (x < 0 ∨ n ≤ x)) ∨ (hasN A hh = true ∧ 0 ≤ x ∧ x < n ∧ inN A x = true) := by
      unfold putB slotN at hp'
      rw [hn] at hp'
      cases e1 : hasN A hh
      · exact Or.inl rfl
      · rw [e1] at hp'
        by_cases h0 : 0 ≤ x
        · by_cases h1 : x < n
          · refine Or.inr (Or.inr ⟨rfl, h0, h1, ?_⟩)
            simpa [h0, h1] using hp'
          · exact Or.inr (Or.inl ⟨rfl, Or.inr (by omega)⟩)
        · exact Or.inr (Or.inl ⟨rfl, Or.inl (by omega)⟩)
    clear h ok k3 FIN hp hp' hn hm
    rcases hk with e1 | ⟨e1, hx⟩ | ⟨e1, hx1, hx2, e2⟩
    · rw [e1] at k1
      clear e1 k2
      go_enter Try.func49, Try.ntmps49
      go_wp2_with (((go_at_call 67; (with_reducible refine (k1 _ (by (repeat (first | assumption | exact Upd.refl _ _ | refine Upd.alloc ?_ _ | refine Upd.drew ?_ | refine Upd.drewN ?_ _ | refine Upd.setCell ?_ ?_ _ | focus (left; simp; done) | focus (right; simp; done) | focus (right; simp; omega))))).mono ?_)); rintro e w1 ⟨rfl, hu1⟩; (have v1 : Upd [] w w1 := Upd.trans (by (repeat (first | assumption | exact Upd.refl _ _ | refine Upd.alloc ?_ _ | refine Upd.drew ?_ | refine Upd.drewN ?_ _ | refine Upd.setCell ?_ ?_ _ | focus (left; simp; done) | focus (right; simp; done) | focus (right; simp; omega)))) hu1); obtain ⟨q0, q1, q2, q3, q4, q5, q6, q7⟩ := R.out w1 hu1))
      exact bodyPost_ret (v := .tuple #[.agg #[.slice (some ⟨gh, oh, none⟩) m ch, .slice (some ⟨gc, oc, none⟩) n cc], .bool false]) (by simp [results, Try.results49, go_sem, q4, q5]) rfl
        ⟨_, rfl, FI.out _ (by (repeat (first | assumption | exact Upd.refl _ _ | refine Upd.alloc ?_ _ | refine Upd.drew ?_ | refine Upd.drewN ?_ _ | refine Upd.setCell ?_ ?_ _ | focus (left; simp; done) | focus (right; simp; done) | focus (right; simp; omega)))), by (repeat (first | assumption | exact Upd.refl _ _ | refine Upd.alloc ?_ _ | refine Upd.drew ?_ | refine Upd.drewN ?_ _ | refine Upd.setCell ?_ ?_ _ | focus (left; simp; done) | focus (right; simp; done) | focus (right; simp; omega)))⟩
    · rw [e1] at k1
      clear e1 k2
      rcases hx with hx | hx
      all_goals
        go_enter Try.func49, Try.ntmps49
        go_wp2_with (((go_at_call 67; (with_reducible refine (k1 _ (by (repeat (first | assumption | exact Upd.refl _ _ | refine Upd.alloc ?_ _ | refine Upd.drew ?_ | refine Upd.drewN ?_ _ | refine Upd.setCell ?_ ?_ _ | focus (left; simp; done) | focus (right; simp; done) | focus (right; simp; omega))))).mono ?_)); rintro e w1 ⟨rfl, hu1⟩; (have v1 : Upd [] w w1 := Upd.trans (by (repeat (first | assumption | exact Upd.refl _ _ | refine Upd.alloc ?_ _ | refine Upd.drew ?_ | refine Upd.drewN ?_ _ | refine Upd.setCell ?_ ?_ _ | focus (left; simp; done) | focus (right; simp; done) | focus (right; simp; omega)))) hu1); obtain ⟨q0, q1, q2, q3, q4, q5, q6, q7⟩ := R.out w1 hu1))
        exact bodyPost_ret (v := .tuple #[.agg #[.slice (some ⟨gh, oh, none⟩) m ch, .slice (some ⟨gc, oc, none⟩) n cc], .bool false]) (by simp [results, Try.results49, go_sem, q4, q5]) rfl
          ⟨_, rfl, FI.out _ (by (repeat (first | assumption | exact Upd.refl _ _ | refine Upd.alloc ?_ _ | refine Upd.drew ?_ | refine Upd.drewN ?_ _ | refine Upd.setCell ?_ ?_ _ | focus (left; simp; done) | focus (right; simp; done) | focus (right; simp; omega)))), by (repeat (first | assumption | exact Upd.refl _ _ | refine Upd.alloc ?_ _ | refine Upd.drew ?_ | refine Upd.drewN ?_ _ | refine Upd.setCell ?_ ?_ _ | focus (left; simp; done) | focus (right; simp; done) | focus (right; simp; omega)))⟩
    · rw [e1] at k1
      rw [e2] at k2
      clear e1 e2
      go_enter Try.func49, Try.ntmps49
      go_wp2_with (first
        | ((go_at_call 67; (with_reducible refine (k1 _ (by (repeat (first | assumption | exact Upd.refl _ _ | refine Upd.alloc ?_ _ | refine Upd.drew ?_ | refine Upd.drewN ?_ _ | refine Upd.setCell ?_ ?_ _ | focus (left; simp; done) | focus (right; simp; done) | focus (right; simp; omega))))).mono ?_)); rintro e w1 ⟨rfl, hu1⟩; (have v1 : Upd [] w w1 := Upd.trans (by (repeat (first | assumption | exact Upd.refl _ _ | refine Upd.alloc ?_ _ | refine Upd.drew ?_ | refine Upd.drewN ?_ _ | refine Upd.setCell ?_ ?_ _ | focus (left; simp; done) | focus (right; simp; done) | focus (right; simp; omega)))) hu1); obtain ⟨q0, q1, q2, q3, q4, q5, q6, q7⟩ := R.out w1 hu1)
        | ((go_at_call 31; (with_reducible refine (k2 _ (by (repeat (first | assumption | exact Upd.refl _ _ | refine Upd.drew ?_ | refine Upd.alloc ?_ _ | (apply Upd.trans; rotate_left; assumption))))).mono ?_)); rintro e w2 ⟨rfl, hu2⟩; (have v2 : Upd [] w w2 := Upd.trans v1 hu2); obtain ⟨p0, p1, p2, p3, p4, p5, p6, p7⟩ := R.out w2 (hu1.trans hu2)))
      exact bodyPost_ret (v := .tuple #[.agg #[.slice (some ⟨gh, oh, none⟩) m ch, .slice (some ⟨gc, oc, none⟩) n cc], .bool false]) (by simp [results, Try.results49, go_sem, p4, p5]) rfl
        ⟨_, rfl, FI.out _ (by (repeat (first | assumption | exact Upd.refl _ _ | refine Upd.alloc ?_ _ | refine Upd.drew ?_ | refine Upd.drewN ?_ _ | refine Upd.setCell ?_ ?_ _ | focus (left; simp; done) | focus (right; simp; done) | focus (right; simp; omega)))), by (repeat (first | assumption | exact Upd.refl _ _ | refine Upd.alloc ?_ _ | refine Upd.drew ?_ | refine Upd.drewN ?_ _ | refine Upd.setCell ?_ ?_ _ | focus (left; simp; done) | focus (right; simp; done) | focus (right; simp; omega)))⟩
end
end Go.Proofs.Ytechoojcgdjcdaa
