/-
  What is done to a nest of whatever kind, and to the document's. Conditions: those of each lemma.
-/
import Derived.Test.YtighgbdijagolaaGk
set_option linter.unusedVariables false
set_option linter.unusedSimpArgs false
namespace Go.Proofs.Ytighgbdijagolaa
open Go Go.RowKit

section
variable {K : NestK} {w : World} {p : Nat} {F X : List Nat} {A : NS} {st : Nat} {g : K.G} {v : Value}
set_option maxHeartbeats 4000000 in
set_option maxRecDepth 10000 in
theorem do_6 (h : K.at_ w p F A st g) (hr : RefAt w (X ++ F) v A) (hX : ∀ x, x ∈ X → x < w.heap.size) (a : AC) (ha : a.Ok) (hk : a.kind = 6) :
    Calls Try.prog 25 #[.iface K.ty (.pointer (some ⟨p, 0, none⟩)), v, a.v] w fun e w' => ∃ v', e = .returned (.tuple #[v', .bool true]) ∧ DoEnd K w w' p X F A st g a v' := by
  obtain ⟨kd, hh, x, k, s⟩ := a
  dsimp only at hk
  subst hk
  have ok := K.ok h
  have hF := K.lt h
  have hXF : ∀ x, x ∈ X ++ F → x < w.heap.size := fun x hx => by rcases List.mem_append.1 hx with hx | hx; exact hX x hx; exact hF x hx
  obtain ⟨gh, oh, ch, gc, oc, cc, rfl, hR⟩ := hr
  unfold AC.v refV
  have hlt := hR.lt
  have km := fun W (hW : Upd [] w W) (hs : w.heap.size + 1 + 1 < W.heap.size) => ref_open (rjoin_any (⟨gh, oh, ch, gc, oc, cc, rfl, (hR.upd0 hW).add (b := w.heap.size + 1 + 1) (by omega) (by omega)⟩ : RefAt W ((w.heap.size + 1 + 1) :: (X ++ F)) (refV gh oh ch gc oc cc A) A) ok (fun y hy => by
    rcases List.mem_cons.1 hy with rfl | hy
    · exact hs
    · exact Nat.lt_of_lt_of_le (hXF y hy) hW.size) hh x)
  unfold refV at km
  dsimp only at *
  have HDO : Hid (doN A ⟨6, hh, x, k, s⟩ = joinN A hh x) := rfl
  unfold DoEnd
  rw [HDO.out]
  clear HDO
  go_enter Try.func25, Try.ntmps25
  go_wp2_with (first
    | ((go_at_call 55; (with_reducible refine (km _ (by (repeat (first | assumption | exact Upd.refl _ _ | refine Upd.alloc ?_ _ | refine Upd.drew ?_ | refine Upd.drewN ?_ _ | refine Upd.setCell ?_ ?_ _ | focus (left; simp; done) | focus (right; simp; done) | focus (right; simp; omega)))) (by simp)).mono ?_); rintro e w1 ⟨gh1, oh1, ch1, gc1, oc1, cc1, rfl, hR1, hu1⟩); (have z0 : w1.cell? ⟨w.heap.size + 1 + 1, 0, none⟩ = some (.slice none 0 0) := hu1.was (by go_simp)); (have z1 : w1.cell? ⟨w.heap.size + 1 + 1, 1, none⟩ = some (.slice none 0 0) := hu1.was (by go_simp)); (have zf0 : w1.frozen? ⟨w.heap.size + 1 + 1, 0, none⟩ = false := hu1.keptF (v := .slice none 0 0) (by go_simp) (by simp) (by go_simp)); (have zf1 : w1.frozen? ⟨w.heap.size + 1 + 1, 1, none⟩ = false := hu1.keptF (v := .slice none 0 0) (by go_simp) (by simp) (by go_simp)); (have t1 : w1.cell? ⟨w.heap.size + 1, 1, none⟩ = some (.int .i64 hh) := hu1.was (by go_simp)); (have t2 : w1.cell? ⟨w.heap.size + 1, 2, none⟩ = some (.int .i64 x) := hu1.was (by go_simp)); (have t3 : w1.cell? ⟨w.heap.size + 1, 3, none⟩ = some (.int .i64 k) := hu1.was (by go_simp)); (have t4 : w1.cell? ⟨w.heap.size + 1, 4, none⟩ = some (.int .u64 s) := hu1.was (by go_simp)); (have hw1 : Upd [] w w1 := Upd.trans (by (repeat (first | assumption | exact Upd.refl _ _ | refine Upd.alloc ?_ _ | refine Upd.drew ?_ | refine Upd.drewN ?_ _ | refine Upd.setCell ?_ ?_ _ | focus (left; simp; done) | focus (right; simp; done) | focus (right; simp; omega)))) hu1))
    | fail)
  obtain ⟨wB, hwB⟩ : ∃ wB, wB = w1.alloc (.cells #[Value.slice (some ⟨gh1, oh1, none⟩) (joinN A hh x).hs.length ch1, Value.slice (some ⟨gc1, oc1, none⟩) (joinN A hh x).cs.length cc1] 53) := ⟨_, rfl⟩
  have huB : Upd [] w1 wB := by rw [hwB]; (repeat (first | assumption | exact Upd.refl _ _ | refine Upd.alloc ?_ _ | refine Upd.drew ?_ | refine Upd.drewN ?_ _ | refine Upd.setCell ?_ ?_ _ | focus (left; simp; done) | focus (right; simp; done) | focus (right; simp; omega)))
  have n0 : wB.cell? ⟨w1.heap.size, 0, none⟩ = some (.slice (some ⟨gh1, oh1, none⟩) (joinN A hh x).hs.length ch1) := by rw [hwB]; simp
  have n1 : wB.cell? ⟨w1.heap.size, 1, none⟩ = some (.slice (some ⟨gc1, oc1, none⟩) (joinN A hh x).cs.length cc1) := by rw [hwB]; simp
  rw [← hwB]
  clear hwB km
  have hsz := hw1.size
  have hb1 : w.heap.size + 1 + 1 < wB.drew.heap.size := by have := hu1.size; have := huB.size; simp at *; omega
  have hsz3 : w.heap.size + 3 ≤ w1.heap.size := by have := hu1.size; simp at this; omega
  have hsF : w1.heap.size ∉ F := fun hm => by have := hF _ hm; omega
  have hsF2 : w.heap.size + 1 + 1 ∉ F := fun hm => by have := hF _ hm; omega
  have hne : w1.heap.size ≠ w.heap.size + 1 + 1 := by omega
  have hAt := K.upd h (hw1.trans huB) (by simp)
  obtain ⟨f, fv, hen, hfv⟩ := K.meld ⟨6, hh, x, k, s⟩ ha rfl hAt
  unfold Enters at hen
  have hm := (hfv wB.drew ((Upd.refl _ _).drew)).1
  have hc := (hfv wB.drew ((Upd.refl _ _).drew)).2
  have s1 := huB.was t1
  have s2 := huB.was t2
  have s3 := huB.was t3
  have s4 := huB.was t4
  have y0 := huB.was z0
  have y1 := huB.was z1
  have yf0 := huB.keptF z0 (by simp) zf0
  have yf1 := huB.keptF z1 (by simp) zf1
  clear hfv z0 z1 zf0 zf1 t1 t2 t3 t4
  go_region_law
    (first
      | (go_simp; (with_reducible refine (hc).mono ?_); rintro e w5 ⟨rfl, F5, hA5, hu5, hF5⟩; (have m0 := hu5.kept n0 hsF); (have m1 := hu5.kept n1 hsF); (have k0 := hu5.kept y0 hsF2); (have k1 := hu5.kept y1 hsF2); (have kf0 := hu5.keptF y0 hsF2 yf0); (have kf1 := hu5.keptF y1 hsF2 yf1)))
  all_goals
    go_wp2
    exact bodyPost_ret (v := .tuple #[.agg #[.slice (some ⟨gh1, oh1, none⟩) (joinN A hh x).hs.length ch1, .slice (some ⟨gc1, oc1, none⟩) (joinN A hh x).cs.length cc1], .bool true]) (by simp [results, Try.results25, go_sem, k0, k1]) rfl
      ⟨_, rfl, do_fin _ _ hXF (by omega) hb1 (hw1.trans (huB.trans ((Upd.refl _ _).drew))) (hR1.upd0 (huB.trans ((Upd.refl _ _).drew))) hA5 hu5 hF5⟩
end
end Go.Proofs.Ytighgbdijagolaa
