/-
  What is done to a nest of whatever kind, and to the document's. Conditions: those of each lemma.
-/
import Derived.Test.YtighgbdijagolaaNest
set_option linter.unusedVariables false
set_option linter.unusedSimpArgs false
namespace Go.Proofs.Ytighgbdijagolaa
open Go Go.RowKit

theorem ref_open {f : FuncId} {args : Array Value} {W : World} {F : List Nat} {A' : NS} {b : Value} (h : Calls Try.prog f args W fun e w' => ∃ v', e = .returned (.tuple #[v', b]) ∧ RefAt w' F v' A' ∧ Upd [] W w') :
    Calls Try.prog f args W fun e w' => ∃ gh oh ch gc oc cc, e = .returned (.tuple #[.agg #[.slice (some ⟨gh, oh, none⟩) A'.hs.length ch, .slice (some ⟨gc, oc, none⟩) A'.cs.length cc], b]) ∧ RefM w' F gh oh ch gc oc cc A' ∧ Upd [] W w' := by
  refine h.mono ?_
  rintro e w' ⟨v', rfl, ⟨gh, oh, ch, gc, oc, cc, rfl, hR⟩, hu⟩
  exact ⟨gh, oh, ch, gc, oc, cc, rfl, hR, hu⟩
section
variable {K : NestK} {w : World} {p : Nat} {F X : List Nat} {A : NS} {st : Nat} {g : K.G} {v : Value}
/-- What is behind something done. -/
def DoEnd (K : NestK) (w w' : World) (p : Nat) (X F : List Nat) (A : NS) (st : Nat) (g : K.G) (a : AC) (v' : Value) : Prop :=
  Goes F w w' (fun F' => K.at_ w' p F' (doN A a) (satS st (K.cost A a g)) (K.next A a g) ∧ RefAt w' (X ++ F') v' (doN A a))
theorem do_fin {w1 w5 : World} {F5 : List Nat} {gh oh ch gc oc cc st' : Nat} {A' : NS} {g' : K.G} {b : Nat} (v0 v1 : Value) (hF : ∀ x, x ∈ X ++ F → x < w.heap.size) (hb : w.heap.size ≤ b) (hb1 : b < w1.heap.size) (hu1 : Upd [] w w1)
    (hR : RefM w1 (b :: (X ++ F)) gh oh ch gc oc cc A') (hA5 : K.at_ w5 p F5 A' st' g') (hu5 : Upd F w1 w5) (hF5 : ∀ x, x ∈ F5 → x ∈ F ∨ w1.heap.size ≤ x) :
    Goes F w ((w5.setCell ⟨b, 0, none⟩ v0).setCell ⟨b, 1, none⟩ v1) (fun F' => K.at_ ((w5.setCell ⟨b, 0, none⟩ v0).setCell ⟨b, 1, none⟩ v1) p F' A' st' g' ∧ RefAt ((w5.setCell ⟨b, 0, none⟩ v0).setCell ⟨b, 1, none⟩ v1) (X ++ F') (.agg #[.slice (some ⟨gh, oh, none⟩) A'.hs.length ch, .slice (some ⟨gc, oc, none⟩) A'.cs.length cc]) A') := by
  have hbF : b ∉ F := fun hm => by have := hF b (by simp [hm]); omega
  have hbF5 : b ∉ F5 := fun hm => by rcases hF5 b hm with h | h; exact hbF h; omega
  have hs : Upd [b] w5 ((w5.setCell ⟨b, 0, none⟩ v0).setCell ⟨b, 1, none⟩ v1) := ((Upd.refl _ _).setCell (Or.inl (by simp)) _).setCell (Or.inl (by simp)) _
  have hR5 : RefM w5 (b :: (X ++ F5)) gh oh ch gc oc cc A' := hR.fresh (hu5.mono (fun x hx => by simp [hx])) (fun x hx => by
    rcases List.mem_cons.1 hx with rfl | hx
    · exact Or.inl (by simp)
    · rcases List.mem_append.1 hx with hx | hx
      · exact Or.inl (by simp [hx])
      · rcases hF5 x hx with h | h
        · exact Or.inl (by simp [h])
        · exact Or.inr h)
  refine ⟨F5, ⟨K.upd hA5 hs (fun x hx => by simp at hx; subst hx; exact hbF5), gh, oh, ch, gc, oc, cc, rfl, hR5.stored v0 v1⟩, ?_, fun x hx => ?_⟩
  · exact (hu1.mono (by simp)).joined ((hu5.mono (T := b :: F) (fun x hx => List.mem_cons_of_mem _ hx)).trans (hs.mono (by simp))) (fun x hx => by
      rcases List.mem_cons.1 hx with rfl | hx
      · exact Or.inr hb
      · exact Or.inl hx)
  · rcases hF5 x hx with h | h
    · exact Or.inl h
    · exact Or.inr (Nat.le_trans hu1.size h)
set_option maxHeartbeats 4000000 in
set_option maxRecDepth 10000 in
theorem do_0 (h : K.at_ w p F A st g) (hr : RefAt w (X ++ F) v A) (hX : ∀ x, x ∈ X → x < w.heap.size) (a : AC) (ha : a.Ok) (hk : a.kind = 0) :
    Calls Try.prog 25 #[.iface K.ty (.pointer (some ⟨p, 0, none⟩)), v, a.v] w fun e w' => ∃ v', e = .returned (.tuple #[v', .bool true]) ∧ DoEnd K w w' p X F A st g a v' := by
  obtain ⟨kd, hh, x, k, s⟩ := a
  dsimp only at hk
  subst hk
  have ok := K.ok h
  have hF := K.lt h
  have hXF : ∀ x, x ∈ X ++ F → x < w.heap.size := fun x hx => by rcases List.mem_append.1 hx with hx | hx; exact hX x hx; exact hF x hx
  obtain ⟨gh, oh, ch, gc, oc, cc, rfl, hR⟩ := hr
  unfold AC.v refV
  have hlt := hR.lt
  have km := fun W (hW : Upd [] w W) (hs : w.heap.size + 1 + 1 < W.heap.size) => ref_open (rmake_any (⟨gh, oh, ch, gc, oc, cc, rfl, (hR.upd0 hW).add (b := w.heap.size + 1 + 1) (by omega) (by omega)⟩ : RefAt W ((w.heap.size + 1 + 1) :: (X ++ F)) (refV gh oh ch gc oc cc A) A) ok (fun y hy => by
    rcases List.mem_cons.1 hy with rfl | hy
    · exact hs
    · exact Nat.lt_of_lt_of_le (hXF y hy) hW.size) )
  unfold refV at km
  dsimp only at *
  have HDO : Hid (doN A ⟨0, hh, x, k, s⟩ = makeN A) := rfl
  unfold DoEnd
  rw [HDO.out]
  clear HDO
  go_enter Try.func25, Try.ntmps25
  go_wp2_with (first
    | ((go_at_call 50; (with_reducible refine (km _ (by (repeat (first | assumption | exact Upd.refl _ _ | refine Upd.alloc ?_ _ | refine Upd.drew ?_ | refine Upd.drewN ?_ _ | refine Upd.setCell ?_ ?_ _ | focus (left; simp; done) | focus (right; simp; done) | focus (right; simp; omega)))) (by simp)).mono ?_); rintro e w1 ⟨gh1, oh1, ch1, gc1, oc1, cc1, rfl, hR1, hu1⟩); (have z0 : w1.cell? ⟨w.heap.size + 1 + 1, 0, none⟩ = some (.slice none 0 0) := hu1.was (by go_simp)); (have z1 : w1.cell? ⟨w.heap.size + 1 + 1, 1, none⟩ = some (.slice none 0 0) := hu1.was (by go_simp)); (have zf0 : w1.frozen? ⟨w.heap.size + 1 + 1, 0, none⟩ = false := hu1.keptF (v := .slice none 0 0) (by go_simp) (by simp) (by go_simp)); (have zf1 : w1.frozen? ⟨w.heap.size + 1 + 1, 1, none⟩ = false := hu1.keptF (v := .slice none 0 0) (by go_simp) (by simp) (by go_simp)); (have t1 : w1.cell? ⟨w.heap.size + 1, 1, none⟩ = some (.int .i64 hh) := hu1.was (by go_simp)); (have t2 : w1.cell? ⟨w.heap.size + 1, 2, none⟩ = some (.int .i64 x) := hu1.was (by go_simp)); (have t3 : w1.cell? ⟨w.heap.size + 1, 3, none⟩ = some (.int .i64 k) := hu1.was (by go_simp)); (have t4 : w1.cell? ⟨w.heap.size + 1, 4, none⟩ = some (.int .u64 s) := hu1.was (by go_simp)); (have hw1 : Upd [] w w1 := Upd.trans (by (repeat (first | assumption | exact Upd.refl _ _ | refine Upd.alloc ?_ _ | refine Upd.drew ?_ | refine Upd.drewN ?_ _ | refine Upd.setCell ?_ ?_ _ | focus (left; simp; done) | focus (right; simp; done) | focus (right; simp; omega)))) hu1))
    | fail)
  obtain ⟨wB, hwB⟩ : ∃ wB, wB = w1.alloc (.cells #[Value.slice (some ⟨gh1, oh1, none⟩) (makeN A).hs.length ch1, Value.slice (some ⟨gc1, oc1, none⟩) (makeN A).cs.length cc1] 53) := ⟨_, rfl⟩
  have huB : Upd [] w1 wB := by rw [hwB]; (repeat (first | assumption | exact Upd.refl _ _ | refine Upd.alloc ?_ _ | refine Upd.drew ?_ | refine Upd.drewN ?_ _ | refine Upd.setCell ?_ ?_ _ | focus (left; simp; done) | focus (right; simp; done) | focus (right; simp; omega)))
  have n0 : wB.cell? ⟨w1.heap.size, 0, none⟩ = some (.slice (some ⟨gh1, oh1, none⟩) (makeN A).hs.length ch1) := by rw [hwB]; simp
  have n1 : wB.cell? ⟨w1.heap.size, 1, none⟩ = some (.slice (some ⟨gc1, oc1, none⟩) (makeN A).cs.length cc1) := by rw [hwB]; simp
  rw [← hwB]
  clear hwB km
  have hsz := hw1.size
  have hb1 : w.heap.size + 1 + 1 < wB.drew.heap.size := by have := hu1.size; have := huB.size; simp at *; omega
  have hsz3 : w.heap.size + 3 ≤ w1.heap.size := by have := hu1.size; simp at this; omega
  have hsF : w1.heap.size ∉ F := fun hm => by have := hF _ hm; omega
  have hsF2 : w.heap.size + 1 + 1 ∉ F := fun hm => by have := hF _ hm; omega
  have hne : w1.heap.size ≠ w.heap.size + 1 + 1 := by omega
  have hAt := K.upd h (hw1.trans huB) (by simp)
  obtain ⟨f, fv, hen, hfv⟩ := K.make hh x k s hAt
  unfold Enters at hen
  have hm := (hfv wB.drew ((Upd.refl _ _).drew)).1
  have hc := (hfv wB.drew ((Upd.refl _ _).drew)).2
  have s1 := huB.was t1
  have s2 := huB.was t2
  have s3 := huB.was t3
  have s4 := huB.was t4
  have y0 := huB.was z0
  have y1 := huB.was z1
  have yf0 := huB.keptF z0 (by simp) zf0
  have yf1 := huB.keptF z1 (by simp) zf1
  clear hfv z0 z1 zf0 zf1 t1 t2 t3 t4
  go_region_law
    (first
      | (go_simp; (with_reducible refine (hc).mono ?_); rintro e w5 ⟨rfl, F5, hA5, hu5, hF5⟩; (have m0 := hu5.kept n0 hsF); (have m1 := hu5.kept n1 hsF); (have k0 := hu5.kept y0 hsF2); (have k1 := hu5.kept y1 hsF2); (have kf0 := hu5.keptF y0 hsF2 yf0); (have kf1 := hu5.keptF y1 hsF2 yf1)))
  all_goals
    go_wp2
    exact bodyPost_ret (v := .tuple #[.agg #[.slice (some ⟨gh1, oh1, none⟩) (makeN A).hs.length ch1, .slice (some ⟨gc1, oc1, none⟩) (makeN A).cs.length cc1], .bool true]) (by simp [results, Try.results25, go_sem, k0, k1]) rfl
      ⟨_, rfl, do_fin _ _ hXF (by omega) hb1 (hw1.trans (huB.trans ((Upd.refl _ _).drew))) (hR1.upd0 (huB.trans ((Upd.refl _ _).drew))) hA5 hu5 hF5⟩
end
end Go.Proofs.Ytighgbdijagolaa

set_option linter.unusedVariables false
set_option linter.unusedSimpArgs false
namespace Go.Proofs.Ytighgbdijagolaa
open Go Go.RowKit

section
variable {K : NestK} {w : World} {p : Nat} {F X : List Nat} {A : NS} {st : Nat} {g : K.G} {v : Value}
theorem do_fin2 {w6 : World} {F5 : List Nat} {gh oh ch gc oc cc st' : Nat} {A' : NS} {g' : K.G} {b c : Nat} (u0 u1 v0 v1 : Value) (hb : w.heap.size ≤ b) (hc : w.heap.size ≤ c) (hbF : b ∉ F5) (hcF : c ∉ F5)
    (hR : RefM w6 (c :: b :: (X ++ F5)) gh oh ch gc oc cc A') (hA : K.at_ w6 p F5 A' st' g') (hu : Upd F w w6) (hF5 : ∀ x, x ∈ F5 → x ∈ F ∨ w.heap.size ≤ x) :
    Goes F w ((((w6.setCell ⟨c, 0, none⟩ u0).setCell ⟨c, 1, none⟩ u1).setCell ⟨b, 0, none⟩ v0).setCell ⟨b, 1, none⟩ v1) (fun F' => K.at_ ((((w6.setCell ⟨c, 0, none⟩ u0).setCell ⟨c, 1, none⟩ u1).setCell ⟨b, 0, none⟩ v0).setCell ⟨b, 1, none⟩ v1) p F' A' st' g' ∧ RefAt ((((w6.setCell ⟨c, 0, none⟩ u0).setCell ⟨c, 1, none⟩ u1).setCell ⟨b, 0, none⟩ v0).setCell ⟨b, 1, none⟩ v1) (X ++ F') (.agg #[.slice (some ⟨gh, oh, none⟩) A'.hs.length ch, .slice (some ⟨gc, oc, none⟩) A'.cs.length cc]) A') := by
  have hs : Upd [c, b] w6 ((((w6.setCell ⟨c, 0, none⟩ u0).setCell ⟨c, 1, none⟩ u1).setCell ⟨b, 0, none⟩ v0).setCell ⟨b, 1, none⟩ v1) := ((((Upd.refl _ _).setCell (Or.inl (by simp)) _).setCell (Or.inl (by simp)) _).setCell (Or.inl (by simp)) _).setCell (Or.inl (by simp)) _
  refine ⟨F5, ⟨K.upd hA hs (fun x hx => by simp at hx; rcases hx with rfl | rfl; exact hcF; exact hbF), gh, oh, ch, gc, oc, cc, rfl, (hR.stored u0 u1).stored v0 v1⟩, hu.joined hs (fun x hx => by simp at hx; rcases hx with rfl | rfl; exact Or.inr hc; exact Or.inr hb), hF5⟩
set_option maxHeartbeats 4000000 in
set_option maxRecDepth 10000 in
theorem do_2 (h : K.at_ w p F A st g) (hr : RefAt w (X ++ F) v A) (hX : ∀ x, x ∈ X → x < w.heap.size) (a : AC) (ha : a.Ok) (hk : a.kind = 2) :
    Calls Try.prog 25 #[.iface K.ty (.pointer (some ⟨p, 0, none⟩)), v, a.v] w fun e w' => ∃ v', e = .returned (.tuple #[v', .bool true]) ∧ DoEnd K w w' p X F A st g a v' := by
  obtain ⟨kd, hh, x, k, s⟩ := a
  dsimp only at hk
  subst hk
  have ok := K.ok h
  have hF := K.lt h
  have hXF : ∀ x, x ∈ X ++ F → x < w.heap.size := fun x hx => by rcases List.mem_append.1 hx with hx | hx; exact hX x hx; exact hF x hx
  obtain ⟨gh, oh, ch, gc, oc, cc, rfl, hR⟩ := hr
  unfold AC.v refV
  have hlt := hR.lt
  have km := fun W (hW : Upd [] w W) => rmin_any (⟨gh, oh, ch, gc, oc, cc, rfl, hR.upd0 hW⟩ : RefAt W (X ++ F) (refV gh oh ch gc oc cc A) A) ok hh
  unfold refV at km
  dsimp only at *
  have HDO : Hid (doN A ⟨2, hh, x, k, s⟩ = A) := rfl
  unfold DoEnd
  rw [HDO.out]
  clear HDO
  have hF0 : w.heap.size ∉ F := fun hm => by have := hF _ hm; omega
  have hF2 : w.heap.size + 1 + 1 ∉ F := fun hm => by have := hF _ hm; omega
  go_enter Try.func25, Try.ntmps25
  go_wp2_with (first
    | ((go_at_call 52; (with_reducible refine (km _ (by (repeat (first | assumption | exact Upd.refl _ _ | refine Upd.alloc ?_ _ | refine Upd.drew ?_ | refine Upd.drewN ?_ _ | refine Upd.setCell ?_ ?_ _ | focus (left; simp; done) | focus (right; simp; done) | focus (right; simp; omega))))).mono ?_); rintro e w1 ⟨rfl, hu1⟩); (have z0 : w1.cell? ⟨w.heap.size + 1 + 1, 0, none⟩ = some (.slice none 0 0) := hu1.was (by go_simp)); (have z1 : w1.cell? ⟨w.heap.size + 1 + 1, 1, none⟩ = some (.slice none 0 0) := hu1.was (by go_simp)); (have zf0 : w1.frozen? ⟨w.heap.size + 1 + 1, 0, none⟩ = false := hu1.keptF (v := .slice none 0 0) (by go_simp) (by simp) (by go_simp)); (have zf1 : w1.frozen? ⟨w.heap.size + 1 + 1, 1, none⟩ = false := hu1.keptF (v := .slice none 0 0) (by go_simp) (by simp) (by go_simp)); (have v0 : w1.cell? ⟨w.heap.size, 0, none⟩ = some (.slice (some ⟨gh, oh, none⟩) A.hs.length ch) := hu1.was (by go_simp)); (have v1 : w1.cell? ⟨w.heap.size, 1, none⟩ = some (.slice (some ⟨gc, oc, none⟩) A.cs.length cc) := hu1.was (by go_simp)); (have vf0 : w1.frozen? ⟨w.heap.size, 0, none⟩ = false := hu1.keptF (v := .slice (some ⟨gh, oh, none⟩) A.hs.length ch) (by go_simp) (by simp) (by go_simp)); (have vf1 : w1.frozen? ⟨w.heap.size, 1, none⟩ = false := hu1.keptF (v := .slice (some ⟨gc, oc, none⟩) A.cs.length cc) (by go_simp) (by simp) (by go_simp)); (have t0 : w1.cell? ⟨w.heap.size + 1, 0, none⟩ = some (.int .i64 2) := hu1.was (by go_simp)); (have t1 : w1.cell? ⟨w.heap.size + 1, 1, none⟩ = some (.int .i64 hh) := hu1.was (by go_simp)); (have hsz1 : w.heap.size + 3 ≤ w1.heap.size := (by have := hu1.size; simp at this; omega)); (have hw1 : Upd [] w w1 := Upd.trans (by (repeat (first | assumption | exact Upd.refl _ _ | refine Upd.alloc ?_ _ | refine Upd.drew ?_ | refine Upd.drewN ?_ _ | refine Upd.setCell ?_ ?_ _ | focus (left; simp; done) | focus (right; simp; done) | focus (right; simp; omega)))) hu1); obtain ⟨f, fv, hen, hm, hc⟩ := (K.min ⟨2, hh, x, k, s⟩ ha rfl (K.upd h hw1 (by simp))).now; (unfold Enters at hen))
    | ((with_reducible refine (hc).mono ?_); rintro e w5 ⟨rfl, F5, hA5, hu5, hF5⟩; (have m0 := hu5.kept v0 hF0); (have m1 := hu5.kept v1 hF0); (have k0 := hu5.kept z0 hF2); (have k1 := hu5.kept z1 hF2); (have kf0 := hu5.keptF z0 hF2 zf0); (have kf1 := hu5.keptF z1 hF2 zf1))
    | fail)
  exact bodyPost_ret (v := .tuple #[.agg #[.slice (some ⟨gh, oh, none⟩) A.hs.length ch, .slice (some ⟨gc, oc, none⟩) A.cs.length cc], .bool true]) (by simp [results, Try.results25, go_sem, k0, k1]) rfl
    ⟨_, rfl, do_fin _ _ hXF (by omega) (by omega) hw1 ((hR.upd0 hw1).add (by omega) (by omega)) hA5 hu5 hF5⟩
set_option maxHeartbeats 4000000 in
set_option maxRecDepth 10000 in
theorem do_3 (h : K.at_ w p F A st g) (hr : RefAt w (X ++ F) v A) (hX : ∀ x, x ∈ X → x < w.heap.size) (a : AC) (ha : a.Ok) (hk : a.kind = 3) :
    Calls Try.prog 25 #[.iface K.ty (.pointer (some ⟨p, 0, none⟩)), v, a.v] w fun e w' => ∃ v', e = .returned (.tuple #[v', .bool true]) ∧ DoEnd K w w' p X F A st g a v' := by
  obtain ⟨kd, hh, x, k, s⟩ := a
  dsimp only at hk
  subst hk
  have ok := K.ok h
  have hF := K.lt h
  have hXF : ∀ x, x ∈ X ++ F → x < w.heap.size := fun x hx => by rcases List.mem_append.1 hx with hx | hx; exact hX x hx; exact hF x hx
  obtain ⟨gh, oh, ch, gc, oc, cc, rfl, hR⟩ := hr
  unfold AC.v refV
  have hlt := hR.lt
  have km := fun W (hW : Upd [] w W) => rmin_any (⟨gh, oh, ch, gc, oc, cc, rfl, hR.upd0 hW⟩ : RefAt W (X ++ F) (refV gh oh ch gc oc cc A) A) ok hh
  unfold refV at km
  dsimp only at *
  have HDO : Hid (doN A ⟨3, hh, x, k, s⟩ = extN A hh) := rfl
  unfold DoEnd
  rw [HDO.out]
  clear HDO
  have hF0 : w.heap.size ∉ F := fun hm => by have := hF _ hm; omega
  have hF2 : w.heap.size + 1 + 1 ∉ F := fun hm => by have := hF _ hm; omega
  have hEX : extN A hh = match minN A hh with | some m => dropN A m | none => A := rfl
  cases hmn : minN A hh with
  | none =>
    rw [hmn] at hEX
    dsimp only at hEX
    rw [hEX]
    rw [hmn] at km
    go_enter Try.func25, Try.ntmps25
    go_wp2_with (first
      | ((go_at_call 52; (with_reducible refine (km _ (by (repeat (first | assumption | exact Upd.refl _ _ | refine Upd.alloc ?_ _ | refine Upd.drew ?_ | refine Upd.drewN ?_ _ | refine Upd.setCell ?_ ?_ _ | focus (left; simp; done) | focus (right; simp; done) | focus (right; simp; omega))))).mono ?_); rintro e w1 ⟨rfl, hu1⟩); (have z0 : w1.cell? ⟨w.heap.size + 1 + 1, 0, none⟩ = some (.slice none 0 0) := hu1.was (by go_simp)); (have z1 : w1.cell? ⟨w.heap.size + 1 + 1, 1, none⟩ = some (.slice none 0 0) := hu1.was (by go_simp)); (have zf0 : w1.frozen? ⟨w.heap.size + 1 + 1, 0, none⟩ = false := hu1.keptF (v := .slice none 0 0) (by go_simp) (by simp) (by go_simp)); (have zf1 : w1.frozen? ⟨w.heap.size + 1 + 1, 1, none⟩ = false := hu1.keptF (v := .slice none 0 0) (by go_simp) (by simp) (by go_simp)); (have v0 : w1.cell? ⟨w.heap.size, 0, none⟩ = some (.slice (some ⟨gh, oh, none⟩) A.hs.length ch) := hu1.was (by go_simp)); (have v1 : w1.cell? ⟨w.heap.size, 1, none⟩ = some (.slice (some ⟨gc, oc, none⟩) A.cs.length cc) := hu1.was (by go_simp)); (have vf0 : w1.frozen? ⟨w.heap.size, 0, none⟩ = false := hu1.keptF (v := .slice (some ⟨gh, oh, none⟩) A.hs.length ch) (by go_simp) (by simp) (by go_simp)); (have vf1 : w1.frozen? ⟨w.heap.size, 1, none⟩ = false := hu1.keptF (v := .slice (some ⟨gc, oc, none⟩) A.cs.length cc) (by go_simp) (by simp) (by go_simp)); (have t0 : w1.cell? ⟨w.heap.size + 1, 0, none⟩ = some (.int .i64 3) := hu1.was (by go_simp)); (have t1 : w1.cell? ⟨w.heap.size + 1, 1, none⟩ = some (.int .i64 hh) := hu1.was (by go_simp)); (have hsz1 : w.heap.size + 3 ≤ w1.heap.size := (by have := hu1.size; simp at this; omega)); (have hw1 : Upd [] w w1 := Upd.trans (by (repeat (first | assumption | exact Upd.refl _ _ | refine Upd.alloc ?_ _ | refine Upd.drew ?_ | refine Upd.drewN ?_ _ | refine Upd.setCell ?_ ?_ _ | focus (left; simp; done) | focus (right; simp; done) | focus (right; simp; omega)))) hu1); obtain ⟨f, fv, hen, hm, hc⟩ := (K.extract ⟨3, hh, x, k, s⟩ ha rfl (K.upd h hw1 (by simp))).now; (unfold Enters at hen); rw [hmn, hEX] at hc)
      | ((with_reducible refine (hc).mono ?_); rintro e w5 ⟨rfl, F5, hA5, hu5, hF5⟩; (have m0 := hu5.kept v0 hF0); (have m1 := hu5.kept v1 hF0); (have k0 := hu5.kept z0 hF2); (have k1 := hu5.kept z1 hF2); (have kf0 := hu5.keptF z0 hF2 zf0); (have kf1 := hu5.keptF z1 hF2 zf1))
      | fail)
    exact bodyPost_ret (v := .tuple #[.agg #[.slice (some ⟨gh, oh, none⟩) A.hs.length ch, .slice (some ⟨gc, oc, none⟩) A.cs.length cc], .bool true]) (by simp [results, Try.results25, go_sem, k0, k1]) rfl
      ⟨_, rfl, do_fin _ _ hXF (by omega) (by omega) hw1 ((hR.upd0 hw1).add (by omega) (by omega)) hA5 hu5 hF5⟩
  | some m =>
    rw [hmn] at hEX
    dsimp only at hEX
    rw [hEX]
    rw [hmn, show slotV (some m) = (m : Int) from rfl] at km
    go_enter Try.func25, Try.ntmps25
    go_wp2_with (first
      | ((go_at_call 52; (with_reducible refine (km _ (by (repeat (first | assumption | exact Upd.refl _ _ | refine Upd.alloc ?_ _ | refine Upd.drew ?_ | refine Upd.drewN ?_ _ | refine Upd.setCell ?_ ?_ _ | focus (left; simp; done) | focus (right; simp; done) | focus (right; simp; omega))))).mono ?_); rintro e w1 ⟨rfl, hu1⟩); (have z0 : w1.cell? ⟨w.heap.size + 1 + 1, 0, none⟩ = some (.slice none 0 0) := hu1.was (by go_simp)); (have z1 : w1.cell? ⟨w.heap.size + 1 + 1, 1, none⟩ = some (.slice none 0 0) := hu1.was (by go_simp)); (have zf0 : w1.frozen? ⟨w.heap.size + 1 + 1, 0, none⟩ = false := hu1.keptF (v := .slice none 0 0) (by go_simp) (by simp) (by go_simp)); (have zf1 : w1.frozen? ⟨w.heap.size + 1 + 1, 1, none⟩ = false := hu1.keptF (v := .slice none 0 0) (by go_simp) (by simp) (by go_simp)); (have v0 : w1.cell? ⟨w.heap.size, 0, none⟩ = some (.slice (some ⟨gh, oh, none⟩) A.hs.length ch) := hu1.was (by go_simp)); (have v1 : w1.cell? ⟨w.heap.size, 1, none⟩ = some (.slice (some ⟨gc, oc, none⟩) A.cs.length cc) := hu1.was (by go_simp)); (have vf0 : w1.frozen? ⟨w.heap.size, 0, none⟩ = false := hu1.keptF (v := .slice (some ⟨gh, oh, none⟩) A.hs.length ch) (by go_simp) (by simp) (by go_simp)); (have vf1 : w1.frozen? ⟨w.heap.size, 1, none⟩ = false := hu1.keptF (v := .slice (some ⟨gc, oc, none⟩) A.cs.length cc) (by go_simp) (by simp) (by go_simp)); (have t0 : w1.cell? ⟨w.heap.size + 1, 0, none⟩ = some (.int .i64 3) := hu1.was (by go_simp)); (have t1 : w1.cell? ⟨w.heap.size + 1, 1, none⟩ = some (.int .i64 hh) := hu1.was (by go_simp)); (have hsz1 : w.heap.size + 3 ≤ w1.heap.size := (by have := hu1.size; simp at this; omega)); (have hw1 : Upd [] w w1 := Upd.trans (by (repeat (first | assumption | exact Upd.refl _ _ | refine Upd.alloc ?_ _ | refine Upd.drew ?_ | refine Upd.drewN ?_ _ | refine Upd.setCell ?_ ?_ _ | focus (left; simp; done) | focus (right; simp; done) | focus (right; simp; omega)))) hu1); obtain ⟨f, fv, hen, hm, hc⟩ := (K.extract ⟨3, hh, x, k, s⟩ ha rfl (K.upd h hw1 (by simp))).now; (unfold Enters at hen); rw [hmn, hEX, show slotV (some m) = (m : Int) from rfl] at hc; (have hRb := ((hR.upd0 hw1).add (b := w.heap.size + 1 + 1) (by omega) (by omega)).add (b := w.heap.size) (by omega) (by omega)))
      | ((with_reducible refine (hc).mono ?_); rintro e w5 ⟨rfl, F5, hA5, hu5, hF5⟩; (have m0 := hu5.kept v0 hF0); (have m1 := hu5.kept v1 hF0); (have mf0 := hu5.keptF v0 hF0 vf0); (have mf1 := hu5.keptF v1 hF0 vf1); (have k0 := hu5.kept z0 hF2); (have k1 := hu5.kept z1 hF2); (have kf0 := hu5.keptF z0 hF2 zf0); (have kf1 := hu5.keptF z1 hF2 zf1); (have hlt5 := K.lt hA5); (have hb5 : w.heap.size ∉ F5 ∧ w.heap.size + 1 + 1 ∉ F5 := ⟨fun hm' => (by rcases hF5 _ hm' with h' | h'; exact hF0 h'; omega), fun hm' => (by rcases hF5 _ hm' with h' | h'; exact hF2 h'; omega)⟩); (have kd := ref_open (rdrop_any (⟨gh, oh, ch, gc, oc, cc, rfl, hRb.fresh (F' := w.heap.size :: (w.heap.size + 1 + 1) :: (X ++ F5)) (hu5.mono (fun y hy => by simp [hy])) (fun y hy => by rcases List.mem_cons.1 hy with rfl | hy; exact Or.inl (by simp); rcases List.mem_cons.1 hy with rfl | hy; exact Or.inl (by simp); rcases List.mem_append.1 hy with hy | hy; exact Or.inl (by simp [hy]); rcases hF5 y hy with h' | h'; exact Or.inl (by simp [h']); exact Or.inr h')⟩ : RefAt w5 (w.heap.size :: (w.heap.size + 1 + 1) :: (X ++ F5)) (refV gh oh ch gc oc cc A) A) ok (fun y hy => by (have := hu5.size); rcases List.mem_cons.1 hy with rfl | hy; omega; rcases List.mem_cons.1 hy with rfl | hy; omega; rcases List.mem_append.1 hy with hy | hy; (have := hX y hy); (have := hw1.size); omega; exact hlt5 y hy) (m : Int))); (unfold refV at kd))
      | ((go_at_call 53; (with_reducible refine (kd).mono ?_); rintro e w6 ⟨gh1, oh1, ch1, gc1, oc1, cc1, rfl, hR1, hu6⟩); (have o0 := hu6.was m0); (have o1 := hu6.was m1); (have of0 := hu6.keptF m0 (by simp) mf0); (have of1 := hu6.keptF m1 (by simp) mf1); (have p0 := hu6.was k0); (have p1 := hu6.was k1); (have pf0 := hu6.keptF k0 (by simp) kf0); (have pf1 := hu6.keptF k1 (by simp) kf1))
      | fail)
    exact bodyPost_ret (v := .tuple #[.agg #[.slice (some ⟨gh1, oh1, none⟩) (dropN A m).hs.length ch1, .slice (some ⟨gc1, oc1, none⟩) (dropN A m).cs.length cc1], .bool true]) (by simp [results, Try.results25, go_sem, p0, p1, o0, o1]) rfl
      ⟨_, rfl, do_fin2 _ _ _ _ (by omega) (Nat.le_refl _) hb5.2 hb5.1 hR1 (K.upd hA5 hu6 (by simp)) (((hw1.mono (by simp)).trans hu5).trans (hu6.mono (by simp))) (fun y hy => by rcases hF5 y hy with h' | h'; exact Or.inl h'; exact Or.inr (by have := hw1.size; omega))⟩
set_option maxHeartbeats 4000000 in
set_option maxRecDepth 10000 in
theorem do_x (h : K.at_ w p F A st g) (hr : RefAt w (X ++ F) v A) (hX : ∀ x, x ∈ X → x < w.heap.size) (a : AC) (ha : a.Ok) (hk : a.kind ≠ 0 ∧ a.kind ≠ 1 ∧ a.kind ≠ 2 ∧ a.kind ≠ 3 ∧ a.kind ≠ 4 ∧ a.kind ≠ 5 ∧ a.kind ≠ 6) :
    Calls Try.prog 25 #[.iface K.ty (.pointer (some ⟨p, 0, none⟩)), v, a.v] w fun e w' => ∃ v', e = .returned (.tuple #[v', .bool true]) ∧ Goes F w w' (fun F' => K.at_ w' p F' A st g ∧ RefAt w' (X ++ F') v' A) := by
  obtain ⟨kd, hh, x, k, s⟩ := a
  dsimp only at hk
  have hF := K.lt h
  have hXF : ∀ x, x ∈ X ++ F → x < w.heap.size := fun x hx => by rcases List.mem_append.1 hx with hx | hx; exact hX x hx; exact hF x hx
  obtain ⟨gh, oh, ch, gc, oc, cc, rfl, hR⟩ := hr
  unfold AC.v refV
  have hlt := hR.lt
  dsimp only at *
  obtain ⟨h0, h1, h2, h3, h4, h5, h6⟩ := hk
  have b0 : (kd == 0) = false := by simpa using h0
  have b1 : (kd == 1) = false := by simpa using h1
  have b2 : (kd == 2) = false := by simpa using h2
  have b3 : (kd == 3) = false := by simpa using h3
  have b4 : (kd == 4) = false := by simpa using h4
  have b5 : (kd == 5) = false := by simpa using h5
  have b6 : (kd == 6) = false := by simpa using h6
  clear h0 h1 h2 h3 h4 h5 h6
  go_enter Try.func25, Try.ntmps25
  go_wp2
  refine bodyPost_ret (v := .tuple #[.agg #[.slice (some ⟨gh, oh, none⟩) A.hs.length ch, .slice (some ⟨gc, oc, none⟩) A.cs.length cc], .bool true]) (by simp [results, Try.results25, go_sem]) rfl
    ⟨_, rfl, ?_⟩
  have u : Upd [] w _ := ((((Upd.refl [] w).alloc (.cells #[Value.slice (some ⟨gh, oh, none⟩) A.hs.length ch, Value.slice (some ⟨gc, oc, none⟩) A.cs.length cc] 53)).alloc (.cells #[Value.int .i64 kd, .int .i64 hh, .int .i64 x, .int .i64 k, .int .u64 s] 59)).alloc (.cells #[Value.slice (some ⟨gh, oh, none⟩) A.hs.length ch, Value.slice (some ⟨gc, oc, none⟩) A.cs.length cc] 53))
  exact ⟨F, ⟨K.upd h u (by simp), gh, oh, ch, gc, oc, cc, rfl, hR.upd0 u⟩, u.mono (by simp), fun y hy => Or.inl hy⟩
end
end Go.Proofs.Ytighgbdijagolaa
