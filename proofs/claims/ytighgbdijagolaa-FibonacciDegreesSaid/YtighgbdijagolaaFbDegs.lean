/-
  The law FibonacciDegrees: its walk. Conditions: those of each lemma.
-/
import Derived.Test.YtighgbdijagolaaFbAlive
import Derived.Test.YtighgbdijagolaaFbZ
import Derived.Test.YtighgbdijagolaaHeld
import Derived.Deep.RegionHeldLaw
import Derived.Outline
set_option linter.unusedVariables false
set_option linter.unusedSimpArgs false
namespace Go.Proofs.Ytighgbdijagolaa
open Go Go.RowKit

/-- The children of a heap's first j slots together. -/
def dsumN (A : NS) (G : FG) (h : Nat) (j : Nat) : Nat := (((List.range j).filter (fun y => decide ((A.c y).i = h))).map (fun x => (G.K x).length)).sum
theorem dsum_succ (A : NS) (G : FG) (h j : Nat) : dsumN A G h (j + 1) = dsumN A G h j + if (A.c j).i = h then (G.K j).length else 0 := by
  unfold dsumN
  rw [List.range_succ, List.filter_append, List.map_append, List.sum_append]
  by_cases e : (A.c j).i = h
  · rw [List.filter_cons_of_pos (by simpa using e), if_pos e]; simp
  · rw [List.filter_cons_of_neg (by simpa using e), if_neg e]; simp
theorem dsum_mono (A : NS) (G : FG) (h : Nat) {i j : Nat} (hij : i ≤ j) : dsumN A G h i ≤ dsumN A G h j := by
  induction hij with
  | refl => exact Nat.le_refl _
  | step _ ih => rw [dsum_succ]; omega
theorem dsum_end {A : NS} {G : FG} (I : FbI A G) {h : Nat} (h1 : 1 ≤ h) : dsumN A G h A.cs.length + (G.R h).length = lenN A (h : Int) := deg_sum I h1
set_option maxHeartbeats 8000000 in
set_option maxRecDepth 10000 in
theorem fbdegrees_any (n : Int) (v : Value) (len : Nat) (f : Nat → AC) (w : World) (hn : (Lit.int .u8 n).wf = true) (h : ActsN w v len f) : Calls Try.prog 13 #[.int .u8 n, v] w fun e w' => e = .returned (.bool true) ∧ Upd [] w w' := by
  have hb : 0 ≤ n ∧ n < 256 := by simp [Lit.wf, IntKind.min, IntKind.max, IntKind.signed, IntKind.bits] at hn; omega
  clear hn
  obtain ⟨m, rfl⟩ : ∃ m : Nat, n = m := ⟨n.toNat, by omega⟩
  obtain ⟨k, hk, hk2⟩ : ∃ k : Nat, (m : Int) % 60 = k ∧ k < 60 := ⟨m % 60, by omega, by omega⟩
  have kn := fun W => fnewK_yes k W (by omega)
  have hl : len ≤ maxLen := by obtain ⟨a, cap, rfl, hl, _⟩ := h; exact hl
  have H := Lib.hid h
  obtain ⟨a, cap, hv⟩ : ∃ a cap, v = .slice a len cap := by obtain ⟨a, cap, rfl, _⟩ := h; exact ⟨a, cap, rfl⟩
  subst hv
  clear h
  unfold maxLen at hl
  by_cases hbig : len ≤ 90
  · have hb1 : ¬ (len : Int) > 90 := by omega
    have HC : Hid (∀ (W : World) (i : Nat), Upd [] w W → i < len → (f i).Ok ∧ ∃ ba off, a = some ⟨ba, off, none⟩ ∧ ba < w.heap.size ∧ AcAt W ba (off + i * 5) (f i)) := fun W i hW hi => by
      obtain ⟨a2, cap2, e2, _, h2, h3⟩ := H.out
      obtain ⟨b, off, e3, hb3, h4⟩ := h3 (by omega)
      have e4 : a = a2 := by injection e2
      exact ⟨h2 i hi, b, off, by rw [e4, e3], hb3, (h4 i hi).kept hW (by simp)⟩
    go_enter Try.func13, Try.ntmps13
    go_wp2_with (first
      | ((go_at_call 33; (with_reducible refine (falive_any _).mono ?_)); rintro e w1 ⟨rfl, hu1⟩)
      | ((go_at_call 34; (with_reducible refine (kn w1).mono ?_)); rintro e w2 ⟨p, F, rfl, hK, hu2, hF⟩; (have hlt := nestFb.lt hK); (have kr := rnew_any k w2 F hlt (by omega)))
      | ((go_at_call 24; (with_reducible refine (kr).mono ?_)); rintro e w5 ⟨v1, rfl, ⟨gh, oh, ch, gc, oc, cc, rfl, hR1⟩, hu4⟩; (unfold refV))
      | fail)
    have hs2 := hu2.size
    have hs4 := hu4.size
    have hs1 := hu1.size
    have u6 : Upd [] w5 (w5.alloc (.cells #[Value.slice (some ⟨gh, oh, none⟩) (NS.new k).hs.length ch, Value.slice (some ⟨gc, oc, none⟩) (NS.new k).cs.length cc] 53)) := (Upd.refl _ _).alloc _
    have hT0 : HeldAt nestFb w (w5.alloc (.cells #[Value.slice (some ⟨gh, oh, none⟩) (NS.new k).hs.length ch, Value.slice (some ⟨gc, oc, none⟩) (NS.new k).cs.length cc] 53)) p w5.heap.size F (NS.new k) gh oh ch gc oc cc 0 FG.none := by
      have la := hR1.lt
      refine ⟨nestFb.upd hK (hu4.trans u6) (by simp), (hR1.upd0 u6).add (b := w5.heap.size) (by omega) (by omega), fun x hx => ?_, fun hm => ?_, by simp, by omega, by simp, by simp, (((hu1.trans hu2).trans hu4).trans u6)⟩
      · have := hF x hx; omega
      · have := hlt _ hm; omega
    have HT0 := Lib.hid hT0
    have hnl : (NS.new k).cs.length = k := by simp [NS.new]
    have hdec : decide ((90 : Int) < (len : Int)) = false := by simp; omega
    rw [hdec]
    have HK := Lib.hid (And.intro hk2 hnl)
    clear hT0 u6 hK hR1 kn hF hlt kr hu1 hu2 hu4 hdec hnl
    generalize hb8 : w5.heap.size = b at *
    go_loopw [46] (fun j wr => ∃ i : Nat, i ≤ len ∧ j = .int .i64 (i : Int) ∧ ∃ F A gh oh ch gc oc cc st g, A.cs.length = k ∧ HeldAt nestFb w wr p b F A gh oh ch gc oc cc st g) (fun j _ => len - (intOf j).toNat)
    case atStart => exact ⟨0, by omega, rfl, _, _, _, _, _, _, _, _, _, _, HK.out.2, HT0.out⟩
    case round =>
      obtain ⟨i, hi, rfl, F, A, gh, oh, ch, gc, oc, cc, st, g, hAk, hT⟩ := hrel
      rename World => wr
      clear HT0
      by_cases hil : i < len
      · obtain ⟨hoki, ba, off, ha, hba, k0, k1, k2, k3, k4⟩ := HC.out wr i hT.up hil
        subst ha
        have HT := Lib.hid (And.intro hT hAk)
        have hib : (i : Int) < (len : Int) := by omega
        have hwr : IntKind.i64.wrap ((i : Int) + 1) = (i : Int) + 1 := IntWalk.i64_in _ (by omega)
        have hl1 := nestFb.lt hT.a
        have hw2F : wr.heap.size ∉ F := fun hm => by have := hl1 _ hm; omega
        have y0 := hT.c1.1
        have y1 := hT.c1.2
        have hbl := hT.lt
        have hnb : b ≠ wr.heap.size := by omega
        have kd1 := fun W (hW : Upd [] wr W) => do_open (K := nestFb) (X := [b]) (nestFb.upd hT.a hW (by simp)) (hT.r.upd0 hW) (fun x hx => by
          have := hW.size
          simp at hx; subst hx; omega) (f i) hoki
        simp only [fb_ty] at kd1
        clear hT hl1 hAk
        go_wp2_with (first
          | ((go_at_call 25; (with_reducible refine (kd1 _ (by (repeat (first | assumption | exact Upd.refl _ _ | refine Upd.alloc ?_ _ | refine Upd.drew ?_ | refine Upd.drewN ?_ _ | refine Upd.setCell ?_ ?_ _ | focus (left; simp; done) | focus (right; simp; done) | focus (right; simp; omega))))).mono ?_)); rintro e w3 ⟨F3, gh3, oh3, ch3, gc3, oc3, cc3, rfl, hA3, hR3, hu3, hf3⟩; (have u13 : Upd F wr w3 := Upd.trans ((Upd.refl F wr).alloc _) hu3); (have z0 := u13.kept HT.out.1.c1.1 HT.out.1.bF); (have z1 := u13.kept HT.out.1.c1.2 HT.out.1.bF); (have zf0 := u13.keptF HT.out.1.c1.1 HT.out.1.bF HT.out.1.z1.1); (have zf1 := u13.keptF HT.out.1.c1.2 HT.out.1.bF HT.out.1.z1.2); (have hz3 := hu3.size); (have hbl3 : b < w3.heap.size := by (rw [World.size_alloc] at hz3; omega)); (have hf3b : ∀ x, x ∈ F3 → x ∈ F ∨ wr.heap.size ≤ x := fun x hx => by (rcases hf3 x hx with h' | h'; exact Or.inl h'; right; rw [World.size_alloc] at h'; omega)); (have hbF3 : b ∉ F3 := fun hm => by (rcases hf3b _ hm with h' | h'; exact HT.out.1.bF h'; omega)); (have hnb3 : b ≠ w3.heap.size := by omega); (have HA := Lib.hid (And.intro hA3 (And.intro hR3 (And.intro u13 (And.intro hf3b hbF3))))); clear kd1 y0 y1 hA3 hR3 u13 hf3b hf3 hu3 hbF3)
          | fail)
        have U37 := Lib.hid (fun (W : World) (hW : Upd [b] w3 W) (q0 : W.cell? ⟨b, 0, none⟩ = some (.slice (some ⟨gh3, oh3, none⟩) (doN A (f i)).hs.length ch3)) (q1 : W.cell? ⟨b, 1, none⟩ = some (.slice (some ⟨gc3, oc3, none⟩) (doN A (f i)).cs.length cc3)) (zq0 : W.frozen? ⟨b, 0, none⟩ = false) (zq1 : W.frozen? ⟨b, 1, none⟩ = false) =>
          HT.out.1.fin HA.out.2.2.1 HA.out.2.2.2.1 (HA.out.2.1.upd (hW.mono (fun x hx => by simp at hx; simp [hx]))) hW (Upd.refl _ _) (nestFb.upd HA.out.1 hW (fun x hx => by simp at hx; rw [hx]; exact HA.out.2.2.2.2)) ⟨q0, q1⟩ ⟨zq0, zq1⟩)
        exact ⟨⟨i + 1, by omega, by go_num, F3, _, gh3, oh3, ch3, gc3, oc3, cc3, _, _, by rw [doN_len]; exact HT.out.2, U37.out _ (by (repeat (first | assumption | exact Upd.refl _ _ | refine Upd.alloc ?_ _ | refine Upd.drew ?_ | refine Upd.drewN ?_ _ | refine Upd.setCell ?_ ?_ _ | focus (left; simp; done) | focus (right; simp; done) | focus (right; simp; omega)))) (by go_simp) (by go_simp) (by go_simp) (by go_simp)⟩, by simp [intOf]; omega⟩
      · obtain rfl : i = len := by omega
        obtain ⟨g0, hg0⟩ : ∃ g0 : FG, g0 = g := ⟨g, rfl⟩
        subst hg0
        have hok := nestFb.ok hT.a
        have I : FbI A g0 := (show FbK wr p F A st g0 from hT.a).2
        have hc1 := hok.c1
        have hh1 := hok.h1
        have hh0 := hok.h0
        have hchb := hT.r.hcap
        have hccb := hT.r.ccap
        have H0 := Lib.hid (And.intro hT (And.intro I hok))
        have hiln : ¬ (i : Int) < (i : Int) := by omega
        clear hT hok I HC H
        generalize hnh : A.hs.length = nh at *
        go_wp2
        go_loopw [13] (fun s13 wr2 => ∃ hh : Nat, 1 ≤ hh ∧ hh ≤ nh ∧ s13 = .int .i64 (hh : Int) ∧ ∃ F st, HeldAt nestFb w wr2 p b F A gh oh ch gc oc cc st g0) (fun s13 _ => nh - (intOf s13).toNat)
        case atStart => exact ⟨1, by omega, by omega, rfl, F, st, H0.out.1⟩
        case round =>
          obtain ⟨hh, h1, hh2, rfl, F2, st2, hT2⟩ := hrel
          rename World => wr2
          have y0 := hT2.c1.1
          have y1 := hT2.c1.2
          rw [hnh] at y0
          rw [hAk] at y1
          by_cases hhl : hh < nh
          · have hhI : (hh : Int) < (nh : Int) := by omega
            have hw1 : IntKind.i64.wrap ((hh : Int) + 1) = (hh : Int) + 1 := IntWalk.i64_in _ (by omega)
            have HT2 := Lib.hid hT2
            clear hT2
            go_wp2
            go_loopw [14, 72] (fun s14 s72 wr3 => ∃ j : Nat, j ≤ k ∧ s72 = .int .i64 (j : Int) ∧ s14 = .int .i64 (dsumN A g0 hh j : Int) ∧ ∃ F st, HeldAt nestFb w wr3 p b F A gh oh ch gc oc cc st g0) (fun _ s72 _ => k - (intOf s72).toNat)
            case atStart => exact ⟨0, by omega, rfl, rfl, F2, st2, HT2.out⟩
            case round =>
              obtain ⟨j, hj, rfl, rfl, F3, st3, hT3⟩ := hrel
              rename World => wr3
              have hsumb : dsumN A g0 hh k + (g0.R hh).length = lenN A (hh : Int) := by rw [← hAk]; exact dsum_end H0.out.2.1 h1
              have hlb := lenN_le H0.out.2.2 (hh : Int)
              by_cases hjk : j < k
              · have hjA : j < A.cs.length := by omega
                have hjI : (j : Int) < (k : Int) := by omega
                have hw2 : IntKind.i64.wrap ((j : Int) + 1) = (j : Int) + 1 := IntWalk.i64_in _ (by omega)
                have e0 := hT3.r.c0 j hjA
                have e1 := hT3.r.c1 j hjA
                have e2 := hT3.r.c2 j hjA
                have hds := dsum_succ A g0 hh j
                have hdm := dsum_mono A g0 hh (show j + 1 ≤ k by omega)
                have hlt3 := hT3.lt
                have HT3 := Lib.hid hT3
                by_cases hhom : (A.c j).i = (hh : Int)
                · rw [if_pos hhom] at hds
                  have hin : inN A (j : Int) = true := (inN_nat _ _).2 ⟨hjA, by omega⟩
                  have hdeg := deg_bits H0.out.2.1.ff H0.out.2.2 hjA hhom h1 (Int.le_refl (lenN A (hh : Int) : Int)) (by omega)
                  have hbb := bitsOf_bd (lenN A (hh : Int) : Int)
                  have kdg := fun W (hW : Upd [] wr3 W) => fdeg_any (p := p) (FF := F3) (st := st3) (show FbK W p F3 A st3 g0 from (hT3.upd0 hW).a) (j : Int)
                  rw [if_pos hin, Int.toNat_natCast] at kdg
                  have KB := fun W => rbits_any (lenN A (hh : Int) : Int) W (by omega) (by omega)
                  have KL := Lib.hid (fun (W : World) (F4 : List Nat) (st4 : Nat) (hW : HeldAt nestFb w W p b F4 A gh oh ch gc oc cc st4 g0) => rlenN_any hW.ref H0.out.2.2 (hh : Int))
                  have hwr1 : IntKind.i64.wrap ((dsumN A g0 hh j : Int) + ((g0.K j).length : Int)) = ((dsumN A g0 hh (j + 1) : Nat) : Int) := by rw [IntWalk.i64_in _ (by omega)]; omega
                  have hwr2 : IntKind.i64.wrap (2 * bitsOf (lenN A (hh : Int) : Int)) = 2 * bitsOf (lenN A (hh : Int) : Int) := IntWalk.i64_in _ (by omega)
                  have hhb : ((A.c j).i == (hh : Int)) = true := by simpa using hhom
                  obtain ⟨d, hd⟩ : ∃ d, (g0.K j).length = d := ⟨_, rfl⟩
                  obtain ⟨bb, hbbe⟩ : ∃ bb, bitsOf (lenN A (hh : Int) : Int) = bb := ⟨_, rfl⟩
                  obtain ⟨ln, hlne⟩ : ∃ ln, lenN A (hh : Int) = ln := ⟨_, rfl⟩
                  rw [hd] at kdg hdeg hwr1
                  rw [hbbe] at hdeg hwr2 hbb
                  simp only [hbbe] at KB
                  rw [hlne] at KL KB
                  have hd0 : ¬ ((d : Int) < 0) := by omega
                  have hd1 : ¬ (2 * bb < (d : Int)) := by omega
                  have HDS := Lib.hid (And.intro hhom hhom)
                  clear hT3 hds hdm hsumb hin hd hbbe hlne
                  rw [hhom] at e0
                  go_wp2_with (first
                    | ((go_at_call 39; (with_reducible refine (kdg _ (by (repeat (first | assumption | exact Upd.refl _ _ | refine Upd.alloc ?_ _ | refine Upd.drew ?_ | refine Upd.drewN ?_ _ | refine Upd.setCell ?_ ?_ _ | focus (left; simp; done) | focus (right; simp; done) | focus (right; simp; omega))))).mono ?_)); rintro e w8 ⟨rfl, F8, hK8, hu8, hF8⟩; (have H8 := (HT3.out.upd0 (W := _) (by (repeat (first | assumption | exact Upd.refl _ _ | refine Upd.alloc ?_ _ | refine Upd.drew ?_ | refine Upd.drewN ?_ _ | refine Upd.setCell ?_ ?_ _ | focus (left; simp; done) | focus (right; simp; done) | focus (right; simp; omega))) : Upd [] wr3 _)).go hu8 hF8 hK8); (have y8 := H8.c1.1); rw [hnh] at y8; (have y9 := H8.c1.2); rw [hAk] at y9; (have kl := KL.out _ _ _ H8); rw [hnh, hAk] at kl; (have HH8 := Lib.hid H8); clear H8 hK8 hu8 hF8 kdg)
                    | ((go_at_call 29; (with_reducible refine (kl).mono ?_)); rintro e w9 ⟨rfl, hu9⟩)
                    | ((go_at_call 38; (with_reducible refine (KB _).mono ?_)); rintro e w10 ⟨rfl, hu10⟩)
                    | fail)
                  exact ⟨⟨j + 1, by omega, by go_num, rfl, _, _, HH8.out.upd0 hu9⟩, by simp [intOf]; omega⟩
                · rw [if_neg hhom] at hds
                  have hhb : ((A.c j).i == (hh : Int)) = false := by simpa using hhom
                  have HDS := Lib.hid hds
                  clear hT3 hds hdm
                  go_wp2
                  refine ⟨⟨j + 1, by omega, by go_num, by rw [HDS.out]; rfl, F3, st3, HT3.out.upd0 (by (repeat (first | assumption | exact Upd.refl _ _ | refine Upd.alloc ?_ _ | refine Upd.drew ?_ | refine Upd.drewN ?_ _ | refine Upd.setCell ?_ ?_ _ | focus (left; simp; done) | focus (right; simp; done) | focus (right; simp; omega))))⟩, by simp [intOf]; omega⟩
              · obtain rfl : j = k := by omega
                have HT3 := Lib.hid hT3
                have kro := fun W (hW : Upd [] wr3 W) => froots_any (p := p) (FF := F3) (st := st3) (show FbK W p F3 A st3 g0 from (hT3.upd0 hW).a) (hh : Int) (by omega)
                have KL := fun W (hW : Upd [] wr3 W) => rlenN_any (hT3.upd0 hW).ref H0.out.2.2 (hh : Int)
                rw [Int.toNat_natCast] at kro
                rw [hnh, hAk] at KL
                have y8 := hT3.c1.1
                have y9 := hT3.c1.2
                rw [hnh] at y8
                rw [hAk] at y9
                have r8 : ∀ W, Upd [] wr3 W → W.cell? ⟨b, 0, none⟩ = some (.slice (some ⟨gh, oh, none⟩) nh ch) := fun W hW => hW.was y8
                have r9 : ∀ W, Upd [] wr3 W → W.cell? ⟨b, 1, none⟩ = some (.slice (some ⟨gc, oc, none⟩) j cc) := fun W hW => hW.was y9
                obtain ⟨ds, hds⟩ : ∃ ds, dsumN A g0 hh j = ds := ⟨_, rfl⟩
                obtain ⟨rs, hrs⟩ : ∃ rs, (g0.R hh).length = rs := ⟨_, rfl⟩
                obtain ⟨ln, hlne⟩ : ∃ ln, lenN A (hh : Int) = ln := ⟨_, rfl⟩
                rw [hrs] at kro
                rw [hlne] at KL
                rw [hds, hrs, hlne] at hsumb
                rw [hlne] at hlb
                rw [hds]
                have hws : IntKind.i64.wrap ((ds : Int) + (rs : Int)) = (ln : Int) := by rw [IntWalk.i64_in _ (by omega)]; omega
                have hsb : (ds : Int) + (rs : Int) = (ln : Int) := by omega
                have hwl : IntKind.i64.wrap (ln : Int) = (ln : Int) := IntWalk.i64_in _ (by omega)
                clear hT3 hsumb hds hrs hlne y8 y9
                go_wp2
                go_region_held3 (Upd [] wr3) (repeat (first | assumption | exact Upd.refl _ _ | refine Upd.drew ?_ | refine Upd.alloc ?_ _ | refine Upd.setCell ?_ ?_ _ | focus (left; simp; done) | focus (right; simp; done) | focus (right; simp; omega) | (apply Upd.trans; rotate_left; assumption)))
                  (first
                    | ((go_at_call 36; (with_reducible refine (kro _ (by (repeat (first | assumption | exact Upd.refl _ _ | refine Upd.drew ?_ | refine Upd.alloc ?_ _ | refine Upd.setCell ?_ ?_ _ | focus (left; simp; done) | focus (right; simp; done) | focus (right; simp; omega) | (apply Upd.trans; rotate_left; assumption))))).mono ?_)); rintro e w8 ⟨rfl, hu8⟩; (have hv8 : Upd [] wr3 w8 := Upd.trans (by (repeat (first | assumption | exact Upd.refl _ _ | refine Upd.drew ?_ | refine Upd.alloc ?_ _ | refine Upd.setCell ?_ ?_ _ | focus (left; simp; done) | focus (right; simp; done) | focus (right; simp; omega) | (apply Upd.trans; rotate_left; assumption)))) hu8))
                    | ((go_at_call 29; (with_reducible refine (KL _ (by (repeat (first | assumption | exact Upd.refl _ _ | refine Upd.drew ?_ | refine Upd.alloc ?_ _ | refine Upd.setCell ?_ ?_ _ | focus (left; simp; done) | focus (right; simp; done) | focus (right; simp; omega) | (apply Upd.trans; rotate_left; assumption))))).mono ?_)); rintro e w9 ⟨rfl, hu9⟩; (have hv9 : Upd [] wr3 w9 := Upd.trans (by (repeat (first | assumption | exact Upd.refl _ _ | refine Upd.drew ?_ | refine Upd.alloc ?_ _ | refine Upd.setCell ?_ ?_ _ | focus (left; simp; done) | focus (right; simp; done) | focus (right; simp; omega) | (apply Upd.trans; rotate_left; assumption)))) hu9)))
                go_wp2
                exact ⟨⟨hh + 1, by omega, by omega, by go_num, F3, st3, HT3.out.upd0 hv9⟩, by simp [intOf]; omega⟩
          · obtain rfl : hh = nh := by omega
            have kd1 := fun W (hW : Upd [] wr2 W) => fdeg_any (p := p) (FF := F2) (st := st2) (show FbK W p F2 A st2 g0 from (hT2.upd0 hW).a) (-1)
            have hm1 : inN A (-1) = false := by
              cases e : inN A (-1) with
              | false => rfl
              | true => have := (inN_iff _ _).1 e; omega
            have hk1 : inN A (k : Int) = false := by
              cases e : inN A (k : Int) with
              | false => rfl
              | true => have := (inN_iff _ _).1 e; omega
            have hR0 : g0.R 0 = [] := by
              cases e : g0.R 0 with
              | nil => rfl
              | cons t s => have := (H0.out.2.1.out (h := 0) (z := t) (by rw [e]; simp)).1; omega
            rw [hm1, if_neg (by simp)] at kd1
            have KD := Lib.hid (fun (W : World) (F4 : List Nat) (st4 : Nat) (hW : FbK W p F4 A st4 g0) => show Calls Try.prog 39 #[.pointer (some ⟨p, 0, none⟩), .int .i64 (k : Int)] W fun e w' => e = .returned (.int .i64 0) ∧ Goes F4 W w' (fun FF' => FbK w' p FF' A st4 g0) from by
              have := fdeg_any hW (k : Int)
              rw [hk1, if_neg (by simp)] at this
              exact this)
            have KR := Lib.hid (fun (W : World) (F4 : List Nat) (st4 : Nat) (hW : FbK W p F4 A st4 g0) => show Calls Try.prog 36 #[.pointer (some ⟨p, 0, none⟩), .int .i64 0] W fun e w' => e = .returned (.int .i64 0) ∧ Upd [] W w' from by
              have := froots_any hW 0 (by omega)
              rw [show (0 : Int).toNat = 0 from rfl, hR0] at this
              exact this)
            have HT2 := Lib.hid hT2
            clear hT2 hm1 hk1 hR0
            go_wp2_with (first
              | ((go_at_call 39; (with_reducible refine (kd1 _ (by (repeat (first | assumption | exact Upd.refl _ _ | refine Upd.alloc ?_ _ | refine Upd.drew ?_ | refine Upd.drewN ?_ _ | refine Upd.setCell ?_ ?_ _ | focus (left; simp; done) | focus (right; simp; done) | focus (right; simp; omega))))).mono ?_)); rintro e w6 ⟨rfl, F6, hK6, hu6, hF6⟩; (have kd7 := KD.out _ _ _ hK6); (have H6 := Lib.hid ((HT2.out.upd0 (W := _) (by (repeat (first | assumption | exact Upd.refl _ _ | refine Upd.alloc ?_ _ | refine Upd.drew ?_ | refine Upd.drewN ?_ _ | refine Upd.setCell ?_ ?_ _ | focus (left; simp; done) | focus (right; simp; done) | focus (right; simp; omega))) : Upd [] wr2 _)).go hu6 hF6 hK6)); clear kd1 hK6 hu6 hF6)
              | ((go_at_call 39; (with_reducible refine (kd7).mono ?_)); rintro e w7 ⟨rfl, F7, hK7, hu7, hF7⟩; (have kr8 := KR.out _ _ _ hK7); (have H7 := Lib.hid (H6.out.go hu7 hF7 hK7)); clear kd7 hK7 hu7 hF7)
              | ((go_at_call 36; (with_reducible refine (kr8).mono ?_)); rintro e w8 ⟨rfl, hu8⟩)
              | fail)
            go_ret
            exact ⟨rfl, H7.out.up.trans hu8⟩
  · have hb1 : (len : Int) > 90 := by omega
    go_enter Try.func13, Try.ntmps13
    go_wp2_with (first
      | ((go_at_call 33; (with_reducible refine (falive_any _).mono ?_)); rintro e w1 ⟨rfl, hu1⟩)
      | ((go_at_call 34; (with_reducible refine (kn w1).mono ?_)); rintro e w2 ⟨p, F, rfl, hK, hu2, hF⟩)
      | fail)
    go_ret
    exact ⟨by first | rfl | exact ret_bool (by simp; omega), hu1.trans hu2⟩
end Go.Proofs.Ytighgbdijagolaa
