/-
  The law FibonacciTrees: its walk. Conditions: those of each lemma.
-/
import Derived.Test.YtighgbdijagolaaFbTrP
import Derived.Test.YtighgbdijagolaaHeld
import Derived.Deep.RegionHeldLaw
import Derived.Deep.DeepCutAuto
import Derived.Outline
set_option linter.unusedVariables false
set_option linter.unusedSimpArgs false
namespace Go.Proofs.Ytighgbdijagolaa
open Go Go.RowKit

theorem homeN_bd {A : NS} (ok : A.Ok) {a : AC} (ha : a.Ok) : -9223372036854775808 ≤ homeN A a ∧ homeN A a ≤ 9223372036854775807 := by
  unfold homeN
  split
  · rename_i h
    obtain ⟨x, e⟩ := in_nat h.1
    have h2 := h.1
    rw [e] at h2 ⊢
    obtain ⟨hx, _⟩ := (inN_nat _ _).1 h2
    have := ok.nat x hx
    have := ok.h1
    rw [Int.toNat_natCast]
    omega
  · exact ha.h
/-- What the round tests. -/
def TreesB (kd was other now many left bits : Int) (ch : Bool) : Prop :=
  now ≤ left ∧ ((now = 0 ∧ left = 0) ∨ (0 < now ∧ 0 < left)) ∧ (kd = 1 → ch = true → now = was + 1) ∧ (kd = 4 → was ≤ now) ∧ (kd = 6 → ch = true → now = was + other) ∧ (kd = 3 → ch = true → now ≤ 2 * bits + 1)
set_option maxHeartbeats 16000000 in
set_option maxRecDepth 100000 in
theorem fbtrees_any (n : Int) (v : Value) (len : Nat) (f : Nat → AC) (w : World) (hn : (Lit.int .u8 n).wf = true) (h : ActsN w v len f) : Calls Try.prog 12 #[.int .u8 n, v] w fun e w' => e = .returned (.bool true) ∧ Upd [] w w' := by
  have hb : 0 ≤ n ∧ n < 256 := by simp [Lit.wf, IntKind.min, IntKind.max, IntKind.signed, IntKind.bits] at hn; omega
  clear hn
  obtain ⟨m, rfl⟩ : ∃ m : Nat, n = m := ⟨n.toNat, by omega⟩
  obtain ⟨k, hk, hk2⟩ : ∃ k : Nat, (m : Int) % 60 = k ∧ k < 60 := ⟨m % 60, by omega, by omega⟩
  have kn := fun W => fnewK_yes k W (by omega)
  have hl : len ≤ maxLen := by obtain ⟨a, cap, rfl, hl, _⟩ := h; exact hl
  have H := Lib.hid h
  obtain ⟨a, cap, hv⟩ : ∃ a cap, v = .slice a len cap := by obtain ⟨a, cap, rfl, _⟩ := h; exact ⟨a, cap, rfl⟩
  subst hv
  clear h
  unfold maxLen at hl
  by_cases hbig : len ≤ 90
  · have hb1 : ¬ (len : Int) > 90 := by omega
    have HC : Hid (∀ (W : World) (i : Nat), Upd [] w W → i < len → (f i).Ok ∧ ∃ ba off, a = some ⟨ba, off, none⟩ ∧ ba < w.heap.size ∧ AcAt W ba (off + i * 5) (f i)) := fun W i hW hi => by
      obtain ⟨a2, cap2, e2, _, h2, h3⟩ := H.out
      obtain ⟨b, off, e3, hb3, h4⟩ := h3 (by omega)
      have e4 : a = a2 := by injection e2
      exact ⟨h2 i hi, b, off, by rw [e4, e3], hb3, (h4 i hi).kept hW (by simp)⟩
    go_enter Try.func12, Try.ntmps12
    go_wp2_with (first
      | ((go_at_call 33; (with_reducible refine (falive_any _).mono ?_)); rintro e w1 ⟨rfl, hu1⟩)
      | ((go_at_call 34; (with_reducible refine (kn w1).mono ?_)); rintro e w2 ⟨p, F, rfl, hK, hu2, hF⟩; (have hlt := nestFb.lt hK); (have kr := rnew_any k w2 F hlt (by omega)))
      | ((go_at_call 24; (with_reducible refine (kr).mono ?_)); rintro e w5 ⟨v1, rfl, ⟨gh, oh, ch, gc, oc, cc, rfl, hR1⟩, hu4⟩; (unfold refV))
      | fail)
    have hs2 := hu2.size
    have hs4 := hu4.size
    have hs1 := hu1.size
    have u6 : Upd [] w5 (w5.alloc (.cells #[Value.slice (some ⟨gh, oh, none⟩) (NS.new k).hs.length ch, Value.slice (some ⟨gc, oc, none⟩) (NS.new k).cs.length cc] 53)) := (Upd.refl _ _).alloc _
    have hT0 : HeldAt nestFb w (w5.alloc (.cells #[Value.slice (some ⟨gh, oh, none⟩) (NS.new k).hs.length ch, Value.slice (some ⟨gc, oc, none⟩) (NS.new k).cs.length cc] 53)) p w5.heap.size F (NS.new k) gh oh ch gc oc cc 0 FG.none := by
      have la := hR1.lt
      refine ⟨nestFb.upd hK (hu4.trans u6) (by simp), (hR1.upd0 u6).add (b := w5.heap.size) (by omega) (by omega), fun x hx => ?_, fun hm => ?_, by simp, by omega, by simp, by simp, (((hu1.trans hu2).trans hu4).trans u6)⟩
      · have := hF x hx; omega
      · have := hlt _ hm; omega
    have HT0 := Lib.hid hT0
    have hnl : (NS.new k).cs.length = k := by simp [NS.new]
    have hdec : decide ((90 : Int) < (len : Int)) = false := by simp; omega
    rw [hdec]
    have HK := Lib.hid (And.intro hk2 hnl)
    clear hT0 u6 hK hR1 kn hF hlt kr hu1 hu2 hu4 hdec hnl
    generalize hb8 : w5.heap.size = b at *
    go_loopw [48] (fun j wr => ∃ i : Nat, i ≤ len ∧ j = .int .i64 (i : Int) ∧ ∃ F A gh oh ch gc oc cc st g, A.cs.length = k ∧ HeldAt nestFb w wr p b F A gh oh ch gc oc cc st g) (fun j _ => len - (intOf j).toNat)
    case atStart => exact ⟨0, by omega, rfl, _, _, _, _, _, _, _, _, _, _, HK.out.2, HT0.out⟩
    case round =>
      obtain ⟨i, hi, rfl, F, A, gh, oh, ch, gc, oc, cc, st, g, hAk, hT⟩ := hrel
      rename World => wr
      clear HT0
      by_cases hil : i < len
      · obtain ⟨hoki, ba, off, ha, hba, hac⟩ := HC.out wr i hT.up hil
        subst ha
        obtain ⟨a, hfi⟩ : ∃ a, f i = a := ⟨_, rfl⟩
        rw [hfi] at hoki hac
        obtain ⟨kd, ah, ax, ak, sq⟩ := a
        obtain ⟨k0, k1, k2, k3, k4⟩ := hac
        dsimp only at k0 k1 k2 k3 k4
        obtain ⟨hm, hhm⟩ : ∃ hm, homeN A ⟨kd, ah, ax, ak, sq⟩ = hm := ⟨_, rfl⟩
        have hmb := homeN_bd (nestFb.ok hT.a) hoki
        rw [hhm] at hmb
        have HT := Lib.hid (And.intro hT (And.intro hAk (And.intro hoki hhm)))
        have hib : (i : Int) < (len : Int) := by omega
        have hwr : IntKind.i64.wrap ((i : Int) + 1) = (i : Int) + 1 := IntWalk.i64_in _ (by omega)
        have y0 := hT.c1.1
        have y1 := hT.c1.2
        have hbl := hT.lt
        have hnb : b ≠ wr.heap.size := by omega
        clear hT hAk hhm hfi HC
        -- the act in a cell; which heap it is about
        go_upto_region 12 with (fail)
        go_cut [67] (fun s67 wx => s67 = .bool (decide (inN A ax = true ∧ (kd = 4 ∨ kd = 5))) ∧ Upd [] wr wx ∧ AcAt wx wr.heap.size 0 ⟨kd, ah, ax, ak, sq⟩ ∧ wr.heap.size < wx.heap.size)
        case first =>
          as_aux_lemma =>
            have KI := fun W (hW : Upd [] wr W) => rinN_any ((HT.out.1.upd0 hW).ref) (nestFb.ok HT.out.1.a) ax
            cases hin : inN A ax with
            | false =>
              rw [hin] at KI
              have HN := Lib.hid hin
              clear hin
              go_wp2_with (first
                    | ((go_at_call 35; (with_reducible refine (KI _ (by (repeat (first | assumption | exact Upd.refl _ _ | refine Upd.alloc ?_ _ | refine Upd.drew ?_ | refine Upd.drewN ?_ _ | refine Upd.setCell ?_ ?_ _ | focus (left; simp; done) | focus (right; simp; done) | focus (right; simp; omega))))).mono ?_)); rintro e w3 ⟨rfl, hu3⟩; (have ha3 : Upd [] wr w3 ∧ AcAt w3 wr.heap.size 0 ⟨kd, ah, ax, ak, sq⟩ ∧ wr.heap.size < w3.heap.size := ⟨Upd.trans (by (repeat (first | assumption | exact Upd.refl _ _ | refine Upd.alloc ?_ _ | refine Upd.drew ?_ | refine Upd.drewN ?_ _ | refine Upd.setCell ?_ ?_ _ | focus (left; simp; done) | focus (right; simp; done) | focus (right; simp; omega)))) hu3, ⟨hu3.was (by simp), hu3.was (by simp), hu3.was (by simp), hu3.was (by simp), hu3.was (by simp)⟩, by have := hu3.size; simp at this; omega⟩); clear KI)
                    | fail)
              go_meet
              exact ⟨by rw [HN.out]; simp, ha3⟩
            | true =>
              rw [hin] at KI
              have HN := Lib.hid hin
              clear hin
              by_cases hk4 : kd = 4
              · subst hk4
                go_wp2_with (first
                    | ((go_at_call 35; (with_reducible refine (KI _ (by (repeat (first | assumption | exact Upd.refl _ _ | refine Upd.alloc ?_ _ | refine Upd.drew ?_ | refine Upd.drewN ?_ _ | refine Upd.setCell ?_ ?_ _ | focus (left; simp; done) | focus (right; simp; done) | focus (right; simp; omega))))).mono ?_)); rintro e w3 ⟨rfl, hu3⟩; (have ha3 : Upd [] wr w3 ∧ AcAt w3 wr.heap.size 0 ⟨4, ah, ax, ak, sq⟩ ∧ wr.heap.size < w3.heap.size := ⟨Upd.trans (by (repeat (first | assumption | exact Upd.refl _ _ | refine Upd.alloc ?_ _ | refine Upd.drew ?_ | refine Upd.drewN ?_ _ | refine Upd.setCell ?_ ?_ _ | focus (left; simp; done) | focus (right; simp; done) | focus (right; simp; omega)))) hu3, ⟨hu3.was (by simp), hu3.was (by simp), hu3.was (by simp), hu3.was (by simp), hu3.was (by simp)⟩, by have := hu3.size; simp at this; omega⟩); (have ha4 := ha3.2.1.1); clear KI)
                    | fail)
                go_meet
                exact ⟨by rw [HN.out]; simp, ha3⟩
              · have hk4b : (kd == 4) = false := by simpa using hk4
                by_cases hk5 : kd = 5
                · subst hk5
                  go_wp2_with (first
                    | ((go_at_call 35; (with_reducible refine (KI _ (by (repeat (first | assumption | exact Upd.refl _ _ | refine Upd.alloc ?_ _ | refine Upd.drew ?_ | refine Upd.drewN ?_ _ | refine Upd.setCell ?_ ?_ _ | focus (left; simp; done) | focus (right; simp; done) | focus (right; simp; omega))))).mono ?_)); rintro e w3 ⟨rfl, hu3⟩; (have ha3 : Upd [] wr w3 ∧ AcAt w3 wr.heap.size 0 ⟨5, ah, ax, ak, sq⟩ ∧ wr.heap.size < w3.heap.size := ⟨Upd.trans (by (repeat (first | assumption | exact Upd.refl _ _ | refine Upd.alloc ?_ _ | refine Upd.drew ?_ | refine Upd.drewN ?_ _ | refine Upd.setCell ?_ ?_ _ | focus (left; simp; done) | focus (right; simp; done) | focus (right; simp; omega)))) hu3, ⟨hu3.was (by simp), hu3.was (by simp), hu3.was (by simp), hu3.was (by simp), hu3.was (by simp)⟩, by have := hu3.size; simp at this; omega⟩); (have ha4 := ha3.2.1.1); clear KI)
                    | fail)
                  go_meet
                  exact ⟨by rw [HN.out]; simp, ha3⟩
                · have hk5b : (kd == 5) = false := by simpa using hk5
                  go_wp2_with (first
                    | ((go_at_call 35; (with_reducible refine (KI _ (by (repeat (first | assumption | exact Upd.refl _ _ | refine Upd.alloc ?_ _ | refine Upd.drew ?_ | refine Upd.drewN ?_ _ | refine Upd.setCell ?_ ?_ _ | focus (left; simp; done) | focus (right; simp; done) | focus (right; simp; omega))))).mono ?_)); rintro e w3 ⟨rfl, hu3⟩; (have ha3 : Upd [] wr w3 ∧ AcAt w3 wr.heap.size 0 ⟨kd, ah, ax, ak, sq⟩ ∧ wr.heap.size < w3.heap.size := ⟨Upd.trans (by (repeat (first | assumption | exact Upd.refl _ _ | refine Upd.alloc ?_ _ | refine Upd.drew ?_ | refine Upd.drewN ?_ _ | refine Upd.setCell ?_ ?_ _ | focus (left; simp; done) | focus (right; simp; done) | focus (right; simp; omega)))) hu3, ⟨hu3.was (by simp), hu3.was (by simp), hu3.was (by simp), hu3.was (by simp), hu3.was (by simp)⟩, by have := hu3.size; simp at this; omega⟩); (have ha4 := ha3.2.1.1); clear KI)
                    | fail)
                  go_meet
                  exact ⟨by rw [HN.out]; simp [hk4, hk5], ha3⟩
        case rest =>
        obtain ⟨rfl, hux, hax, hsx⟩ := hcut
        rename World => wz
        have y0z := hux.was y0
        have y1z := hux.was y1
        obtain ⟨k0z, k1z, k2z, k3z, k4z⟩ := hax
        simp only [Nat.zero_add] at k0z k1z k2z k3z k4z
        have HZ := Lib.hid (And.intro hux hsx)
        clear k0 k1 k2 k3 k4 y0 y1 hux
        go_upto_if 67 with (fail)
        go_cut [11] (fun s11 wx => s11 = .int .i64 hm ∧ wz = wx)
        case first =>
          as_aux_lemma =>
            by_cases hc : inN A ax = true ∧ (kd = 4 ∨ kd = 5)
            · obtain ⟨x, rfl⟩ := in_nat hc.1
              obtain ⟨hx, hx0⟩ := (inN_nat _ _).1 hc.1
              have e0 := HZ.out.1.was (HT.out.1.r.c0 x hx)
              have eh : hm = (A.c x).i := by rw [← HT.out.2.2.2]; unfold homeN; rw [if_pos hc]; simp
              have hccb := HT.out.1.r.ccap
              have HE := Lib.hid eh
              have hd : decide (inN A (x : Int) = true ∧ (kd = 4 ∨ kd = 5)) = true := by simpa using hc
              rw [hd]
              clear eh hc hd
              go_wp2
              go_meet
              exact ⟨by rw [HE.out], rfl⟩
            · have eh : hm = ah := by rw [← HT.out.2.2.2]; unfold homeN; rw [if_neg hc]
              have HE := Lib.hid eh
              have hd : decide (inN A ax = true ∧ (kd = 4 ∨ kd = 5)) = false := by simpa using hc
              rw [hd]
              clear eh hc hd
              go_wp2
              go_meet
              exact ⟨by rw [HE.out], rfl⟩
        case rest =>
          obtain ⟨rfl, rfl⟩ := hcut
          obtain ⟨l0, hl0⟩ : ∃ l0, lenN A hm = l0 := ⟨_, rfl⟩
          obtain ⟨r0, hr0⟩ : ∃ r0 : Nat, (g.R hm.toNat).length = r0 := ⟨_, rfl⟩
          obtain ⟨r1, hr1⟩ : ∃ r1 : Nat, (g.R ax.toNat).length = r1 := ⟨_, rfl⟩
          have kr0 := fun W (hW : Upd [] wz W) => froots_any (p := p) (FF := F) (st := st) (show FbK W p F A st g from (HT.out.1.upd0 (HZ.out.1.trans hW)).a) hm hmb
          have kr1 := fun W (hW : Upd [] wz W) => froots_any (p := p) (FF := F) (st := st) (show FbK W p F A st g from (HT.out.1.upd0 (HZ.out.1.trans hW)).a) ax HT.out.2.2.1.x
          have kl0 := fun W (hW : Upd [] wz W) => rlenN_any (HT.out.1.upd0 (HZ.out.1.trans hW)).ref (nestFb.ok HT.out.1.a) hm
          rw [hr0] at kr0
          rw [hr1] at kr1
          rw [hl0] at kl0
          go_wp2_with (fail)
          have HLR := Lib.hid (And.intro hl0 (And.intro hr0 hr1))
          have rl0 : ∀ W, Upd [] wz W → W.cell? ⟨b, 0, none⟩ = some (.slice (some ⟨gh, oh, none⟩) A.hs.length ch) := fun W hW => hW.was y0z
          have rl1 : ∀ W, Upd [] wz W → W.cell? ⟨b, 1, none⟩ = some (.slice (some ⟨gc, oc, none⟩) A.cs.length cc) := fun W hW => hW.was y1z
          have rl2 : ∀ W, Upd [] wz W → W.cell? ⟨wr.heap.size, 2, none⟩ = some (.int .i64 ax) := fun W hW => hW.was k2z
          clear hl0 hr0 hr1
          go_region_held3 (Upd [] wz) (repeat (first | assumption | exact Upd.refl _ _ | refine Upd.drew ?_ | refine Upd.alloc ?_ _ | refine Upd.setCell ?_ ?_ _ | focus (left; simp; done) | focus (right; simp; done) | focus (right; simp; omega) | (apply Upd.trans; rotate_left; assumption)))
            (first
              | ((go_at_call 36; (with_reducible refine (kr0 _ (by (repeat (first | assumption | exact Upd.refl _ _ | refine Upd.drew ?_ | refine Upd.alloc ?_ _ | refine Upd.setCell ?_ ?_ _ | focus (left; simp; done) | focus (right; simp; done) | focus (right; simp; omega) | (apply Upd.trans; rotate_left; assumption))))).mono ?_)); rintro e w8 ⟨rfl, hu8⟩; (have hv8 : Upd [] wz w8 := Upd.trans (by (repeat (first | assumption | exact Upd.refl _ _ | refine Upd.drew ?_ | refine Upd.alloc ?_ _ | refine Upd.setCell ?_ ?_ _ | focus (left; simp; done) | focus (right; simp; done) | focus (right; simp; omega) | (apply Upd.trans; rotate_left; assumption)))) hu8))
              | ((go_at_call 36; (with_reducible refine (kr1 _ (by (repeat (first | assumption | exact Upd.refl _ _ | refine Upd.drew ?_ | refine Upd.alloc ?_ _ | refine Upd.setCell ?_ ?_ _ | focus (left; simp; done) | focus (right; simp; done) | focus (right; simp; omega) | (apply Upd.trans; rotate_left; assumption))))).mono ?_)); rintro e w10 ⟨rfl, hu10⟩; (have hv10 : Upd [] wz w10 := Upd.trans (by (repeat (first | assumption | exact Upd.refl _ _ | refine Upd.drew ?_ | refine Upd.alloc ?_ _ | refine Upd.setCell ?_ ?_ _ | focus (left; simp; done) | focus (right; simp; done) | focus (right; simp; omega) | (apply Upd.trans; rotate_left; assumption)))) hu10))
              | ((go_at_call 29; (with_reducible refine (kl0 _ (by (repeat (first | assumption | exact Upd.refl _ _ | refine Upd.drew ?_ | refine Upd.alloc ?_ _ | refine Upd.setCell ?_ ?_ _ | focus (left; simp; done) | focus (right; simp; done) | focus (right; simp; omega) | (apply Upd.trans; rotate_left; assumption))))).mono ?_)); rintro e w9 ⟨rfl, hu9⟩; (have hv9 : Upd [] wz w9 := Upd.trans (by (repeat (first | assumption | exact Upd.refl _ _ | refine Upd.drew ?_ | refine Upd.alloc ?_ _ | refine Upd.setCell ?_ ?_ _ | focus (left; simp; done) | focus (right; simp; done) | focus (right; simp; omega) | (apply Upd.trans; rotate_left; assumption)))) hu9)))
          have hu4 : Upd [] wz w9 := hv9
          clear kr0 kr1 kl0 rl0 rl1 rl2 hv9 hv8 hv10 hu8 hu9 hu10
          have hA4 := HT.out.1.upd0 (HZ.out.1.trans hu4)
          have ok4 := nestFb.ok hA4.a
          have hl4 := nestFb.lt hA4.a
          have kd1 := fun W (hW : Upd [] w9 W) => do_open (K := nestFb) (X := [b]) (nestFb.upd hA4.a hW (by simp)) (hA4.r.upd0 hW) (fun x hx => by
            have := hW.size
            have := hA4.lt
            simp at hx; subst hx; omega) ⟨kd, ah, ax, ak, sq⟩ HT.out.2.2.1
          simp only [fb_ty] at kd1
          have q0 := hu4.was y0z
          have q1 := hu4.was y1z
          have q2 := hu4.was k0z
          have q3 := hu4.was k1z
          have q4 := hu4.was k2z
          have q5 := hu4.was k3z
          have q6 := hu4.was k4z
          have hcF : wr.heap.size ∉ F := fun hm => by
            have h1 := nestFb.lt HT.out.1.a _ hm
            omega
          have hs4 : wr.heap.size < w9.heap.size := by have := HZ.out.2; have := hu4.size; omega
          have H4 := Lib.hid (And.intro hA4 (And.intro ok4 (And.intro hl4 hcF)))
          have Q4 := Lib.hid (And.intro q2 q4)
          clear hA4 ok4 hl4 y0z y1z k0z k1z k2z k3z k4z hu4 hcF
          go_wp2_with (first
            | ((go_at_call 25; (with_reducible refine (kd1 _ (by (repeat (first | assumption | exact Upd.refl _ _ | refine Upd.alloc ?_ _ | refine Upd.drew ?_ | refine Upd.drewN ?_ _ | refine Upd.setCell ?_ ?_ _ | focus (left; simp; done) | focus (right; simp; done) | focus (right; simp; omega))))).mono ?_)); rintro e w5 ⟨F5, gh5, oh5, ch5, gc5, oc5, cc5, rfl, hA5, hR5, hu5, hf5⟩; (have HA5 := Lib.hid (And.intro hA5 (And.intro hR5 (And.intro hu5 hf5)))); clear kd1 q0 q1 q2 q3 q4 q5 q6 hA5 hR5 hu5 hf5)
            | fail)
          generalize hA5e : doN A ⟨kd, ah, ax, ak, sq⟩ = A5 at *
          refine wp_named2 (fun W => Upd [] w5 W ∧ W.cell? ⟨w5.heap.size, 0, none⟩ = some (.slice (some ⟨gh5, oh5, none⟩) A5.hs.length ch5) ∧ W.cell? ⟨w5.heap.size, 1, none⟩ = some (.slice (some ⟨gc5, oc5, none⟩) A5.cs.length cc5)) ⟨by (repeat (first | assumption | exact Upd.refl _ _ | refine Upd.alloc ?_ _ | refine Upd.drew ?_ | refine Upd.drewN ?_ _ | refine Upd.setCell ?_ ?_ _ | focus (left; simp; done) | focus (right; simp; done) | focus (right; simp; omega))), by simp, by simp⟩ ?_
          rintro w6 ⟨hu6, n0, n1⟩
          have HD5 := Lib.hid hA5e
          have hbF5 : b ∉ F5 := fun hm => by
            rcases HA5.out.2.2.2 _ hm with h' | h'
            · exact H4.out.1.bF h'
            · have := H4.out.1.lt; omega
          have hcF5 : wr.heap.size ∉ F5 := fun hm => by
            rcases HA5.out.2.2.2 _ hm with h' | h'
            · exact H4.out.2.2.2 h'
            · omega
          have ok5 := nestFb.ok HA5.out.1
          have I5 : FbI A5 (stepF A ⟨kd, ah, ax, ak, sq⟩ g).1 := (show FbK w5 p F5 A5 _ (stepF A ⟨kd, ah, ax, ak, sq⟩ g).1 from HA5.out.1).2
          obtain ⟨rn, hrn⟩ : ∃ rn : Nat, ((stepF A ⟨kd, ah, ax, ak, sq⟩ g).1.R hm.toNat).length = rn := ⟨_, rfl⟩
          obtain ⟨ln, hln⟩ : ∃ ln : Nat, lenN A5 hm = ln := ⟨_, rfl⟩
          have kro := fun W (hW : Upd [] w6 W) => froots_any (p := p) (FF := F5) (show FbK W p F5 A5 _ (stepF A ⟨kd, ah, ax, ak, sq⟩ g).1 from nestFb.upd HA5.out.1 (hu6.trans hW) (by simp)) hm hmb
          have kln := fun W (hW : Upd [] w6 W) => rlenN_any (show RefAt W ([b] ++ F5) (.agg #[.slice (some ⟨gh5, oh5, none⟩) A5.hs.length ch5, .slice (some ⟨gc5, oc5, none⟩) A5.cs.length cc5]) A5 from ⟨gh5, oh5, ch5, gc5, oc5, cc5, rfl, HA5.out.2.1.upd0 (hu6.trans hW)⟩) ok5 hm
          rw [hrn] at kro
          rw [hln] at kln
          have HI5 := Lib.hid (And.intro I5 (And.intro ok5 (And.intro hrn (And.intro hln (And.intro hbF5 hcF5)))))
          have rn0 : ∀ W, Upd [] w6 W → W.cell? ⟨w5.heap.size, 0, none⟩ = some (.slice (some ⟨gh5, oh5, none⟩) A5.hs.length ch5) := fun W hW => hW.was n0
          have rn1 : ∀ W, Upd [] w6 W → W.cell? ⟨w5.heap.size, 1, none⟩ = some (.slice (some ⟨gc5, oc5, none⟩) A5.cs.length cc5) := fun W hW => hW.was n1
          clear I5 ok5 hrn hln hbF5 hcF5 hA5e
          go_region_held3 (Upd [] w6) (repeat (first | assumption | exact Upd.refl _ _ | refine Upd.drew ?_ | refine Upd.alloc ?_ _ | refine Upd.setCell ?_ ?_ _ | focus (left; simp; done) | focus (right; simp; done) | focus (right; simp; omega) | (apply Upd.trans; rotate_left; assumption)))
            (first
              | ((go_at_call 36; (with_reducible refine (kro _ (by (repeat (first | assumption | exact Upd.refl _ _ | refine Upd.drew ?_ | refine Upd.alloc ?_ _ | refine Upd.setCell ?_ ?_ _ | focus (left; simp; done) | focus (right; simp; done) | focus (right; simp; omega) | (apply Upd.trans; rotate_left; assumption))))).mono ?_)); rintro e w7 ⟨rfl, hu7⟩; (have hv7 : Upd [] w6 w7 := Upd.trans (by (repeat (first | assumption | exact Upd.refl _ _ | refine Upd.drew ?_ | refine Upd.alloc ?_ _ | refine Upd.setCell ?_ ?_ _ | focus (left; simp; done) | focus (right; simp; done) | focus (right; simp; omega) | (apply Upd.trans; rotate_left; assumption)))) hu7))
              | ((go_at_call 29; (with_reducible refine (kln _ (by (repeat (first | assumption | exact Upd.refl _ _ | refine Upd.drew ?_ | refine Upd.alloc ?_ _ | refine Upd.setCell ?_ ?_ _ | focus (left; simp; done) | focus (right; simp; done) | focus (right; simp; omega) | (apply Upd.trans; rotate_left; assumption))))).mono ?_)); rintro e w8 ⟨rfl, hu8⟩; (have hv8 : Upd [] w6 w8 := Upd.trans (by (repeat (first | assumption | exact Upd.refl _ _ | refine Upd.drew ?_ | refine Upd.alloc ?_ _ | refine Upd.setCell ?_ ?_ _ | focus (left; simp; done) | focus (right; simp; done) | focus (right; simp; omega) | (apply Upd.trans; rotate_left; assumption)))) hu8)))
          have H8 := Lib.hid (And.intro hu6 hv8)
          have m0 := hv8.was n0
          have m1 := hv8.was n1
          have b0 := (hu6.trans hv8).was (HA5.out.2.2.1.kept H4.out.1.c1.1 H4.out.1.bF)
          have b1 := (hu6.trans hv8).was (HA5.out.2.2.1.kept H4.out.1.c1.2 H4.out.1.bF)
          have t0 := (hu6.trans hv8).was (HA5.out.2.2.1.kept Q4.out.1 H4.out.2.2.2)
          have t2 := (hu6.trans hv8).was (HA5.out.2.2.1.kept Q4.out.2 H4.out.2.2.2)
          clear kro kln rn0 rn1 n0 n1 hu6 hv8 hv7 hu7 hu8
          go_upto_region 17 with (fail)
          go_cut [19] (fun s19 W => s19 = .bool (chN A A5 hm ax) ∧ Upd [] w8 W)
          case first =>
            as_aux_lemma =>
              have ko := fun W (hW : Upd [] w8 W) => rhasN_any (show RefAt W ([b] ++ F) (.agg #[.slice (some ⟨gh, oh, none⟩) A.hs.length ch, .slice (some ⟨gc, oc, none⟩) A.cs.length cc]) A from ⟨gh, oh, ch, gc, oc, cc, rfl, ((H4.out.1.r.upd (HA5.out.2.2.1.mono (fun x hx => by simp [hx]))).upd0 (H8.out.1.trans H8.out.2)).upd0 hW⟩) H4.out.2.1 ax
              have ke := fun W (hW : Upd [] w8 W) => rhasN_any (show RefAt W ([b] ++ F5) (.agg #[.slice (some ⟨gh5, oh5, none⟩) A5.hs.length ch5, .slice (some ⟨gc5, oc5, none⟩) A5.cs.length cc5]) A5 from ⟨gh5, oh5, ch5, gc5, oc5, cc5, rfl, (HA5.out.2.1.upd0 (H8.out.1.trans H8.out.2)).upd0 hW⟩) HI5.out.2.1 ax
              have m0r : ∀ W, Upd [] w8 W → W.cell? ⟨w5.heap.size, 0, none⟩ = some (.slice (some ⟨gh5, oh5, none⟩) A5.hs.length ch5) := fun W hW => hW.was m0
              have m1r : ∀ W, Upd [] w8 W → W.cell? ⟨w5.heap.size, 1, none⟩ = some (.slice (some ⟨gc5, oc5, none⟩) A5.cs.length cc5) := fun W hW => hW.was m1
              have t2r : ∀ W, Upd [] w8 W → W.cell? ⟨wr.heap.size, 2, none⟩ = some (.int .i64 ax) := fun W hW => hW.was t2
              by_cases hl : ln = l0
              · obtain ⟨x1, hx1⟩ : ∃ x1, hasN A ax = x1 := ⟨_, rfl⟩
                obtain ⟨x2, hx2⟩ : ∃ x2, hasN A5 ax = x2 := ⟨_, rfl⟩
                rw [hx1] at ko
                rw [hx2] at ke
                have HX := Lib.hid (And.intro hx1 (And.intro hx2 hl))
                have hlb : ((ln : Int) != (l0 : Int)) = false := by simp [hl]
                clear hx1 hx2 hl
                cases x1 with
                | false =>
                  go_wp2_with (first
                    | ((go_at_call 37; (with_reducible refine (ko _ (by (repeat (first | assumption | exact Upd.refl _ _ | refine Upd.drew ?_ | refine Upd.alloc ?_ _ | refine Upd.setCell ?_ ?_ _ | focus (left; simp; done) | focus (right; simp; done) | focus (right; simp; omega) | (apply Upd.trans; rotate_left; assumption))))).mono ?_)); rintro e w10 ⟨rfl, hu10⟩; clear ko)
                    | fail)
                  go_meet
                  exact ⟨by unfold chN; rw [HX.out.1, HX.out.2.1, HI5.out.2.2.2.1, HLR.out.1, HX.out.2.2]; simp, by (repeat (first | assumption | exact Upd.refl _ _ | refine Upd.drew ?_ | refine Upd.alloc ?_ _ | refine Upd.setCell ?_ ?_ _ | focus (left; simp; done) | focus (right; simp; done) | focus (right; simp; omega) | (apply Upd.trans; rotate_left; assumption)))⟩
                | true =>
                  go_wp2_with (first
                    | ((go_at_call 37; (with_reducible refine (ko _ (by (repeat (first | assumption | exact Upd.refl _ _ | refine Upd.drew ?_ | refine Upd.alloc ?_ _ | refine Upd.setCell ?_ ?_ _ | focus (left; simp; done) | focus (right; simp; done) | focus (right; simp; omega) | (apply Upd.trans; rotate_left; assumption))))).mono ?_)); rintro e w10 ⟨rfl, hu10⟩; (have n0 := m0r _ hu10); (have n1 := m1r _ hu10); (have n2 := t2r _ hu10); clear ko)
                    | ((go_at_call 37; (with_reducible refine (ke _ (by (repeat (first | assumption | exact Upd.refl _ _ | refine Upd.drew ?_ | refine Upd.alloc ?_ _ | refine Upd.setCell ?_ ?_ _ | focus (left; simp; done) | focus (right; simp; done) | focus (right; simp; omega) | (apply Upd.trans; rotate_left; assumption))))).mono ?_)); rintro e w11 ⟨rfl, hu11⟩; clear ke)
                    | fail)
                  go_meet
                  exact ⟨by unfold chN; rw [HX.out.1, HX.out.2.1, HI5.out.2.2.2.1, HLR.out.1, HX.out.2.2]; cases x2 <;> simp, by (repeat (first | assumption | exact Upd.refl _ _ | refine Upd.drew ?_ | refine Upd.alloc ?_ _ | refine Upd.setCell ?_ ?_ _ | focus (left; simp; done) | focus (right; simp; done) | focus (right; simp; omega) | (apply Upd.trans; rotate_left; assumption)))⟩
              · have hlb : ((ln : Int) != (l0 : Int)) = true := by simp; omega
                have hle : ¬ ((ln : Int) = (l0 : Int)) := by omega
                have hle2 : ¬ (ln = l0) := hl
                go_wp2
                go_meet
                exact ⟨by unfold chN; rw [HI5.out.2.2.2.1, HLR.out.1]; simp [hl], by (repeat (first | assumption | exact Upd.refl _ _ | refine Upd.drew ?_ | refine Upd.alloc ?_ _ | refine Upd.setCell ?_ ?_ _ | focus (left; simp; done) | focus (right; simp; done) | focus (right; simp; omega) | (apply Upd.trans; rotate_left; assumption)))⟩
          case rest =>
            obtain ⟨rfl, hu10⟩ := hcut
            rename World => w10
            have HCH := Lib.hid (show ∃ ch', chN A A5 hm ax = ch' from ⟨_, rfl⟩)
            obtain ⟨c, hc⟩ : ∃ c, chN A A5 hm ax = c := ⟨_, rfl⟩
            rw [hc]
            have HC5 := Lib.hid hc
            clear hc HCH
            have T1 := tree_now HI5.out.1 hm
            rw [HI5.out.2.2.1, HI5.out.2.2.2.1] at T1
            have hlb := lenN_le HI5.out.2.1 hm
            have hlb0 := lenN_le H4.out.2.1 hm
            rw [HI5.out.2.2.2.1] at hlb
            rw [HLR.out.1] at hlb0
            have T2 := tree_now (show FbI A g from (show FbK _ p F A st g from HT.out.1.a).2) hm
            have T3 := tree_now (show FbI A g from (show FbK _ p F A st g from HT.out.1.a).2) ax
            rw [HLR.out.2.1, HLR.out.1] at T2
            rw [HLR.out.2.2] at T3
            have T4 := lenN_le H4.out.2.1 ax
            have hc1 := H4.out.2.1.c1
            have hc5 := HI5.out.2.1.c1
            have U := Lib.hid (fun (W : World) (hW : Upd [b] w5 W) (q0 : W.cell? ⟨b, 0, none⟩ = some (.slice (some ⟨gh5, oh5, none⟩) A5.hs.length ch5)) (q1 : W.cell? ⟨b, 1, none⟩ = some (.slice (some ⟨gc5, oc5, none⟩) A5.cs.length cc5)) (zq0 : W.frozen? ⟨b, 0, none⟩ = false) (zq1 : W.frozen? ⟨b, 1, none⟩ = false) =>
              H4.out.1.fin HA5.out.2.2.1 HA5.out.2.2.2 (HA5.out.2.1.upd (hW.mono (fun x hx => by simp at hx; simp [hx]))) hW (Upd.refl _ _) (nestFb.upd HA5.out.1 hW (fun x hx => by simp at hx; rw [hx]; exact HI5.out.2.2.2.2.1)) ⟨q0, q1⟩ ⟨zq0, zq1⟩)
            have m0 := hu10.was m0
            have m1 := hu10.was m1
            have b0' := hu10.was b0
            have b1' := hu10.was b1
            have t0' := hu10.was t0
            have hX : Upd [] w5 w10 := (H8.out.1.trans H8.out.2).trans hu10
            have f0 := hX.keptF (HA5.out.2.2.1.kept H4.out.1.c1.1 H4.out.1.bF) (by simp) (HA5.out.2.2.1.keptF H4.out.1.c1.1 H4.out.1.bF H4.out.1.z1.1)
            have f1 := hX.keptF (HA5.out.2.2.1.kept H4.out.1.c1.2 H4.out.1.bF) (by simp) (HA5.out.2.2.1.keptF H4.out.1.c1.2 H4.out.1.bF H4.out.1.z1.2)
            have hXb : Upd [b] w5 w10 := hX.mono (by simp)
            obtain ⟨N, hN⟩ : ∃ N : Int, (rn : Int) = N := ⟨_, rfl⟩
            obtain ⟨L, hL⟩ : ∃ L : Int, (ln : Int) = L := ⟨_, rfl⟩
            rw [hN, hL]
            have HNL := Lib.hid (And.intro hN hL)
            have hT : (N = 0 ∧ L = 0) ∨ (0 < N ∧ 0 < L) := by omega
            have hNL : ¬ L < N := by omega
            have hNb : 0 ≤ N ∧ N ≤ 65536 ∧ 0 ≤ L ∧ L ≤ 65536 ∧ r0 ≤ 65536 ∧ r1 ≤ 65536 := by omega
            clear hN hL T1 hlb hlb0 T2 T3 T4 hc1 hc5 b0 b1 t0 t2 hu10 hX
            go_upto_region 19 with (fail)
            go_cut [129] (fun s129 W => s129 = .bool false ∧ HeldAt nestFb w W p b F5 A5 gh5 oh5 ch5 gc5 oc5 cc5 (satS st (nestFb.cost A ⟨kd, ah, ax, ak, sq⟩ g)) (nestFb.next A ⟨kd, ah, ax, ak, sq⟩ g) ∧ W.cell? ⟨wr.heap.size, 0, none⟩ = some (.int .i64 kd))
            case first =>
              as_aux_lemma =>
                rcases hT with ⟨rfl, rfl⟩ | ⟨h1, h2⟩
                · go_wp2
                  go_meet
                  exact ⟨rfl, U.out _ (by (repeat (first | assumption | exact Upd.refl _ _ | refine Upd.alloc ?_ _ | refine Upd.drew ?_ | refine Upd.drewN ?_ _ | refine Upd.setCell ?_ ?_ _ | focus (left; simp; done) | focus (right; simp; done) | focus (right; simp; omega)))) (by go_simp) (by go_simp) (by go_simp) (by go_simp), by go_simp⟩
                · have h1b : N > 0 := h1
                  have h2b : L > 0 := h2
                  have h3b : ¬ N > L := hNL
                  go_wp2
                  go_meet
                  exact ⟨rfl, U.out _ (by (repeat (first | assumption | exact Upd.refl _ _ | refine Upd.alloc ?_ _ | refine Upd.drew ?_ | refine Upd.drewN ?_ _ | refine Upd.setCell ?_ ?_ _ | focus (left; simp; done) | focus (right; simp; done) | focus (right; simp; omega)))) (by go_simp) (by go_simp) (by go_simp) (by go_simp), by go_simp⟩
            case rest =>
              obtain ⟨rfl, hH, hkd⟩ := hcut
              rename World => w12
              have HH := Lib.hid hH
              clear hH m0 m1 b0' b1' t0' f0 f1 hXb U
              have I4 : FbI A g := (show FbK _ p F A st g from HT.out.1.a).2
              have P1 : Hid (kd = 1 → c = true → N = (r0 : Int) + 1) := Lib.hid (fun e hc => by
                subst e
                have h := tree_put I4 H4.out.2.1 (a := ⟨1, ah, ax, ak, sq⟩) rfl (by rw [HD5.out, HT.out.2.2.2, HC5.out]; exact hc)
                rw [HT.out.2.2.2, HI5.out.2.2.1, HLR.out.2.1] at h
                have := HNL.out.1
                omega)
              have P4 : Hid (kd = 4 → (r0 : Int) ≤ N) := Lib.hid (fun e => by
                subst e
                have h := tree_low I4 H4.out.2.1 (a := ⟨4, ah, ax, ak, sq⟩) rfl
                rw [HT.out.2.2.2, HI5.out.2.2.1, HLR.out.2.1] at h
                have := HNL.out.1
                omega)
              have P6 : Hid (kd = 6 → c = true → N = (r0 : Int) + (r1 : Int)) := Lib.hid (fun e hc => by
                subst e
                have h := tree_meld I4 H4.out.2.1 (a := ⟨6, ah, ax, ak, sq⟩) rfl (by rw [HD5.out, HT.out.2.2.2, HC5.out]; exact hc)
                rw [HT.out.2.2.2, HI5.out.2.2.1, HLR.out.2.1] at h
                have h2 := HLR.out.2.2
                have := HNL.out.1
                dsimp only at h
                omega)
              have P3 : Hid (kd = 3 → c = true → N ≤ 2 * bitsOf L + 1) := Lib.hid (fun e hc => by
                subst e
                have h := tree_ext I4 H4.out.2.1 (a := ⟨3, ah, ax, ak, sq⟩) rfl (by rw [HD5.out, HT.out.2.2.2, HC5.out]; exact hc)
                rw [HT.out.2.2.2, HD5.out, HI5.out.2.2.1, HI5.out.2.2.2.1, HNL.out.1, HNL.out.2] at h
                exact h)
              have HEND : Hid (A5.cs.length = k) := Lib.hid (by rw [← HD5.out, doN_len]; exact HT.out.2.1)
              clear I4
              by_cases e1 : kd = 1
              · subst e1
                cases c with
                | false =>
                  as_aux_lemma =>
                    go_wp2
                    exact ⟨⟨i + 1, by omega, by go_num, F5, A5, gh5, oh5, ch5, gc5, oc5, cc5, _, _, HEND.out, HH.out⟩, by simp [intOf]; omega⟩
                | true =>
                  have hN1 := P1.out rfl rfl
                  subst hN1
                  have hw := IntWalk.i64_in ((r0 : Int) + 1) (by omega)
                  clear hT
                  as_aux_lemma =>
                    go_wp2
                    exact ⟨⟨i + 1, by omega, by go_num, F5, A5, gh5, oh5, ch5, gc5, oc5, cc5, _, _, HEND.out, HH.out⟩, by simp [intOf]; omega⟩
              · have e1b : (kd == 1) = false := by simpa using e1
                by_cases e4 : kd = 4
                · subst e4
                  have hN4 : ¬ N < (r0 : Int) := by have := P4.out rfl; omega
                  clear e1b
                  as_aux_lemma =>
                    go_wp2
                    exact ⟨⟨i + 1, by omega, by go_num, F5, A5, gh5, oh5, ch5, gc5, oc5, cc5, _, _, HEND.out, HH.out⟩, by simp [intOf]; omega⟩
                · have e4b : (kd == 4) = false := by simpa using e4
                  by_cases e6 : kd = 6
                  · subst e6
                    clear e1b e4b
                    cases c with
                    | false =>
                      as_aux_lemma =>
                        go_wp2
                        exact ⟨⟨i + 1, by omega, by go_num, F5, A5, gh5, oh5, ch5, gc5, oc5, cc5, _, _, HEND.out, HH.out⟩, by simp [intOf]; omega⟩
                    | true =>
                      have hN1 := P6.out rfl rfl
                      subst hN1
                      have hw := IntWalk.i64_in ((r0 : Int) + (r1 : Int)) (by omega)
                      clear hT
                      as_aux_lemma =>
                        go_wp2
                        exact ⟨⟨i + 1, by omega, by go_num, F5, A5, gh5, oh5, ch5, gc5, oc5, cc5, _, _, HEND.out, HH.out⟩, by simp [intOf]; omega⟩
                  · have e6b : (kd == 6) = false := by simpa using e6
                    by_cases e3 : kd = 3
                    · subst e3
                      clear e1b e4b e6b
                      cases c with
                      | false =>
                        as_aux_lemma =>
                          go_wp2
                          exact ⟨⟨i + 1, by omega, by go_num, F5, A5, gh5, oh5, ch5, gc5, oc5, cc5, _, _, HEND.out, HH.out⟩, by simp [intOf]; omega⟩
                      | true =>
                        have KB := fun W => rbits_any L W (by omega) (by omega)
                        have hN3 := P3.out rfl rfl
                        have hbb := bitsOf_bd L
                        obtain ⟨bb, hbbe⟩ : ∃ bb, bitsOf L = bb := ⟨_, rfl⟩
                        rw [hbbe] at hN3 hbb
                        simp only [hbbe] at KB
                        have hw := IntWalk.i64_in (bb * 2) (by omega)
                        have hw2 := IntWalk.i64_in (bb * 2 + 1) (by omega)
                        have hN4 : ¬ bb * 2 + 1 < N := by omega
                        have hN5 : ¬ N > bb * 2 + 1 := hN4
                        clear hT hbbe P3
                        as_aux_lemma =>
                          go_wp2_with (first
                            | ((go_at_call 38; (with_reducible refine (KB _).mono ?_)); rintro e w10 ⟨rfl, hu10⟩; rw [hu10]; clear hu10 w10)
                            | fail)
                          exact ⟨⟨i + 1, by omega, by go_num, F5, A5, gh5, oh5, ch5, gc5, oc5, cc5, _, _, HEND.out, HH.out⟩, by simp [intOf]; omega⟩
                    · have e3b : (kd == 3) = false := by simpa using e3
                      as_aux_lemma =>
                        go_wp2
                        exact ⟨⟨i + 1, by omega, by go_num, F5, A5, gh5, oh5, ch5, gc5, oc5, cc5, _, _, HEND.out, HH.out⟩, by simp [intOf]; omega⟩
      · obtain rfl : i = len := by omega
        have hiln : ¬ (i : Int) < (i : Int) := by omega
        go_wp2
        go_ret
        exact ⟨rfl, hT.up⟩
  · have hb1 : (len : Int) > 90 := by omega
    go_enter Try.func12, Try.ntmps12
    go_wp2_with (first
      | ((go_at_call 33; (with_reducible refine (falive_any _).mono ?_)); rintro e w1 ⟨rfl, hu1⟩)
      | ((go_at_call 34; (with_reducible refine (kn w1).mono ?_)); rintro e w2 ⟨p, F, rfl, hK, hu2, hF⟩)
      | fail)
    go_ret
    exact ⟨by first | rfl | exact ret_bool (by simp; omega), hu1.trans hu2⟩
end Go.Proofs.Ytighgbdijagolaa
