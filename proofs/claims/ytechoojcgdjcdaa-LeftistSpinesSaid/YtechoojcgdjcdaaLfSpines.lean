/-
  The law LeftistSpines: its walk. Conditions: those of each lemma.
-/
import Derived.Test.YtechoojcgdjcdaaLfSp4
import Derived.Test.YtechoojcgdjcdaaRuns
import Derived.Test.YtechoojcgdjcdaaLfRuns
import Derived.Deep.DeepCutAuto
import Derived.Deep.RegionHeldLaw
import Derived.Deep.RegionLaw
import Derived.Outline
set_option linter.unusedVariables false
set_option linter.unusedSimpArgs false
namespace Go.Proofs.Ytechoojcgdjcdaa
open Go Go.RowKit

theorem wp_on {c : Code} {K : Exit → Act → World → Prop} {a : Act} {W : World} (R : World → Prop) (h : R W) (k : ∀ W', R W' → Code.wp Try.prog c K a W') : Code.wp Try.prog c K a W := k W h
structure SpAt (w0 w : World) (p b : Nat) (F : List Nat) (A : NS) (gh oh ch gc oc cc st : Nat) (g : Nat → BT) : Prop where
  a : nestLf.at_ w p F A st g
  r : RefM w ([b] ++ F) gh oh ch gc oc cc A
  f : ∀ x, x ∈ F → w0.heap.size ≤ x
  bF : b ∉ F
  lt : b < w.heap.size
  ge : w0.heap.size ≤ b
  c1 : w.cell? ⟨b, 0, none⟩ = some (.slice (some ⟨gh, oh, none⟩) A.hs.length ch) ∧ w.cell? ⟨b, 1, none⟩ = some (.slice (some ⟨gc, oc, none⟩) A.cs.length cc)
  z1 : w.frozen? ⟨b, 0, none⟩ = false ∧ w.frozen? ⟨b, 1, none⟩ = false
  up : Upd [] w0 w
theorem SpAt.upd {w0 w w' : World} {p b : Nat} {F : List Nat} {A : NS} {gh oh ch gc oc cc st : Nat} {g : Nat → BT} (h : SpAt w0 w p b F A gh oh ch gc oc cc st g) (hu : Upd F w w') (ha : nestLf.at_ w' p F A st g) : SpAt w0 w' p b F A gh oh ch gc oc cc st g :=
  ⟨ha, h.r.upd (hu.mono (fun x hx => by simp [hx])), h.f, h.bF, Nat.lt_of_lt_of_le h.lt hu.size, h.ge, ⟨hu.kept h.c1.1 h.bF, hu.kept h.c1.2 h.bF⟩, ⟨hu.keptF h.c1.1 h.bF h.z1.1, hu.keptF h.c1.2 h.bF h.z1.2⟩, h.up.joined hu (fun x hx => Or.inr (h.f x hx))⟩
theorem SpAt.fin {w0 w w3 w7 W : World} {p b : Nat} {F F3 : List Nat} {A A' : NS} {gh oh ch gc oc cc st gh3 oh3 ch3 gc3 oc3 cc3 st' : Nat} {g g' : Nat → BT} (h : SpAt w0 w p b F A gh oh ch gc oc cc st g) (hu : Upd F w w3) (hf3 : ∀ x, x ∈ F3 → x ∈ F ∨ w.heap.size ≤ x)
    (hR7 : RefM w7 ([b] ++ F3) gh3 oh3 ch3 gc3 oc3 cc3 A') (h37 : Upd [b] w3 w7) (hW : Upd F3 w7 W) (hA : nestLf.at_ W p F3 A' st' g')
    (c1 : w7.cell? ⟨b, 0, none⟩ = some (.slice (some ⟨gh3, oh3, none⟩) A'.hs.length ch3) ∧ w7.cell? ⟨b, 1, none⟩ = some (.slice (some ⟨gc3, oc3, none⟩) A'.cs.length cc3))
    (z1 : w7.frozen? ⟨b, 0, none⟩ = false ∧ w7.frozen? ⟨b, 1, none⟩ = false) : SpAt w0 W p b F3 A' gh3 oh3 ch3 gc3 oc3 cc3 st' g' := by
  have s0 := h.up.size
  have s3 := hu.size
  have s7 := h37.size
  have sW := hW.size
  have hl := h.lt
  have hbF : b ∉ F3 := fun hm => by
    rcases hf3 b hm with h' | h'
    · exact h.bF h'
    · omega
  have hf : ∀ x, x ∈ F3 → w0.heap.size ≤ x := fun x hx => by
    rcases hf3 x hx with h' | h'
    · exact h.f x h'
    · omega
  exact ⟨hA, hR7.upd (hW.mono (fun x hx => by simp [hx])), hf, hbF, by omega, h.ge, ⟨hW.kept c1.1 hbF, hW.kept c1.2 hbF⟩, ⟨hW.keptF c1.1 hbF z1.1, hW.keptF c1.2 hbF z1.2⟩,
    ((h.up.joined hu (fun x hx => Or.inr (h.f x hx))).joined h37 (fun x hx => Or.inr (by simp at hx; subst hx; exact h.ge))).joined hW (fun x hx => Or.inr (hf x hx))⟩
theorem sp_sl {w : World} {base : Nat} {v : Value} {L : List Nat} {F : List Nat} (h : w.ownsRow base 3 1 v L.length (wayZ L)) (hF : ∀ g, g ∈ F → g < base) : SlI w F v (natsZ L) := by
  have e : (natsZ L).length = L.length := by unfold natsZ; simp
  have h2 : w.ownsRow base 3 1 v (natsZ L).length (intsZ (natsZ L)) := by rw [e]; exact h
  exact SlI.of_own h2 hF
theorem sp_cell {W : World} {F : List Nat} {a9 : Option Addr} {c9 : Nat} {L : List Nat} (h : SlI W F (.slice a9 L.length c9) (natsZ L)) {j : Nat} (hj : j < L.length) : ∃ g off, a9 = some ⟨g, off, none⟩ ∧ g ∉ F ∧ W.cell? ⟨g, off + j, none⟩ = some (.int .i64 ((L.getD j 0 : Nat) : Int)) := by
  obtain ⟨a, cap, he, h1, h2, h3⟩ := h
  have ea : a9 = a := by injection he
  subst ea
  obtain ⟨g, off, rfl, _, hn, hc⟩ := h3 j ((L.getD j 0 : Nat) : Int) (by unfold natsZ; simp [List.getD_eq_getElem?_getD, hj])
  exact ⟨g, off, rfl, hn, hc⟩
set_option maxHeartbeats 8000000 in
set_option maxRecDepth 10000 in
theorem lfspines_any (n : Int) (v : Value) (len : Nat) (f : Nat → AC) (w : World) (hn : (Lit.int .u8 n).wf = true) (h : ActsN w v len f) : Calls Try.prog 7 #[.int .u8 n, v] w fun e w' => e = .returned (.bool true) ∧ Upd [] w w' := by
  have hb : 0 ≤ n ∧ n < 256 := by simp [Lit.wf, IntKind.min, IntKind.max, IntKind.signed, IntKind.bits] at hn; omega
  clear hn
  obtain ⟨m, rfl⟩ : ∃ m : Nat, n = m := ⟨n.toNat, by omega⟩
  obtain ⟨k, hk, hk2⟩ : ∃ k : Nat, (m : Int) % 60 = k ∧ k < 60 := ⟨m % 60, by omega, by omega⟩
  have kn := fun W => lnewK_yes k W (by omega)
  have hl : len ≤ maxLen := by obtain ⟨a, cap, rfl, hl, _⟩ := h; exact hl
  have H := Lib.hid h
  obtain ⟨a, cap, hv⟩ : ∃ a cap, v = .slice a len cap := by obtain ⟨a, cap, rfl, _⟩ := h; exact ⟨a, cap, rfl⟩
  subst hv
  clear h
  unfold maxLen at hl
  by_cases hbig : len ≤ 90
  · have hb1 : ¬ (len : Int) > 90 := by omega
    have HC : Hid (∀ (W : World) (i : Nat), Upd [] w W → i < len → (f i).Ok ∧ ∃ ba off, a = some ⟨ba, off, none⟩ ∧ ba < w.heap.size ∧ AcAt W ba (off + i * 5) (f i)) := fun W i hW hi => by
      obtain ⟨a2, cap2, e2, _, h2, h3⟩ := H.out
      obtain ⟨b, off, e3, hb3, h4⟩ := h3 (by omega)
      have e4 : a = a2 := by injection e2
      exact ⟨h2 i hi, b, off, by rw [e4, e3], hb3, (h4 i hi).kept hW (by simp)⟩
    go_enter Try.func7, Try.ntmps7
    go_wp2_with (first
      | ((go_at_call 15; (with_reducible refine (lalive_any _).mono ?_)); rintro e w1 ⟨rfl, hu1⟩)
      | ((go_at_call 16; (with_reducible refine (kn w1).mono ?_)); rintro e w2 ⟨p, F, rfl, hK, hu2, hF⟩; (have hlt := nestLf.lt hK); (have kr := rnew_any k w2 F hlt (by omega)))
      | ((go_at_call 24; (with_reducible refine (kr).mono ?_)); rintro e w5 ⟨v1, rfl, ⟨gh, oh, ch, gc, oc, cc, rfl, hR1⟩, hu4⟩; (unfold refV))
      | fail)
    have hs2 := hu2.size
    have hs4 := hu4.size
    have hs1 := hu1.size
    have u6 : Upd [] w5 (w5.alloc (.cells #[Value.slice (some ⟨gh, oh, none⟩) (NS.new k).hs.length ch, Value.slice (some ⟨gc, oc, none⟩) (NS.new k).cs.length cc] 55)) := (Upd.refl _ _).alloc _
    have hT0 : SpAt w (w5.alloc (.cells #[Value.slice (some ⟨gh, oh, none⟩) (NS.new k).hs.length ch, Value.slice (some ⟨gc, oc, none⟩) (NS.new k).cs.length cc] 55)) p w5.heap.size F (NS.new k) gh oh ch gc oc cc 0 (fun _ => .nil) := by
      have la := hR1.lt
      refine ⟨nestLf.upd hK (hu4.trans u6) (by simp), (hR1.upd0 u6).add (b := w5.heap.size) (by omega) (by omega), fun x hx => ?_, fun hm => ?_, by simp, by omega, by simp, by simp, (((hu1.trans hu2).trans hu4).trans u6)⟩
      · have := hF x hx; omega
      · have := hlt _ hm; omega
    have HT0 := Lib.hid hT0
    have hdec : decide ((90 : Int) < (len : Int)) = false := by simp; omega
    rw [hdec]
    clear hT0 u6 hK hR1 kn hF hlt kr hu1 hu2 hu4 hdec
    generalize hb8 : w5.heap.size = b at *
    go_loopw [46] (fun j wr => ∃ i : Nat, i ≤ len ∧ j = .int .i64 (i : Int) ∧ ∃ F A gh oh ch gc oc cc st g, SpAt w wr p b F A gh oh ch gc oc cc st g) (fun j _ => len - (intOf j).toNat)
    case atStart => exact ⟨0, by omega, rfl, _, _, _, _, _, _, _, _, _, _, HT0.out⟩
    case round =>
      obtain ⟨i, hi, rfl, F, A, gh, oh, ch, gc, oc, cc, st, g, hT⟩ := hrel
      rename World => wr
      clear HT0
      by_cases hil : i < len
      · obtain ⟨hoki, ba, off, ha, hba, k0, k1, k2, k3, k4⟩ := HC.out wr i hT.up hil
        subst ha
        have HT := Lib.hid hT
        have hib : (i : Int) < (len : Int) := by omega
        have hwr : IntKind.i64.wrap ((i : Int) + 1) = (i : Int) + 1 := IntWalk.i64_in _ (by omega)
        have hl1 := nestLf.lt hT.a
        have hw2F : wr.heap.size ∉ F := fun hm => by have := hl1 _ hm; omega
        have y0 := hT.c1.1
        have y1 := hT.c1.2
        have hbl := hT.lt
        have hnb : b ≠ wr.heap.size := by omega
        have kd1 := fun W (hW : Upd [] wr W) => do_open (K := nestLf) (X := [b]) (nestLf.upd hT.a hW (by simp)) (hT.r.upd0 hW) (fun x hx => by
          have := hW.size
          simp at hx; subst hx; omega) (f i) hoki
        simp only [lf_ty] at kd1
        clear hT hl1
        go_wp2_with (first
          | ((go_at_call 25; (with_reducible refine (kd1 _ (by (repeat (first | assumption | exact Upd.refl _ _ | refine Upd.alloc ?_ _ | refine Upd.drew ?_ | refine Upd.drewN ?_ _ | refine Upd.setCell ?_ ?_ _ | focus (left; simp; done) | focus (right; simp; done) | focus (right; simp; omega))))).mono ?_)); rintro e w3 ⟨F3, gh3, oh3, ch3, gc3, oc3, cc3, rfl, hA3, hR3, hu3, hf3⟩; (have u13 : Upd F wr w3 := Upd.trans ((Upd.refl F wr).alloc _) hu3); (have z0 := u13.kept HT.out.c1.1 HT.out.bF); (have z1 := u13.kept HT.out.c1.2 HT.out.bF); (have zf0 := u13.keptF HT.out.c1.1 HT.out.bF HT.out.z1.1); (have zf1 := u13.keptF HT.out.c1.2 HT.out.bF HT.out.z1.2); (have q1 : w3.cell? ⟨wr.heap.size, 1, none⟩ = some (.int .i64 (f i).h) := hu3.kept (by go_simp) hw2F); (have q2 : w3.cell? ⟨wr.heap.size, 2, none⟩ = some (.int .i64 (f i).x) := hu3.kept (by go_simp) hw2F); (have hz3 := hu3.size); (have hwl3 : wr.heap.size < w3.heap.size := by (rw [World.size_alloc] at hz3; omega)); (have hbl3 : b < w3.heap.size := by omega); (have hf3b : ∀ x, x ∈ F3 → x ∈ F ∨ wr.heap.size ≤ x := fun x hx => by (rcases hf3 x hx with h' | h'; exact Or.inl h'; right; rw [World.size_alloc] at h'; omega)); (have hbF3 : b ∉ F3 := fun hm => by (rcases hf3b _ hm with h' | h'; exact HT.out.bF h'; omega)); (have ks := fun W (hW : Upd [b] w3 W) => spineK_any (nestLf.upd hA3 hW (fun x hx => by simp at hx; subst hx; exact hbF3)) (f i).h); (have km := fun W (hW : Upd [b] w3 W) => rmin_any (⟨gh3, oh3, ch3, gc3, oc3, cc3, rfl, hR3.upd (hW.mono (by simp))⟩ : RefAt W ([b] ++ F3) (refV gh3 oh3 ch3 gc3 oc3 cc3 (doN A (f i))) (doN A (f i))) (nestLf.ok hA3) (f i).h); (unfold refV at km); clear kd1 y0 y1)
          | ((go_at_call 26; (with_reducible refine (ks _ (by (repeat (first | assumption | exact Upd.refl _ _ | refine Upd.alloc ?_ _ | refine Upd.drew ?_ | refine Upd.drewN ?_ _ | refine Upd.setCell ?_ ?_ _ | focus (left; simp; done) | focus (right; simp; done) | focus (right; simp; omega))))).mono ?_)); rintro e w6 ⟨bs, vs, rfl, hbs, hos, hu6⟩; obtain ⟨a9, c9, hv9, hc9⟩ := own_slice hos; subst hv9; (have hbs3 : w3.heap.size ≤ bs := Nat.le_trans (Upd.size (S := [b]) (w := w3) (by (repeat (first | assumption | exact Upd.refl _ _ | refine Upd.alloc ?_ _ | refine Upd.drew ?_ | refine Upd.drewN ?_ _ | refine Upd.setCell ?_ ?_ _ | focus (left; simp; done) | focus (right; simp; done) | focus (right; simp; omega))))) hbs); (have hv6 : Upd [b] w3 w6 := Upd.trans (by (repeat (first | assumption | exact Upd.refl _ _ | refine Upd.alloc ?_ _ | refine Upd.drew ?_ | refine Upd.drewN ?_ _ | refine Upd.setCell ?_ ?_ _ | focus (left; simp; done) | focus (right; simp; done) | focus (right; simp; omega)))) (hu6.mono (by simp))); (have y0 : w6.cell? ⟨b, 0, none⟩ = some (.slice (some ⟨gh3, oh3, none⟩) (doN A (f i)).hs.length ch3) := hu6.was (by go_simp)); (have y1 : w6.cell? ⟨b, 1, none⟩ = some (.slice (some ⟨gc3, oc3, none⟩) (doN A (f i)).cs.length cc3) := hu6.was (by go_simp)); (have yf0 : w6.frozen? ⟨b, 0, none⟩ = false := hu6.keptF (v := .slice (some ⟨gh3, oh3, none⟩) (doN A (f i)).hs.length ch3) (by go_simp) (by simp) (by go_simp)); (have yf1 : w6.frozen? ⟨b, 1, none⟩ = false := hu6.keptF (v := .slice (some ⟨gc3, oc3, none⟩) (doN A (f i)).cs.length cc3) (by go_simp) (by simp) (by go_simp)); (have p1 : w6.cell? ⟨wr.heap.size, 1, none⟩ = some (.int .i64 (f i).h) := hu6.was (by go_simp)); (have p2 : w6.cell? ⟨wr.heap.size, 2, none⟩ = some (.int .i64 (f i).x) := hu6.was (by go_simp)))
          | ((go_at_call 27; (with_reducible refine (km _ hv6).mono ?_)); rintro e w7 ⟨rfl, hu7⟩)
          | fail)
        have hv7 : Upd [b] w3 w7 := hv6.trans (hu7.mono (by simp))
        have told := sp_told hA3 (f i).h
        have hA3lt := nestLf.lt hA3
        have okA := nestLf.ok hA3
        have hs6 := sp_sl (F := F3) hos (fun x hx => by have := hA3lt x hx; omega)
        generalize hL : spL (doN A (f i)) (nestLf.next A (f i) g) (f i).h = L at *
        have hs7 : SlI w7 F3 (.slice a9 L.length c9) (natsZ L) := hs6.fresh (hu7.mono (by simp)) (fun x hx => Or.inl hx)
        have hA7 := nestLf.upd hA3 hv7 (fun x hx => by simp at hx; subst hx; exact hbF3)
        have hR7 := hR3.upd (hv7.mono (by simp))
        have hwF3 : wr.heap.size ∉ F3 := fun hm => by
          rcases hf3 _ hm with h' | h'
          · exact hw2F h'
          · rw [World.size_alloc] at h'; omega
        have hT8 := fun (W : World) (hW : Upd F3 w7 W) st' g' (hA : nestLf.at_ W p F3 (doN A (f i)) st' g') => HT.out.fin u13 hf3b hR7 hv7 hW hA ⟨hu7.was y0, hu7.was y1⟩ ⟨hu7.keptF y0 (by simp) yf0, hu7.keptF y1 (by simp) yf1⟩
        have HT8 := Lib.hid hT8
        have r0 : ∀ W, Upd F3 w7 W → W.cell? ⟨b, 0, none⟩ = some (.slice (some ⟨gh3, oh3, none⟩) (doN A (f i)).hs.length ch3) := fun W hW => hW.kept (hu7.was y0) hbF3
        have r1 : ∀ W, Upd F3 w7 W → W.cell? ⟨b, 1, none⟩ = some (.slice (some ⟨gc3, oc3, none⟩) (doN A (f i)).cs.length cc3) := fun W hW => hW.kept (hu7.was y1) hbF3
        have r2 : ∀ W, Upd F3 w7 W → W.cell? ⟨wr.heap.size, 1, none⟩ = some (.int .i64 (f i).h) := fun W hW => hW.kept (hu7.was p1) hwF3
        have r3 : ∀ W, Upd F3 w7 W → W.cell? ⟨wr.heap.size, 2, none⟩ = some (.int .i64 (f i).x) := fun W hW => hW.kept (hu7.was p2) hwF3
        have hRA : ∀ W, Upd F3 w7 W → RefAt W ([b] ++ F3) (.agg #[.slice (some ⟨gh3, oh3, none⟩) (doN A (f i)).hs.length ch3, .slice (some ⟨gc3, oc3, none⟩) (doN A (f i)).cs.length cc3]) (doN A (f i)) := fun W hW => ⟨gh3, oh3, ch3, gc3, oc3, cc3, rfl, hR7.upd (hW.mono (fun x hx => by simp [hx]))⟩
        have kl := fun W (hW : Upd F3 w7 W) => rlenN_any (hRA W hW) okA (f i).h
        have ki := fun W (hW : Upd F3 w7 W) => rinN_any (hRA W hW) okA (f i).x
        have ka := fun W (hW : Upd F3 w7 W) x y => rahead_any (hRA W hW) okA x y
        have kr := fun W (hW : Upd [] w7 W) => rankK_any (nestLf.upd hA7 hW (by simp)) (f i).x
        have hin : inN (doN A (f i)) (f i).x = decide (0 < rkV (doN A (f i)) (nestLf.next A (f i) g) (f i).x) := by
          have := rkV_pos hA7 (f i).x
          rw [Bool.eq_iff_iff, decide_eq_true_iff]; exact this.symm
        simp only [hin] at ki
        have hlb := lenN_le okA (f i).h
        have hcb := okA.c1
        have kb := fun W => rbits_any (lenN (doN A (f i)) (f i).h : Int) W (by omega) (by omega)
        have tb := told.bits
        have ts := told.some
        have tf := told.first
        have tk := told.rank
        have ta := told.ahead
        have tsm := told.small
        have HK := Lib.hid (And.intro tk ta)
        have HA7 := Lib.hid hA7
        clear told hin hos hs6 HT y0 y1 yf0 yf1 z0 z1 zf0 zf1 q1 q2 p1 p2 hA3 hA7 hR3 hR7 hu3 u13 hf3 hf3b ks km hT8 hlb hcb hRA tk ta hA3lt hbs hbs3 hz3 hwl3 hc9 hL
        generalize lenN (doN A (f i)) (f i).h = m9 at *
        generalize bitsOf (m9 : Int) = b9 at *
        generalize rkV (doN A (f i)) (nestLf.next A (f i) g) (f i).x = rx at kr ki
        have hbits : decide (b9 < (L.length : Int)) = false := by simp; omega
        have HBN := Lib.hid hbF3
        generalize hgn : nestLf.next A (f i) g = gn at *
        generalize hsn : satS st (nestLf.cost A (f i) g) = sn at *
        clear hgn hsn
        go_cut [13, 14, 15, 110] (fun s13 s14 s15 s110 wx => s13 = .slice a9 L.length c9 ∧ s110 = .bool false ∧ SpAt w wx p b F3 (doN A (f i)) gh3 oh3 ch3 gc3 oc3 cc3 sn gn ∧ SlI wx F3 (.slice a9 L.length c9) (natsZ L))
        case first =>
          by_cases h0 : 0 < L.length
          · obtain ⟨g9, o9, rfl, hg9, hcl⟩ := sp_cell hs7 h0
            have r4 : ∀ W, Upd F3 w7 W → W.cell? ⟨g9, o9, none⟩ = some (.int .i64 ((L.getD 0 0 : Nat) : Int)) := fun W hW => hW.kept (by simpa using hcl) hg9
            have hlI : (0 : Int) < (L.length : Int) := by omega
            have hd0 : decide ((0 : Int) < (L.length : Int)) = true := by simpa using h0
            rw [ts, tf h0, decide_eq_true h0]
            have HS7 := Lib.hid hs7
            clear hs7 hcl ts tf tb tsm hbF3
            generalize ((L.getD 0 0 : Nat) : Int) = s0 at *
            first
              | (go_region_held3 (Upd F3 w7) (repeat (first | assumption | exact Upd.refl _ _ | refine Upd.drew ?_ | refine Upd.alloc ?_ _ | (apply Upd.trans; rotate_left; assumption)))
                   (first
                     | (go_at_call 29; (with_reducible refine (kl _ (by (repeat (first | assumption | exact Upd.refl _ _ | refine Upd.drew ?_ | refine Upd.alloc ?_ _ | (apply Upd.trans; rotate_left; assumption))))).mono ?_); rintro e w8 ⟨rfl, hu8⟩; (have hs8 : Upd F3 w7 w8 := Upd.trans (by (repeat (first | assumption | exact Upd.refl _ _ | refine Upd.drew ?_ | refine Upd.alloc ?_ _ | (apply Upd.trans; rotate_left; assumption)))) (hu8.mono (by simp))); (have hz8 : Upd [] w7 w8 := Upd.trans (by (repeat (first | assumption | exact Upd.refl _ _ | refine Upd.drew ?_ | refine Upd.alloc ?_ _ | (apply Upd.trans; rotate_left; assumption)))) hu8))
                     | (go_at_call 28; (with_reducible refine ((kb _)).mono ?_); rintro e w9 ⟨rfl, hw9⟩; rw [hw9]; clear hw9 w9)
                     | (go_at_call 30; (with_reducible refine (kr _ (by (repeat (first | assumption | exact Upd.refl _ _ | refine Upd.drew ?_ | refine Upd.alloc ?_ _ | (apply Upd.trans; rotate_left; assumption))))).mono ?_); rintro e w9 ⟨rfl, hA9, hu9⟩; (have hs9 : Upd F3 w7 w9 := Upd.trans (by (repeat (first | assumption | exact Upd.refl _ _ | refine Upd.drew ?_ | refine Upd.alloc ?_ _ | (apply Upd.trans; rotate_left; assumption)))) hu9))
                     | (go_at_call 31; (with_reducible refine (ki _ (by (repeat (first | assumption | exact Upd.refl _ _ | refine Upd.drew ?_ | refine Upd.alloc ?_ _ | (apply Upd.trans; rotate_left; assumption))))).mono ?_); rintro e w10 ⟨rfl, hu10⟩; (have hs10 : Upd F3 w7 w10 := Upd.trans (by (repeat (first | assumption | exact Upd.refl _ _ | refine Upd.drew ?_ | refine Upd.alloc ?_ _ | (apply Upd.trans; rotate_left; assumption)))) (hu10.mono (by simp))))))
              | fail
            go_wp2
            go_meet
            exact ⟨rfl, by simp, HT8.out _ (by (repeat (first | assumption | exact Upd.refl _ _ | refine Upd.drew ?_ | refine Upd.alloc ?_ _ | (apply Upd.trans; rotate_left; assumption)))) _ _ (nestLf.upd hA9 (show Upd [] w9 _ from by (repeat (first | assumption | exact Upd.refl _ _ | refine Upd.drew ?_ | refine Upd.alloc ?_ _ | (apply Upd.trans; rotate_left; assumption)))) (by simp)), HS7.out.fresh (by (repeat (first | assumption | exact Upd.refl _ _ | refine Upd.drew ?_ | refine Upd.alloc ?_ _ | (apply Upd.trans; rotate_left; assumption)))) (fun x hx => Or.inl hx)⟩
          · obtain rfl : L = [] := List.eq_nil_of_length_eq_zero (by omega)
            have hb9 : decide (b9 < 0) = false := by simpa using hbits
            rw [ts, decide_eq_false h0]
            have HS7 := Lib.hid hs7
            have H0 := Lib.hid h0
            clear hs7 ts tf tb tsm hbF3 h0
            refine wp_region_held_drew (S := Upd F3 w7) (by kernel_rfl) ?hS15 (fun hHeld => ?_)
            case hS15 => exact (by (repeat (first | assumption | exact Upd.refl _ _ | refine Upd.drew ?_ | refine Upd.alloc ?_ _ | (apply Upd.trans; rotate_left; assumption))))
            refine' wpAnyH_take (i := 0) (oi := { dst := some 70, op := Op.move (Operand.tmp 12), type := 4, pos := "law.go:105", after := #[], guard := none }) (v := _) rfl (by kernel_rfl) (by kernel_rfl) (by kernel_rfl) (fun _ _ _ h => h) (Or.inl ⟨by rfl, ?hy15_0⟩) (by assumption) ?_
            case hy15_0 => (intro w hSw; (try dsimp only at hSw); go_simp; try with_reducible rfl)
            try simp only [Act.put, List.setIfInBounds_toArray, List.set_cons_zero, List.set_cons_succ]
            refine' wpAnyH_take (i := 1) (oi := { dst := some 71, op := Op.unOp UnOp.not 4 (Operand.tmp 70), type := 4, pos := "law.go:105", after := #[{ on := 0, ground := Ground.data }], guard := none }) (v := _) rfl (by kernel_rfl) (by kernel_rfl) (by kernel_rfl) (fun _ _ _ h => h) (Or.inl ⟨by rfl, ?hy15_1⟩) (by assumption) ?_
            case hy15_1 => (intro w hSw; (try dsimp only at hSw); go_simp; try with_reducible rfl)
            try simp only [Act.put, List.setIfInBounds_toArray, List.set_cons_zero, List.set_cons_succ]
            refine' wpAnyH_take (i := 2) (oi := { dst := some 72, op := Op.move (Operand.tmp 71), type := 4, pos := "law.go:105", after := #[{ on := 1, ground := Ground.data }], guard := none }) (v := _) rfl (by kernel_rfl) (by kernel_rfl) (by kernel_rfl) (fun _ _ _ h => h) (Or.inl ⟨by rfl, ?hy15_2⟩) (by assumption) ?_
            case hy15_2 => (intro w hSw; (try dsimp only at hSw); go_simp; try with_reducible rfl)
            try simp only [Act.put, List.setIfInBounds_toArray, List.set_cons_zero, List.set_cons_succ]
            refine' wpAnyH_take (i := 3) (oi := { dst := some 73, op := Op.move (Operand.tmp 15), type := 4, pos := "law.go:105", after := #[{ on := 2, ground := Ground.guard }], guard := some (2, false) }) (v := _) rfl (by kernel_rfl) (by kernel_rfl) (by kernel_rfl) (fun _ _ _ h => h) (Or.inl ⟨by rfl, ?hy15_3⟩) (by assumption) ?_
            case hy15_3 => (intro w hSw; (try dsimp only at hSw); go_simp; try with_reducible rfl)
            try simp only [Act.put, List.setIfInBounds_toArray, List.set_cons_zero, List.set_cons_succ]
            refine' wpAnyH_take (i := 4) (oi := { dst := some 74, op := Op.move (Operand.tmp 13), type := 30, pos := "law.go:105", after := #[{ on := 2, ground := Ground.guard }], guard := some (2, false) }) (v := _) rfl (by kernel_rfl) (by kernel_rfl) (by kernel_rfl) (fun _ _ _ h => h) (Or.inl ⟨by rfl, ?hy15_4⟩) (by assumption) ?_
            case hy15_4 => (intro w hSw; (try dsimp only at hSw); go_simp; try with_reducible rfl)
            try simp only [Act.put, List.setIfInBounds_toArray, List.set_cons_zero, List.set_cons_succ]
            refine' wpAnyH_take (i := 5) (oi := { dst := some 75, op := Op.call { callee := Callee.builtin Builtin.len, args := #[Operand.tmp 74], argTypes := #[30] }, type := 3, pos := "law.go:105", after := #[{ on := 4, ground := Ground.data }, { on := 2, ground := Ground.guard }], guard := some (2, false) }) (v := _) rfl (by kernel_rfl) (by kernel_rfl) (by kernel_rfl) (fun _ _ _ h => h) (Or.inl ⟨by rfl, ?hy15_5⟩) (by assumption) ?_
            case hy15_5 => (intro w hSw; (try dsimp only at hSw); go_simp; try with_reducible rfl)
            try simp only [Act.put, List.setIfInBounds_toArray, List.set_cons_zero, List.set_cons_succ]
            refine' wpAnyH_take (i := 6) (oi := { dst := some 76, op := Op.binOp BinOp.gtr 3 (Operand.tmp 75) (Operand.const (Value.int IntKind.i64 0)) 3, type := 4, pos := "law.go:105", after := #[{ on := 5, ground := Ground.data }, { on := 2, ground := Ground.guard }], guard := some (2, false) }) (v := _) rfl (by kernel_rfl) (by kernel_rfl) (by kernel_rfl) (fun _ _ _ h => h) (Or.inl ⟨by rfl, ?hy15_6⟩) (by assumption) ?_
            case hy15_6 => (intro w hSw; (try dsimp only at hSw); go_simp; try with_reducible rfl)
            try simp only [Act.put, List.setIfInBounds_toArray, List.set_cons_zero, List.set_cons_succ]
            refine' wpAnyH_take (i := 7) (oi := { dst := some 77, op := Op.binOp BinOp.neq 4 (Operand.tmp 73) (Operand.tmp 76) 4, type := 4, pos := "law.go:105", after := #[{ on := 3, ground := Ground.data }, { on := 6, ground := Ground.data }, { on := 2, ground := Ground.guard }], guard := some (2, false) }) (v := _) rfl (by kernel_rfl) (by kernel_rfl) (by kernel_rfl) (fun _ _ _ h => h) (Or.inl ⟨by rfl, ?hy15_7⟩) (by assumption) ?_
            case hy15_7 => (intro w hSw; (try dsimp only at hSw); go_simp; try with_reducible rfl)
            try simp only [Act.put, List.setIfInBounds_toArray, List.set_cons_zero, List.set_cons_succ]
            refine' wpAnyH_take (i := 8) (oi := { dst := some 78, op := Op.pick (Operand.tmp 72) (Operand.const (Value.bool true)) (Operand.tmp 77), type := 4, pos := "law.go:105", after := #[{ on := 2, ground := Ground.data }, { on := 7, ground := Ground.data }], guard := none }) (v := _) rfl (by kernel_rfl) (by kernel_rfl) (by kernel_rfl) (fun _ _ _ h => h) (Or.inl ⟨by rfl, ?hy15_8⟩) (by assumption) ?_
            case hy15_8 => (intro w hSw; (try dsimp only at hSw); go_simp; try with_reducible rfl)
            try simp only [Act.put, List.setIfInBounds_toArray, List.set_cons_zero, List.set_cons_succ]
            refine' wpAnyH_take (i := 9) (oi := { dst := some 79, op := Op.move (Operand.tmp 78), type := 4, pos := "law.go:105", after := #[{ on := 8, ground := Ground.data }, { on := 2, ground := Ground.chain }], guard := none }) (v := _) rfl (by kernel_rfl) (by kernel_rfl) (by kernel_rfl) (fun _ _ _ h => h) (Or.inl ⟨by rfl, ?hy15_9⟩) (by assumption) ?_
            case hy15_9 => (intro w hSw; (try dsimp only at hSw); go_simp; try with_reducible rfl)
            try simp only [Act.put, List.setIfInBounds_toArray, List.set_cons_zero, List.set_cons_succ]
            refine' wpAnyH_take (i := 10) (oi := { dst := some 80, op := Op.move (Operand.tmp 13), type := 30, pos := "law.go:105", after := #[{ on := 9, ground := Ground.guard }], guard := some (9, false) }) (v := _) rfl (by kernel_rfl) (by kernel_rfl) (by kernel_rfl) (fun _ _ _ h => h) (Or.inl ⟨by rfl, ?hy15_10⟩) (by assumption) ?_
            case hy15_10 => (intro w hSw; (try dsimp only at hSw); go_simp; try with_reducible rfl)
            try simp only [Act.put, List.setIfInBounds_toArray, List.set_cons_zero, List.set_cons_succ]
            refine' wpAnyH_take (i := 11) (oi := { dst := some 81, op := Op.call { callee := Callee.builtin Builtin.len, args := #[Operand.tmp 80], argTypes := #[30] }, type := 3, pos := "law.go:105", after := #[{ on := 10, ground := Ground.data }, { on := 9, ground := Ground.guard }], guard := some (9, false) }) (v := _) rfl (by kernel_rfl) (by kernel_rfl) (by kernel_rfl) (fun _ _ _ h => h) (Or.inl ⟨by rfl, ?hy15_11⟩) (by assumption) ?_
            case hy15_11 => (intro w hSw; (try dsimp only at hSw); go_simp; try with_reducible rfl)
            try simp only [Act.put, List.setIfInBounds_toArray, List.set_cons_zero, List.set_cons_succ]
            refine' wpAnyH_take (i := 12) (oi := { dst := some 82, op := Op.load 55 (Operand.tmp 8), type := 55, pos := "law.go:105", after := #[{ on := 9, ground := Ground.guard }], guard := some (9, false) }) (v := _) rfl (by kernel_rfl) (by kernel_rfl) (by kernel_rfl) (fun _ _ _ h => h) (Or.inl ⟨by rfl, ?hy15_12⟩) (by assumption) ?_
            case hy15_12 => (intro w hSw; (try dsimp only at hSw); go_simp; try with_reducible rfl)
            try simp only [Act.put, List.setIfInBounds_toArray, List.set_cons_zero, List.set_cons_succ]
            refine' wpAnyH_take (i := 13) (oi := { dst := some 83, op := Op.fieldAddr 61 (Operand.tmp 10) 1, type := 0, pos := "law.go:105", after := #[{ on := 9, ground := Ground.guard }], guard := some (9, false) }) (v := _) rfl (by kernel_rfl) (by kernel_rfl) (by kernel_rfl) (fun _ _ _ h => h) (Or.inl ⟨by rfl, ?hy15_13⟩) (by assumption) ?_
            case hy15_13 => (intro w hSw; (try dsimp only at hSw); go_simp; try with_reducible rfl)
            try simp only [Act.put, List.setIfInBounds_toArray, List.set_cons_zero, List.set_cons_succ]
            refine' wpAnyH_take (i := 14) (oi := { dst := some 84, op := Op.load 3 (Operand.tmp 83), type := 3, pos := "law.go:105", after := #[{ on := 13, ground := Ground.data }, { on := 9, ground := Ground.guard }], guard := some (9, false) }) (v := _) rfl (by kernel_rfl) (by kernel_rfl) (by kernel_rfl) (fun _ _ _ h => h) (Or.inl ⟨by rfl, ?hy15_14⟩) (by assumption) ?_
            case hy15_14 => (intro w hSw; (try dsimp only at hSw); go_simp; try with_reducible rfl)
            try simp only [Act.put, List.setIfInBounds_toArray, List.set_cons_zero, List.set_cons_succ]
            refine wpAnyH_ready (rs := [15]) (by kernel_rfl) (by simp) ?_
            refine AllReadyH.cons (o := { dst := some 85, op := Op.call { callee := Callee.value (Operand.func 29), args := #[Operand.tmp 82, Operand.tmp 84], argTypes := #[55, 3] }, type := 3, pos := "law.go:105", after := #[{ on := 12, ground := Ground.data }, { on := 14, ground := Ground.data }, { on := 9, ground := Ground.chain }, { on := 9, ground := Ground.guard }], guard := some (9, false) }) rfl (fun K hK => ?_) AllReadyH.nil
            go_simp
            (go_at_call 29; (with_reducible refine (kl _ (by (repeat (first | assumption | exact Upd.refl _ _ | refine Upd.drew ?_ | refine Upd.alloc ?_ _ | (apply Upd.trans; rotate_left; assumption))))).mono ?_); rintro e w8 ⟨rfl, hu8⟩; (have hs8 : Upd F3 w7 w8 := Upd.trans (by (repeat (first | assumption | exact Upd.refl _ _ | refine Upd.drew ?_ | refine Upd.alloc ?_ _ | (apply Upd.trans; rotate_left; assumption)))) (hu8.mono (by simp))); (have hz8 : Upd [] w7 w8 := Upd.trans (by (repeat (first | assumption | exact Upd.refl _ _ | refine Upd.drew ?_ | refine Upd.alloc ?_ _ | (apply Upd.trans; rotate_left; assumption)))) hu8))
            refine hK.out _ _ ?hS15_15 (fun hHeld => ?_)
            case hS15_15 => exact (by (repeat (first | assumption | exact Upd.refl _ _ | refine Upd.drew ?_ | refine Upd.alloc ?_ _ | (apply Upd.trans; rotate_left; assumption))))
            clear hK K
            try simp only [Act.put, List.setIfInBounds_toArray, List.set_cons_zero, List.set_cons_succ]
            refine wpAnyH_ready (rs := [16]) (by kernel_rfl) (by simp) ?_
            refine AllReadyH.cons (o := { dst := some 86, op := Op.call { callee := Callee.value (Operand.func 28), args := #[Operand.tmp 85], argTypes := #[3] }, type := 3, pos := "law.go:105", after := #[{ on := 15, ground := Ground.data }, { on := 15, ground := Ground.chain }, { on := 9, ground := Ground.guard }], guard := some (9, false) }) rfl (fun K hK => ?_) AllReadyH.nil
            go_simp
            (go_at_call 28; (with_reducible refine ((kb _)).mono ?_); rintro e w9 ⟨rfl, hw9⟩; rw [hw9]; clear hw9 w9)
            refine hK.out _ _ ?hS15_16 (fun hHeld => ?_)
            case hS15_16 => exact (by (repeat (first | assumption | exact Upd.refl _ _ | refine Upd.drew ?_ | refine Upd.alloc ?_ _ | (apply Upd.trans; rotate_left; assumption))))
            clear hK K
            try simp only [Act.put, List.setIfInBounds_toArray, List.set_cons_zero, List.set_cons_succ]
            refine' wpAnyH_take (i := 17) (oi := { dst := some 87, op := Op.binOp BinOp.gtr 3 (Operand.tmp 81) (Operand.tmp 86) 3, type := 4, pos := "law.go:105", after := #[{ on := 11, ground := Ground.data }, { on := 16, ground := Ground.data }, { on := 9, ground := Ground.guard }], guard := some (9, false) }) (v := _) rfl (by kernel_rfl) (by kernel_rfl) (by kernel_rfl) (fun _ _ _ h => h) (Or.inl ⟨by rfl, ?hy15_17⟩) (by assumption) ?_
            case hy15_17 => (intro w hSw; (try dsimp only at hSw); go_simp; try with_reducible rfl)
            try simp only [Act.put, List.setIfInBounds_toArray, List.set_cons_zero, List.set_cons_succ]
            refine' wpAnyH_take (i := 18) (oi := { dst := some 88, op := Op.pick (Operand.tmp 79) (Operand.const (Value.bool true)) (Operand.tmp 87), type := 4, pos := "law.go:105", after := #[{ on := 9, ground := Ground.data }, { on := 17, ground := Ground.data }], guard := none }) (v := _) rfl (by kernel_rfl) (by kernel_rfl) (by kernel_rfl) (fun _ _ _ h => h) (Or.inl ⟨by rfl, ?hy15_18⟩) (by assumption) ?_
            case hy15_18 => (intro w hSw; (try dsimp only at hSw); go_simp; try with_reducible rfl)
            try simp only [Act.put, List.setIfInBounds_toArray, List.set_cons_zero, List.set_cons_succ]
            refine' wpAnyH_take (i := 19) (oi := { dst := some 89, op := Op.move (Operand.tmp 88), type := 4, pos := "law.go:105", after := #[{ on := 18, ground := Ground.data }, { on := 16, ground := Ground.chain }], guard := none }) (v := _) rfl (by kernel_rfl) (by kernel_rfl) (by kernel_rfl) (fun _ _ _ h => h) (Or.inl ⟨by rfl, ?hy15_19⟩) (by assumption) ?_
            case hy15_19 => (intro w hSw; (try dsimp only at hSw); go_simp; try with_reducible rfl)
            try simp only [Act.put, List.setIfInBounds_toArray, List.set_cons_zero, List.set_cons_succ]
            refine' wpAnyH_take (i := 20) (oi := { dst := some 90, op := Op.move (Operand.tmp 15), type := 4, pos := "law.go:105", after := #[{ on := 19, ground := Ground.guard }], guard := some (19, false) }) (v := _) rfl (by kernel_rfl) (by kernel_rfl) (by kernel_rfl) (fun _ _ _ h => h) (Or.inl ⟨by rfl, ?hy15_20⟩) (by assumption) ?_
            case hy15_20 => (intro w hSw; (try dsimp only at hSw); go_simp; try with_reducible rfl)
            try simp only [Act.put, List.setIfInBounds_toArray, List.set_cons_zero, List.set_cons_succ]
            refine' wpAnyH_take (i := 21) (oi := { dst := some 91, op := Op.move (Operand.tmp 90), type := 4, pos := "law.go:105", after := #[{ on := 20, ground := Ground.data }, { on := 19, ground := Ground.chain }, { on := 19, ground := Ground.guard }], guard := some (19, false) }) (v := _) rfl (by kernel_rfl) (by kernel_rfl) (by kernel_rfl) (fun _ _ _ h => h) (Or.inl ⟨by rfl, ?hy15_21⟩) (by assumption) ?_
            case hy15_21 => (intro w hSw; (try dsimp only at hSw); go_simp; try with_reducible rfl)
            try simp only [Act.put, List.setIfInBounds_toArray, List.set_cons_zero, List.set_cons_succ]
            refine' wpAnyH_take (i := 22) (oi := { dst := some 92, op := Op.move (Operand.tmp 13), type := 30, pos := "law.go:105", after := #[{ on := 21, ground := Ground.guard }], guard := some (21, true) }) (v := _) rfl (by kernel_rfl) (by kernel_rfl) (by kernel_rfl) (fun _ _ _ h => h) (Or.inr ⟨by rfl, rfl⟩) (by assumption) ?_
            try simp only [Act.put, List.setIfInBounds_toArray, List.set_cons_zero, List.set_cons_succ]
            refine' wpAnyH_take (i := 23) (oi := { dst := some 93, op := Op.indexAddr 30 (Operand.tmp 92) (Operand.const (Value.int IntKind.i64 0)), type := 0, pos := "law.go:105", after := #[{ on := 22, ground := Ground.data }, { on := 21, ground := Ground.guard }], guard := some (21, true) }) (v := _) rfl (by kernel_rfl) (by kernel_rfl) (by kernel_rfl) (fun _ _ _ h => h) (Or.inr ⟨by rfl, rfl⟩) (by assumption) ?_
            try simp only [Act.put, List.setIfInBounds_toArray, List.set_cons_zero, List.set_cons_succ]
            refine' wpAnyH_take (i := 24) (oi := { dst := some 94, op := Op.load 3 (Operand.tmp 93), type := 3, pos := "law.go:105", after := #[{ on := 23, ground := Ground.data }, { on := 21, ground := Ground.guard }], guard := some (21, true) }) (v := _) rfl (by kernel_rfl) (by kernel_rfl) (by kernel_rfl) (fun _ _ _ h => h) (Or.inr ⟨by rfl, rfl⟩) (by assumption) ?_
            try simp only [Act.put, List.setIfInBounds_toArray, List.set_cons_zero, List.set_cons_succ]
            refine' wpAnyH_take (i := 25) (oi := { dst := some 95, op := Op.move (Operand.tmp 14), type := 3, pos := "law.go:105", after := #[{ on := 21, ground := Ground.guard }], guard := some (21, true) }) (v := _) rfl (by kernel_rfl) (by kernel_rfl) (by kernel_rfl) (fun _ _ _ h => h) (Or.inr ⟨by rfl, rfl⟩) (by assumption) ?_
            try simp only [Act.put, List.setIfInBounds_toArray, List.set_cons_zero, List.set_cons_succ]
            refine' wpAnyH_take (i := 26) (oi := { dst := some 96, op := Op.binOp BinOp.neq 3 (Operand.tmp 94) (Operand.tmp 95) 3, type := 4, pos := "law.go:105", after := #[{ on := 24, ground := Ground.data }, { on := 25, ground := Ground.data }, { on := 21, ground := Ground.guard }], guard := some (21, true) }) (v := _) rfl (by kernel_rfl) (by kernel_rfl) (by kernel_rfl) (fun _ _ _ h => h) (Or.inr ⟨by rfl, rfl⟩) (by assumption) ?_
            try simp only [Act.put, List.setIfInBounds_toArray, List.set_cons_zero, List.set_cons_succ]
            refine' wpAnyH_take (i := 27) (oi := { dst := some 97, op := Op.pick (Operand.tmp 91) (Operand.tmp 96) (Operand.const (Value.bool false)), type := 4, pos := "law.go:105", after := #[{ on := 21, ground := Ground.data }, { on := 26, ground := Ground.data }, { on := 19, ground := Ground.guard }], guard := some (19, false) }) (v := _) rfl (by kernel_rfl) (by kernel_rfl) (by kernel_rfl) (fun _ _ _ h => h) (Or.inl ⟨by rfl, ?hy15_27⟩) (by assumption) ?_
            case hy15_27 => (intro w hSw; (try dsimp only at hSw); go_simp; try with_reducible rfl)
            try simp only [Act.put, List.setIfInBounds_toArray, List.set_cons_zero, List.set_cons_succ]
            refine' wpAnyH_take (i := 28) (oi := { dst := some 98, op := Op.pick (Operand.tmp 89) (Operand.const (Value.bool true)) (Operand.tmp 97), type := 4, pos := "law.go:105", after := #[{ on := 19, ground := Ground.data }, { on := 27, ground := Ground.data }], guard := none }) (v := _) rfl (by kernel_rfl) (by kernel_rfl) (by kernel_rfl) (fun _ _ _ h => h) (Or.inl ⟨by rfl, ?hy15_28⟩) (by assumption) ?_
            case hy15_28 => (intro w hSw; (try dsimp only at hSw); go_simp; try with_reducible rfl)
            try simp only [Act.put, List.setIfInBounds_toArray, List.set_cons_zero, List.set_cons_succ]
            refine' wpAnyH_take (i := 29) (oi := { dst := some 99, op := Op.move (Operand.tmp 98), type := 4, pos := "law.go:105", after := #[{ on := 28, ground := Ground.data }, { on := 21, ground := Ground.chain }], guard := none }) (v := _) rfl (by kernel_rfl) (by kernel_rfl) (by kernel_rfl) (fun _ _ _ h => h) (Or.inl ⟨by rfl, ?hy15_29⟩) (by assumption) ?_
            case hy15_29 => (intro w hSw; (try dsimp only at hSw); go_simp; try with_reducible rfl)
            try simp only [Act.put, List.setIfInBounds_toArray, List.set_cons_zero, List.set_cons_succ]
            refine' wpAnyH_take (i := 30) (oi := { dst := some 100, op := Op.move (Operand.tmp 6), type := 23, pos := "law.go:105", after := #[{ on := 29, ground := Ground.guard }], guard := some (29, false) }) (v := _) rfl (by kernel_rfl) (by kernel_rfl) (by kernel_rfl) (fun _ _ _ h => h) (Or.inl ⟨by rfl, ?hy15_30⟩) (by assumption) ?_
            case hy15_30 => (intro w hSw; (try dsimp only at hSw); go_simp; try with_reducible rfl)
            try simp only [Act.put, List.setIfInBounds_toArray, List.set_cons_zero, List.set_cons_succ]
            refine' wpAnyH_take (i := 31) (oi := { dst := some 101, op := Op.fieldAddr 61 (Operand.tmp 10) 2, type := 0, pos := "law.go:105", after := #[{ on := 29, ground := Ground.guard }], guard := some (29, false) }) (v := _) rfl (by kernel_rfl) (by kernel_rfl) (by kernel_rfl) (fun _ _ _ h => h) (Or.inl ⟨by rfl, ?hy15_31⟩) (by assumption) ?_
            case hy15_31 => (intro w hSw; (try dsimp only at hSw); go_simp; try with_reducible rfl)
            try simp only [Act.put, List.setIfInBounds_toArray, List.set_cons_zero, List.set_cons_succ]
            refine' wpAnyH_take (i := 32) (oi := { dst := some 102, op := Op.load 3 (Operand.tmp 101), type := 3, pos := "law.go:105", after := #[{ on := 31, ground := Ground.data }, { on := 29, ground := Ground.guard }], guard := some (29, false) }) (v := _) rfl (by kernel_rfl) (by kernel_rfl) (by kernel_rfl) (fun _ _ _ h => h) (Or.inl ⟨by rfl, ?hy15_32⟩) (by assumption) ?_
            case hy15_32 => (intro w hSw; (try dsimp only at hSw); go_simp; try with_reducible rfl)
            try simp only [Act.put, List.setIfInBounds_toArray, List.set_cons_zero, List.set_cons_succ]
            refine' wpAnyH_take (i := 35) (oi := { dst := some 105, op := Op.load 55 (Operand.tmp 8), type := 55, pos := "law.go:105", after := #[{ on := 29, ground := Ground.guard }], guard := some (29, false) }) (v := _) rfl (by kernel_rfl) (by kernel_rfl) (by kernel_rfl) (fun _ _ _ h => h) (Or.inl ⟨by rfl, ?hy15_35⟩) (by assumption) ?_
            case hy15_35 => (intro w hSw; (try dsimp only at hSw); go_simp; try with_reducible rfl)
            try simp only [Act.put, List.setIfInBounds_toArray, List.set_cons_zero, List.set_cons_succ]
            refine' wpAnyH_take (i := 36) (oi := { dst := some 106, op := Op.fieldAddr 61 (Operand.tmp 10) 2, type := 0, pos := "law.go:105", after := #[{ on := 29, ground := Ground.guard }], guard := some (29, false) }) (v := _) rfl (by kernel_rfl) (by kernel_rfl) (by kernel_rfl) (fun _ _ _ h => h) (Or.inl ⟨by rfl, ?hy15_36⟩) (by assumption) ?_
            case hy15_36 => (intro w hSw; (try dsimp only at hSw); go_simp; try with_reducible rfl)
            try simp only [Act.put, List.setIfInBounds_toArray, List.set_cons_zero, List.set_cons_succ]
            refine' wpAnyH_take (i := 37) (oi := { dst := some 107, op := Op.load 3 (Operand.tmp 106), type := 3, pos := "law.go:105", after := #[{ on := 36, ground := Ground.data }, { on := 29, ground := Ground.guard }], guard := some (29, false) }) (v := _) rfl (by kernel_rfl) (by kernel_rfl) (by kernel_rfl) (fun _ _ _ h => h) (Or.inl ⟨by rfl, ?hy15_37⟩) (by assumption) ?_
            case hy15_37 => (intro w hSw; (try dsimp only at hSw); go_simp; try with_reducible rfl)
            try simp only [Act.put, List.setIfInBounds_toArray, List.set_cons_zero, List.set_cons_succ]
            refine wpAnyH_ready (rs := [33]) (by kernel_rfl) (by simp) ?_
            refine AllReadyH.cons (o := { dst := some 103, op := Op.call { callee := Callee.value (Operand.func 30), args := #[Operand.tmp 100, Operand.tmp 102], argTypes := #[23, 3] }, type := 3, pos := "law.go:105", after := #[{ on := 30, ground := Ground.data }, { on := 32, ground := Ground.data }, { on := 29, ground := Ground.chain }, { on := 29, ground := Ground.guard }], guard := some (29, false) }) rfl (fun K hK => ?_) AllReadyH.nil
            go_simp
            (go_at_call 30; (with_reducible refine (kr _ (by (repeat (first | assumption | exact Upd.refl _ _ | refine Upd.drew ?_ | refine Upd.alloc ?_ _ | (apply Upd.trans; rotate_left; assumption))))).mono ?_); rintro e w9 ⟨rfl, hA9, hu9⟩; (have hs9 : Upd F3 w7 w9 := Upd.trans (by (repeat (first | assumption | exact Upd.refl _ _ | refine Upd.drew ?_ | refine Upd.alloc ?_ _ | (apply Upd.trans; rotate_left; assumption)))) hu9))
            refine hK.out _ _ ?hS15_33 (fun hHeld => ?_)
            case hS15_33 => exact (by (repeat (first | assumption | exact Upd.refl _ _ | refine Upd.drew ?_ | refine Upd.alloc ?_ _ | (apply Upd.trans; rotate_left; assumption))))
            clear hK K
            try simp only [Act.put, List.setIfInBounds_toArray, List.set_cons_zero, List.set_cons_succ]
            refine' wpAnyH_take (i := 34) (oi := { dst := some 104, op := Op.binOp BinOp.gtr 3 (Operand.tmp 103) (Operand.const (Value.int IntKind.i64 0)) 3, type := 4, pos := "law.go:105", after := #[{ on := 33, ground := Ground.data }, { on := 29, ground := Ground.guard }], guard := some (29, false) }) (v := _) rfl (by kernel_rfl) (by kernel_rfl) (by kernel_rfl) (fun _ _ _ h => h) (Or.inl ⟨by rfl, ?hy15_34⟩) (by assumption) ?_
            case hy15_34 => (intro w hSw; (try dsimp only at hSw); go_simp; try with_reducible rfl)
            try simp only [Act.put, List.setIfInBounds_toArray, List.set_cons_zero, List.set_cons_succ]
            refine wpAnyH_ready (rs := [38]) (by kernel_rfl) (by simp) ?_
            refine AllReadyH.cons (o := { dst := some 108, op := Op.call { callee := Callee.value (Operand.func 31), args := #[Operand.tmp 105, Operand.tmp 107], argTypes := #[55, 3] }, type := 4, pos := "law.go:105", after := #[{ on := 35, ground := Ground.data }, { on := 37, ground := Ground.data }, { on := 33, ground := Ground.chain }, { on := 29, ground := Ground.guard }], guard := some (29, false) }) rfl (fun K hK => ?_) AllReadyH.nil
            go_simp
            (go_at_call 31; (with_reducible refine (ki _ (by (repeat (first | assumption | exact Upd.refl _ _ | refine Upd.drew ?_ | refine Upd.alloc ?_ _ | (apply Upd.trans; rotate_left; assumption))))).mono ?_); rintro e w10 ⟨rfl, hu10⟩; (have hs10 : Upd F3 w7 w10 := Upd.trans (by (repeat (first | assumption | exact Upd.refl _ _ | refine Upd.drew ?_ | refine Upd.alloc ?_ _ | (apply Upd.trans; rotate_left; assumption)))) (hu10.mono (by simp))))
            refine hK.out _ _ ?hS15_38 (fun hHeld => ?_)
            case hS15_38 => exact (by (repeat (first | assumption | exact Upd.refl _ _ | refine Upd.drew ?_ | refine Upd.alloc ?_ _ | (apply Upd.trans; rotate_left; assumption))))
            clear hK K
            try simp only [Act.put, List.setIfInBounds_toArray, List.set_cons_zero, List.set_cons_succ]
            refine' wpAnyH_take (i := 39) (oi := { dst := some 109, op := Op.binOp BinOp.neq 4 (Operand.tmp 104) (Operand.tmp 108) 4, type := 4, pos := "law.go:105", after := #[{ on := 34, ground := Ground.data }, { on := 38, ground := Ground.data }, { on := 29, ground := Ground.guard }], guard := some (29, false) }) (v := _) rfl (by kernel_rfl) (by kernel_rfl) (by kernel_rfl) (fun _ _ _ h => h) (Or.inl ⟨by rfl, ?hy15_39⟩) (by assumption) ?_
            case hy15_39 => (intro w hSw; (try dsimp only at hSw); go_simp; try with_reducible rfl)
            try simp only [Act.put, List.setIfInBounds_toArray, List.set_cons_zero, List.set_cons_succ]
            refine' wpAnyH_take (i := 40) (oi := { dst := some 110, op := Op.pick (Operand.tmp 99) (Operand.const (Value.bool true)) (Operand.tmp 109), type := 4, pos := "law.go:105", after := #[{ on := 29, ground := Ground.data }, { on := 39, ground := Ground.data }], guard := none }) (v := _) rfl (by kernel_rfl) (by kernel_rfl) (by kernel_rfl) (fun _ _ _ h => h) (Or.inl ⟨by rfl, ?hy15_40⟩) (by assumption) ?_
            case hy15_40 => (intro w hSw; (try dsimp only at hSw); go_simp; try with_reducible rfl)
            try simp only [Act.put, List.setIfInBounds_toArray, List.set_cons_zero, List.set_cons_succ]
            refine wpAnyH_done (by kernel_rfl) ?_ _
            go_wp2
            go_meet
            exact ⟨rfl, by simp, HT8.out _ (by (repeat (first | assumption | exact Upd.refl _ _ | refine Upd.drew ?_ | refine Upd.alloc ?_ _ | (apply Upd.trans; rotate_left; assumption)))) _ _ (nestLf.upd hA9 (show Upd [] w9 _ from by (repeat (first | assumption | exact Upd.refl _ _ | refine Upd.drew ?_ | refine Upd.alloc ?_ _ | (apply Upd.trans; rotate_left; assumption)))) (by simp)), HS7.out.fresh (by (repeat (first | assumption | exact Upd.refl _ _ | refine Upd.drew ?_ | refine Upd.alloc ?_ _ | (apply Upd.trans; rotate_left; assumption)))) (fun x hx => Or.inl hx)⟩
        case rest =>
          obtain ⟨rfl, rfl, hT9, hs9⟩ := hcut
          have HT9 := Lib.hid hT9
          have HS9 := Lib.hid hs9
          clear hT9 hs9 HT8 hs7 kl ka kr ki kb r0 r1 r2 r3 hbits ts tf tb HA7 hv7 hwF3 hbF3 hu7 hv6 hu6
          go_wp2
          go_loopw [113] (fun j W => ∃ i2 : Nat, i2 ≤ L.length ∧ j = .int .i64 (i2 : Int) ∧ SpAt w W p b F3 (doN A (f i)) gh3 oh3 ch3 gc3 oc3 cc3 sn gn ∧ SlI W F3 (.slice a9 L.length c9) (natsZ L)) (fun j _ => L.length - (intOf j).toNat)
          case atStart => exact ⟨0, by omega, rfl, HT9.out, HS9.out⟩
          case round =>
            obtain ⟨i2, hi2, rfl, hT2, hs2⟩ := hrel
            rename World => wl
            clear HT9 HS9
            by_cases hlt : i2 < L.length
            · obtain ⟨g9, o9, rfl, hg9, hc⟩ := sp_cell hs2 hlt
              have hA2 := hT2.a
              have y0 := hT2.c1.1
              have y1 := hT2.c1.2
              have hrk := HK.out.1 i2 hlt
              have kr2 := fun W (hW : Upd [] wl W) => rankK_any (nestLf.upd hA2 hW (by simp)) ((L.getD i2 0 : Nat) : Int)
              simp only [hrk] at kr2
              have hRA : ∀ W, Upd F3 wl W → RefAt W ([b] ++ F3) (.agg #[.slice (some ⟨gh3, oh3, none⟩) (doN A (f i)).hs.length ch3, .slice (some ⟨gc3, oc3, none⟩) (doN A (f i)).cs.length cc3]) (doN A (f i)) := fun W hW => ⟨gh3, oh3, ch3, gc3, oc3, cc3, rfl, hT2.r.upd (hW.mono (fun x hx => by simp [hx]))⟩
              have r0 : ∀ W, Upd F3 wl W → W.cell? ⟨b, 0, none⟩ = some (.slice (some ⟨gh3, oh3, none⟩) (doN A (f i)).hs.length ch3) := fun W hW => hW.kept y0 hT2.bF
              have r1 : ∀ W, Upd F3 wl W → W.cell? ⟨b, 1, none⟩ = some (.slice (some ⟨gc3, oc3, none⟩) (doN A (f i)).cs.length cc3) := fun W hW => hW.kept y1 hT2.bF
              have hw2 : IntKind.i64.wrap ((L.length : Int) - (i2 : Int)) = (L.length : Int) - (i2 : Int) := IntWalk.i64_in _ (by omega)
              have hw3 : IntKind.i64.wrap ((i2 : Int) + 1) = (i2 : Int) + 1 := IntWalk.i64_in _ (by omega)
              have hib2 : (i2 : Int) < (L.length : Int) := by omega
              have HT2 := Lib.hid hT2
              have HS2 := Lib.hid hs2
              clear hT2 hs2 hA2 y0 y1 hrk
              rcases Nat.eq_zero_or_pos i2 with h0 | h0
              · have hd0 : decide ((0 : Int) < (i2 : Int)) = false := decide_eq_false (by omega)
                have hd1 : decide (0 < i2) = false := decide_eq_false (by omega)
                have H0 := Lib.hid h0
                clear h0 hRA
                generalize ((L.getD i2 0 : Nat) : Int) = x2 at *
                go_wp2
                refine wp_region_held_drew (S := Upd F3 wl) (by kernel_rfl) ?hS20 (fun hHeld => ?_)
                case hS20 => exact (by (repeat (first | assumption | exact Upd.refl _ _ | refine Upd.drew ?_ | refine Upd.alloc ?_ _ | (apply Upd.trans; rotate_left; assumption))))
                refine' wpAnyH_take (i := 0) (oi := { dst := some 118, op := Op.move (Operand.tmp 6), type := 23, pos := "law.go:109", after := #[], guard := none }) (v := _) rfl (by kernel_rfl) (by kernel_rfl) (by kernel_rfl) (fun _ _ _ h => h) (Or.inl ⟨by rfl, ?hy20_0⟩) (by assumption) ?_
                case hy20_0 => (intro w hSw; (try dsimp only at hSw); go_simp; try with_reducible rfl)
                try simp only [Act.put, List.setIfInBounds_toArray, List.set_cons_zero, List.set_cons_succ]
                refine' wpAnyH_take (i := 1) (oi := { dst := some 119, op := Op.move (Operand.tmp 17), type := 3, pos := "law.go:109", after := #[], guard := none }) (v := _) rfl (by kernel_rfl) (by kernel_rfl) (by kernel_rfl) (fun _ _ _ h => h) (Or.inl ⟨by rfl, ?hy20_1⟩) (by assumption) ?_
                case hy20_1 => (intro w hSw; (try dsimp only at hSw); go_simp; try with_reducible rfl)
                try simp only [Act.put, List.setIfInBounds_toArray, List.set_cons_zero, List.set_cons_succ]
                refine' wpAnyH_take (i := 3) (oi := { dst := some 121, op := Op.move (Operand.tmp 13), type := 30, pos := "law.go:109", after := #[], guard := none }) (v := _) rfl (by kernel_rfl) (by kernel_rfl) (by kernel_rfl) (fun _ _ _ h => h) (Or.inl ⟨by rfl, ?hy20_3⟩) (by assumption) ?_
                case hy20_3 => (intro w hSw; (try dsimp only at hSw); go_simp; try with_reducible rfl)
                try simp only [Act.put, List.setIfInBounds_toArray, List.set_cons_zero, List.set_cons_succ]
                refine' wpAnyH_take (i := 4) (oi := { dst := some 122, op := Op.call { callee := Callee.builtin Builtin.len, args := #[Operand.tmp 121], argTypes := #[30] }, type := 3, pos := "law.go:109", after := #[{ on := 3, ground := Ground.data }], guard := none }) (v := _) rfl (by kernel_rfl) (by kernel_rfl) (by kernel_rfl) (fun _ _ _ h => h) (Or.inl ⟨by rfl, ?hy20_4⟩) (by assumption) ?_
                case hy20_4 => (intro w hSw; (try dsimp only at hSw); go_simp; try with_reducible rfl)
                try simp only [Act.put, List.setIfInBounds_toArray, List.set_cons_zero, List.set_cons_succ]
                refine' wpAnyH_take (i := 5) (oi := { dst := some 123, op := Op.move (Operand.tmp 16), type := 3, pos := "law.go:109", after := #[], guard := none }) (v := _) rfl (by kernel_rfl) (by kernel_rfl) (by kernel_rfl) (fun _ _ _ h => h) (Or.inl ⟨by rfl, ?hy20_5⟩) (by assumption) ?_
                case hy20_5 => (intro w hSw; (try dsimp only at hSw); go_simp; try with_reducible rfl)
                try simp only [Act.put, List.setIfInBounds_toArray, List.set_cons_zero, List.set_cons_succ]
                refine' wpAnyH_take (i := 6) (oi := { dst := some 124, op := Op.binOp BinOp.sub 3 (Operand.tmp 122) (Operand.tmp 123) 3, type := 3, pos := "law.go:109", after := #[{ on := 4, ground := Ground.data }, { on := 5, ground := Ground.data }], guard := none }) (v := _) rfl (by kernel_rfl) (by kernel_rfl) (by kernel_rfl) (fun _ _ _ h => h) (Or.inl ⟨by rfl, ?hy20_6⟩) (by assumption) ?_
                case hy20_6 => (intro w hSw; (try dsimp only at hSw); go_simp; try with_reducible rfl)
                try simp only [Act.put, List.setIfInBounds_toArray, List.set_cons_zero, List.set_cons_succ]
                refine wpAnyH_ready (rs := [2]) (by kernel_rfl) (by simp) ?_
                refine AllReadyH.cons (o := { dst := some 120, op := Op.call { callee := Callee.value (Operand.func 30), args := #[Operand.tmp 118, Operand.tmp 119], argTypes := #[23, 3] }, type := 3, pos := "law.go:109", after := #[{ on := 0, ground := Ground.data }, { on := 1, ground := Ground.data }], guard := none }) rfl (fun K hK => ?_) AllReadyH.nil
                go_simp
                (go_at_call 30; (with_reducible refine (kr2 _ (by (repeat (first | assumption | exact Upd.refl _ _ | refine Upd.drew ?_ | refine Upd.alloc ?_ _ | (apply Upd.trans; rotate_left; assumption))))).mono ?_); rintro e w9 ⟨rfl, hA9, hu9⟩; (have hs9 : Upd F3 wl w9 := Upd.trans (by (repeat (first | assumption | exact Upd.refl _ _ | refine Upd.drew ?_ | refine Upd.alloc ?_ _ | (apply Upd.trans; rotate_left; assumption)))) hu9))
                refine hK.out _ _ ?hS20_2 (fun hHeld => ?_)
                case hS20_2 => exact (by (repeat (first | assumption | exact Upd.refl _ _ | refine Upd.drew ?_ | refine Upd.alloc ?_ _ | (apply Upd.trans; rotate_left; assumption))))
                clear hK K
                try simp only [Act.put, List.setIfInBounds_toArray, List.set_cons_zero, List.set_cons_succ]
                refine' wpAnyH_take (i := 7) (oi := { dst := some 125, op := Op.binOp BinOp.neq 3 (Operand.tmp 120) (Operand.tmp 124) 3, type := 4, pos := "law.go:109", after := #[{ on := 2, ground := Ground.data }, { on := 6, ground := Ground.data }], guard := none }) (v := _) rfl (by kernel_rfl) (by kernel_rfl) (by kernel_rfl) (fun _ _ _ h => h) (Or.inl ⟨by rfl, ?hy20_7⟩) (by assumption) ?_
                case hy20_7 => (intro w hSw; (try dsimp only at hSw); go_simp; try with_reducible rfl)
                try simp only [Act.put, List.setIfInBounds_toArray, List.set_cons_zero, List.set_cons_succ]
                refine' wpAnyH_take (i := 8) (oi := { dst := some 126, op := Op.move (Operand.tmp 125), type := 4, pos := "law.go:109", after := #[{ on := 7, ground := Ground.data }, { on := 2, ground := Ground.chain }], guard := none }) (v := _) rfl (by kernel_rfl) (by kernel_rfl) (by kernel_rfl) (fun _ _ _ h => h) (Or.inl ⟨by rfl, ?hy20_8⟩) (by assumption) ?_
                case hy20_8 => (intro w hSw; (try dsimp only at hSw); go_simp; try with_reducible rfl)
                try simp only [Act.put, List.setIfInBounds_toArray, List.set_cons_zero, List.set_cons_succ]
                refine' wpAnyH_take (i := 9) (oi := { dst := some 127, op := Op.move (Operand.tmp 16), type := 3, pos := "law.go:109", after := #[{ on := 8, ground := Ground.guard }], guard := some (8, false) }) (v := _) rfl (by kernel_rfl) (by kernel_rfl) (by kernel_rfl) (fun _ _ _ h => h) (Or.inl ⟨by rfl, ?hy20_9⟩) (by assumption) ?_
                case hy20_9 => (intro w hSw; (try dsimp only at hSw); go_simp; try with_reducible rfl)
                try simp only [Act.put, List.setIfInBounds_toArray, List.set_cons_zero, List.set_cons_succ]
                refine' wpAnyH_take (i := 10) (oi := { dst := some 128, op := Op.binOp BinOp.gtr 3 (Operand.tmp 127) (Operand.const (Value.int IntKind.i64 0)) 3, type := 4, pos := "law.go:109", after := #[{ on := 9, ground := Ground.data }, { on := 8, ground := Ground.guard }], guard := some (8, false) }) (v := _) rfl (by kernel_rfl) (by kernel_rfl) (by kernel_rfl) (fun _ _ _ h => h) (Or.inl ⟨by rfl, ?hy20_10⟩) (by assumption) ?_
                case hy20_10 => (intro w hSw; (try dsimp only at hSw); go_simp; try with_reducible rfl)
                try simp only [Act.put, List.setIfInBounds_toArray, List.set_cons_zero, List.set_cons_succ]
                refine' wpAnyH_take (i := 11) (oi := { dst := some 129, op := Op.move (Operand.tmp 128), type := 4, pos := "law.go:109", after := #[{ on := 10, ground := Ground.data }, { on := 8, ground := Ground.chain }, { on := 8, ground := Ground.guard }], guard := some (8, false) }) (v := _) rfl (by kernel_rfl) (by kernel_rfl) (by kernel_rfl) (fun _ _ _ h => h) (Or.inl ⟨by rfl, ?hy20_11⟩) (by assumption) ?_
                case hy20_11 => (intro w hSw; (try dsimp only at hSw); go_simp; try with_reducible rfl)
                try simp only [Act.put, List.setIfInBounds_toArray, List.set_cons_zero, List.set_cons_succ]
                refine' wpAnyH_take (i := 12) (oi := { dst := some 130, op := Op.load 55 (Operand.tmp 8), type := 55, pos := "law.go:109", after := #[{ on := 11, ground := Ground.guard }], guard := some (11, true) }) (v := _) rfl (by kernel_rfl) (by kernel_rfl) (by kernel_rfl) (fun _ _ _ h => h) (Or.inr ⟨by rfl, rfl⟩) (by assumption) ?_
                try simp only [Act.put, List.setIfInBounds_toArray, List.set_cons_zero, List.set_cons_succ]
                refine' wpAnyH_take (i := 13) (oi := { dst := some 131, op := Op.move (Operand.tmp 13), type := 30, pos := "law.go:109", after := #[{ on := 11, ground := Ground.guard }], guard := some (11, true) }) (v := _) rfl (by kernel_rfl) (by kernel_rfl) (by kernel_rfl) (fun _ _ _ h => h) (Or.inr ⟨by rfl, rfl⟩) (by assumption) ?_
                try simp only [Act.put, List.setIfInBounds_toArray, List.set_cons_zero, List.set_cons_succ]
                refine' wpAnyH_take (i := 14) (oi := { dst := some 132, op := Op.move (Operand.tmp 16), type := 3, pos := "law.go:109", after := #[{ on := 11, ground := Ground.guard }], guard := some (11, true) }) (v := _) rfl (by kernel_rfl) (by kernel_rfl) (by kernel_rfl) (fun _ _ _ h => h) (Or.inr ⟨by rfl, rfl⟩) (by assumption) ?_
                try simp only [Act.put, List.setIfInBounds_toArray, List.set_cons_zero, List.set_cons_succ]
                refine' wpAnyH_take (i := 15) (oi := { dst := some 133, op := Op.binOp BinOp.sub 3 (Operand.tmp 132) (Operand.const (Value.int IntKind.i64 1)) 3, type := 3, pos := "law.go:109", after := #[{ on := 14, ground := Ground.data }, { on := 11, ground := Ground.guard }], guard := some (11, true) }) (v := _) rfl (by kernel_rfl) (by kernel_rfl) (by kernel_rfl) (fun _ _ _ h => h) (Or.inr ⟨by rfl, rfl⟩) (by assumption) ?_
                try simp only [Act.put, List.setIfInBounds_toArray, List.set_cons_zero, List.set_cons_succ]
                refine' wpAnyH_take (i := 16) (oi := { dst := some 134, op := Op.indexAddr 30 (Operand.tmp 131) (Operand.tmp 133), type := 0, pos := "law.go:109", after := #[{ on := 13, ground := Ground.data }, { on := 15, ground := Ground.data }, { on := 11, ground := Ground.guard }], guard := some (11, true) }) (v := _) rfl (by kernel_rfl) (by kernel_rfl) (by kernel_rfl) (fun _ _ _ h => h) (Or.inr ⟨by rfl, rfl⟩) (by assumption) ?_
                try simp only [Act.put, List.setIfInBounds_toArray, List.set_cons_zero, List.set_cons_succ]
                refine' wpAnyH_take (i := 17) (oi := { dst := some 135, op := Op.load 3 (Operand.tmp 134), type := 3, pos := "law.go:109", after := #[{ on := 16, ground := Ground.data }, { on := 11, ground := Ground.guard }], guard := some (11, true) }) (v := _) rfl (by kernel_rfl) (by kernel_rfl) (by kernel_rfl) (fun _ _ _ h => h) (Or.inr ⟨by rfl, rfl⟩) (by assumption) ?_
                try simp only [Act.put, List.setIfInBounds_toArray, List.set_cons_zero, List.set_cons_succ]
                refine' wpAnyH_take (i := 18) (oi := { dst := some 136, op := Op.move (Operand.tmp 17), type := 3, pos := "law.go:109", after := #[{ on := 11, ground := Ground.guard }], guard := some (11, true) }) (v := _) rfl (by kernel_rfl) (by kernel_rfl) (by kernel_rfl) (fun _ _ _ h => h) (Or.inr ⟨by rfl, rfl⟩) (by assumption) ?_
                try simp only [Act.put, List.setIfInBounds_toArray, List.set_cons_zero, List.set_cons_succ]
                refine' wpAnyH_take (i := 19) (oi := { dst := some 137, op := Op.call { callee := Callee.value (Operand.func 32), args := #[Operand.tmp 130, Operand.tmp 135, Operand.tmp 136], argTypes := #[55, 3, 3] }, type := 4, pos := "law.go:109", after := #[{ on := 12, ground := Ground.data }, { on := 17, ground := Ground.data }, { on := 18, ground := Ground.data }, { on := 11, ground := Ground.chain }, { on := 11, ground := Ground.guard }], guard := some (11, true) }) (v := _) rfl (by kernel_rfl) (by kernel_rfl) (by kernel_rfl) (fun _ _ _ h => h) (Or.inr ⟨by rfl, rfl⟩) (by assumption) ?_
                try simp only [Act.put, List.setIfInBounds_toArray, List.set_cons_zero, List.set_cons_succ]
                refine' wpAnyH_take (i := 20) (oi := { dst := some 138, op := Op.unOp UnOp.not 4 (Operand.tmp 137), type := 4, pos := "law.go:109", after := #[{ on := 19, ground := Ground.data }, { on := 11, ground := Ground.guard }], guard := some (11, true) }) (v := _) rfl (by kernel_rfl) (by kernel_rfl) (by kernel_rfl) (fun _ _ _ h => h) (Or.inr ⟨by rfl, rfl⟩) (by assumption) ?_
                try simp only [Act.put, List.setIfInBounds_toArray, List.set_cons_zero, List.set_cons_succ]
                refine' wpAnyH_take (i := 21) (oi := { dst := some 139, op := Op.pick (Operand.tmp 129) (Operand.tmp 138) (Operand.const (Value.bool false)), type := 4, pos := "law.go:109", after := #[{ on := 11, ground := Ground.data }, { on := 20, ground := Ground.data }, { on := 8, ground := Ground.guard }], guard := some (8, false) }) (v := _) rfl (by kernel_rfl) (by kernel_rfl) (by kernel_rfl) (fun _ _ _ h => h) (Or.inl ⟨by rfl, ?hy20_21⟩) (by assumption) ?_
                case hy20_21 => (intro w hSw; (try dsimp only at hSw); go_simp; try with_reducible rfl)
                try simp only [Act.put, List.setIfInBounds_toArray, List.set_cons_zero, List.set_cons_succ]
                refine' wpAnyH_take (i := 22) (oi := { dst := some 140, op := Op.pick (Operand.tmp 126) (Operand.const (Value.bool true)) (Operand.tmp 139), type := 4, pos := "law.go:109", after := #[{ on := 8, ground := Ground.data }, { on := 21, ground := Ground.data }], guard := none }) (v := _) rfl (by kernel_rfl) (by kernel_rfl) (by kernel_rfl) (fun _ _ _ h => h) (Or.inl ⟨by rfl, ?hy20_22⟩) (by assumption) ?_
                case hy20_22 => (intro w hSw; (try dsimp only at hSw); go_simp; try with_reducible rfl)
                try simp only [Act.put, List.setIfInBounds_toArray, List.set_cons_zero, List.set_cons_succ]
                refine wpAnyH_done (by kernel_rfl) ?_ _
                go_wp2
                go_roundw
                case rel => exact ⟨i2 + 1, by omega, by go_num, HT2.out.upd (by (repeat (first | assumption | exact Upd.refl _ _ | refine Upd.drew ?_ | refine Upd.alloc ?_ _ | (apply Upd.trans; rotate_left; assumption)))) (nestLf.upd hA9 (show Upd [] w9 _ from by (repeat (first | assumption | exact Upd.refl _ _ | refine Upd.drew ?_ | refine Upd.alloc ?_ _ | (apply Upd.trans; rotate_left; assumption)))) (by simp)), HS2.out.fresh (by (repeat (first | assumption | exact Upd.refl _ _ | refine Upd.drew ?_ | refine Upd.alloc ?_ _ | (apply Upd.trans; rotate_left; assumption)))) (fun x hx => Or.inl hx)⟩
                case measure => simp [intOf]; omega
              · obtain ⟨i3, hi3⟩ : ∃ i3, i2 = i3 + 1 := ⟨i2 - 1, by omega⟩
                have hd0 : decide ((0 : Int) < (i2 : Int)) = true := decide_eq_true (by omega)
                have hd1 : decide (0 < i2) = true := decide_eq_true (by omega)
                obtain ⟨g8, o8, e8, _, hcp⟩ := sp_cell HS2.out (show i3 < L.length by omega)
                cases e8
                have hah := HK.out.2 i3 (by omega)
                rw [← hi3] at hah
                have hw4 : IntKind.i64.wrap ((i2 : Int) - 1) = (i3 : Int) := by rw [show (i2 : Int) - 1 = i3 by omega]; exact IntWalk.i64_in _ (by omega)
                have hib3 : (i3 : Int) < (L.length : Int) := by omega
                have r4 : ∀ W, Upd F3 wl W → W.cell? ⟨g9, o9 + i3, none⟩ = some (.int .i64 ((L.getD i3 0 : Nat) : Int)) := fun W hW => hW.kept hcp hg9
                have ka2 := fun W (hW : Upd F3 wl W) => rahead_any (hRA W hW) okA ((L.getD i3 0 : Nat) : Int) ((L.getD i2 0 : Nat) : Int)
                simp only [hah] at ka2
                have H0 := Lib.hid h0
                have H3 := Lib.hid hi3
                clear h0 hRA hcp hah hi3
                generalize ((L.getD i2 0 : Nat) : Int) = x2 at *
                generalize ((L.getD i3 0 : Nat) : Int) = x3 at *
                go_wp2
                first
                  | (go_region_held3 (Upd F3 wl) (repeat (first | assumption | exact Upd.refl _ _ | refine Upd.drew ?_ | refine Upd.alloc ?_ _ | (apply Upd.trans; rotate_left; assumption)))
                       (first
                         | (go_at_call 30; (with_reducible refine (kr2 _ (by (repeat (first | assumption | exact Upd.refl _ _ | refine Upd.drew ?_ | refine Upd.alloc ?_ _ | (apply Upd.trans; rotate_left; assumption))))).mono ?_); rintro e w9 ⟨rfl, hA9, hu9⟩; (have hs9 : Upd F3 wl w9 := Upd.trans (by (repeat (first | assumption | exact Upd.refl _ _ | refine Upd.drew ?_ | refine Upd.alloc ?_ _ | (apply Upd.trans; rotate_left; assumption)))) hu9))
                         | (go_at_call 32; (with_reducible refine (ka2 _ (by (repeat (first | assumption | exact Upd.refl _ _ | refine Upd.drew ?_ | refine Upd.alloc ?_ _ | (apply Upd.trans; rotate_left; assumption))))).mono ?_); rintro e w10 ⟨rfl, hu10⟩; (have hs10 : Upd F3 wl w10 := Upd.trans (by (repeat (first | assumption | exact Upd.refl _ _ | refine Upd.drew ?_ | refine Upd.alloc ?_ _ | (apply Upd.trans; rotate_left; assumption)))) (hu10.mono (by simp))))))
                  | fail
                go_wp2
                go_roundw
                case rel => exact ⟨i2 + 1, by omega, by go_num, HT2.out.upd (by (repeat (first | assumption | exact Upd.refl _ _ | refine Upd.drew ?_ | refine Upd.alloc ?_ _ | (apply Upd.trans; rotate_left; assumption)))) (nestLf.upd hA9 (show Upd [] w9 _ from by (repeat (first | assumption | exact Upd.refl _ _ | refine Upd.drew ?_ | refine Upd.alloc ?_ _ | (apply Upd.trans; rotate_left; assumption)))) (by simp)), HS2.out.fresh (by (repeat (first | assumption | exact Upd.refl _ _ | refine Upd.drew ?_ | refine Upd.alloc ?_ _ | (apply Upd.trans; rotate_left; assumption)))) (fun x hx => Or.inl hx)⟩
                case measure => simp [intOf]; omega
            · obtain rfl : i2 = L.length := by omega
              have HT2 := Lib.hid hT2
              clear hT2 hs2
              go_wp2
              exact ⟨⟨i + 1, by omega, by go_num, F3, doN A (f i), gh3, oh3, ch3, gc3, oc3, cc3, sn, gn, HT2.out⟩, by simp [intOf]; omega⟩
      · obtain rfl : i = len := by omega
        have hup := hT.up
        clear hT
        go_wp2
        go_ret
        exact ⟨rfl, hup⟩
  · have hb1 : (len : Int) > 90 := by omega
    go_enter Try.func7, Try.ntmps7
    go_wp2_with (first
      | ((go_at_call 15; (with_reducible refine (lalive_any _).mono ?_)); rintro e w1 ⟨rfl, hu1⟩)
      | ((go_at_call 16; (with_reducible refine (kn w1).mono ?_)); rintro e w2 ⟨p, F, rfl, hK, hu2, hF⟩)
      | fail)
    go_ret
    exact ⟨by first | rfl | exact ret_bool (by simp; omega), hu1.trans hu2⟩
end Go.Proofs.Ytechoojcgdjcdaa
