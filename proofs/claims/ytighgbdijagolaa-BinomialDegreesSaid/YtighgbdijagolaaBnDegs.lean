/-
  The law BinomialDegrees: its walk. Conditions: those of each lemma.
-/
import Derived.Test.YtighgbdijagolaaBnAlive
import Derived.Test.YtighgbdijagolaaRuns
import Derived.Deep.RegionHeldLaw
import Derived.Outline
set_option linter.unusedVariables false
set_option linter.unusedSimpArgs false
namespace Go.Proofs.Ytighgbdijagolaa
open Go Go.RowKit

theorem wp_named {c : Code} {K : Exit → Act → World → Prop} {a : Act} {W : World} (R : World → Prop) (h : R W) (k : ∀ W', R W' → Code.wp Try.prog c K a W') : Code.wp Try.prog c K a W := k W h
set_option maxHeartbeats 1000000 in
theorem rdeg_any (n : Nat) (hn : n ≤ 65536) (w : World) : Calls Try.prog 28 #[.int .i64 (n : Int)] w fun e w' => ∃ v, e = .returned v ∧ w'.ownsRow w.heap.size 3 1 v (natsI (digB 17 0 n)).length (intsZ (natsI (digB 17 0 n))) ∧ Upd [] w w' := by
  have HN := Lib.hid hn
  clear hn
  go_enter Try.func28, Try.ntmps28
  go_wp2
  have ho0 : (w.alloc (.cells #[] 3)).ownsRow w.heap.size 3 1 (.slice (some ⟨w.heap.size, 0, none⟩) 0 0) 0 [] := own_lit w [] 3 w.heap.size 1 0 rfl (Nat.le_refl _) (by unfold maxLen; omega)
  go_loopw [0, 3, 4] (fun s0 s3 s4 wr => ∃ (k m : Nat) (acc : List Nat), k ≤ 17 ∧ s0 = .int .i64 (m : Int) ∧ s4 = .int .i64 (k : Int) ∧ m < 2 ^ (17 - k) ∧ acc ++ digB (17 - k) k m = digB 17 0 n ∧ acc.length ≤ k ∧ wr.ownsRow w.heap.size 3 1 s3 acc.length (intsZ (natsI acc)) ∧ Upd [] w wr) (fun s0 _ _ _ => (intOf s0).toNat)
  case atStart => exact ⟨0, n, [], by omega, rfl, rfl, by have := HN.out; omega, rfl, by simp, by simpa [natsI, intsZ] using ho0, by (repeat (first | assumption | exact Upd.refl _ _ | refine Upd.alloc ?_ _ | refine Upd.drew ?_ | refine Upd.drewN ?_ _ | refine Upd.setCell ?_ ?_ _ | focus (left; simp; done) | focus (right; simp; done) | focus (right; simp; omega)))⟩
  case round =>
    obtain ⟨k, m, acc, hk, rfl, rfl, hm, hacc, hal, ho, hu⟩ := hrel
    rename World => wr
    have hsz := hu.size
    have HO := Lib.hid (And.intro ho hu)
    obtain ⟨a, c, rfl, hc⟩ := own_slice ho
    by_cases h0 : m = 0
    · subst h0
      have e : digB (17 - k) k 0 = [] := by cases 17 - k with | zero => rfl | succ f => rfl
      rw [e, List.append_nil] at hacc
      have HA := Lib.hid hacc
      clear hacc ho
      rw [show (((0 : Nat) : Int)) = 0 from rfl]
      go_wp2
      go_ret
      obtain ⟨ho, hu⟩ := HO.out
      refine ⟨_, rfl, ?_, hu⟩
      rw [← HA.out, show (natsI acc).length = acc.length by simp [natsI]]
      exact ho
    · have hk17 : k < 17 := by
        apply Classical.byContradiction
        intro h
        obtain rfl : k = 17 := by omega
        simp at hm
        omega
      have hmp : (0 : Int) < (m : Int) := by omega
      have hm2 : m / 2 < 2 ^ (17 - (k + 1)) := by
        have : 2 ^ (17 - k) = 2 ^ (17 - (k + 1)) * 2 := by rw [← Nat.pow_succ]; congr 1; omega
        omega
      have hmb : m < 131072 := by
        have : 2 ^ (17 - k) ≤ 2 ^ 17 := Nat.pow_le_pow_right (by omega) (by omega)
        omega
      have hd : digB (17 - k) k m = if m % 2 = 1 then k :: digB (17 - (k + 1)) (k + 1) (m / 2) else digB (17 - (k + 1)) (k + 1) (m / 2) := by
        rw [show 17 - k = (17 - (k + 1)) + 1 by omega]
        show (if m = 0 then _ else _) = _
        rw [if_neg h0]
      have hw1 : IntKind.i64.wrap ((k : Int) + 1) = ((k + 1 : Nat) : Int) := by rw [IntWalk.i64_in _ (by omega)]; omega
      have hq : (m : Int).tdiv 2 = ((m / 2 : Nat) : Int) := by rw [Int.tdiv_eq_ediv_of_nonneg (by omega)]; omega
      have hqw : IntKind.i64.wrap ((m : Int).tdiv 2) = ((m / 2 : Nat) : Int) := by rw [hq]; exact IntWalk.i64_in _ (by omega)
      have hrm : (m : Int).tmod 2 = ((m % 2 : Nat) : Int) := by rw [Int.tmod_eq_emod_of_nonneg (by omega)]; omega
      have HD := Lib.hid (And.intro hacc hd)
      clear hacc hd hm
      rcases (by omega : m % 2 = 1 ∨ m % 2 = 0) with h1 | h1
      · have hre : (m : Int) % 2 = 1 := by omega
        have H1 := Lib.hid h1
        have HM2 := Lib.hid hm2
        clear h1 hrm hm2
        go_wp2_with (first
          | (at_builtin; refine wpList_append_sep rfl _ _ 63 rfl w.heap.size 3 (.int .i64 0) 1 8 Try.underlying63 intInfo rfl (by decide) _ _ _ rfl (ho) [.int .i64 (k : Int)] rfl (by simp [Value.oneCell']) (by first | rfl | (rw [World.size_alloc]; rfl)) (by unfold maxLen; omega) (by omega) ((by omega)) ?_; intro v2 w2 ho2 hu2 hsep2)
          | fail)
        have hh := HD.out
        rw [hh.2, if_pos H1.out] at hh
        refine ⟨⟨k + 1, m / 2, acc ++ [k], by omega, by rw [show ((m : Int) / 2) = ((m / 2 : Nat) : Int) by omega], by go_num, HM2.out, by rw [← hh.1]; simp, by simp; omega, ?_, HO.out.2.own HO.out.1 (Nat.le_refl _) hu2⟩, by simp [intOf]; omega⟩
        have e : natsI (acc ++ [k]) = natsI acc ++ [(k : Int)] := by simp [natsI]
        rw [e, intsZ_append, List.length_append, List.length_singleton]
        exact ho2
      · have hre : (m : Int) % 2 = 0 := by omega
        have hrb : ((m : Int) % 2 == 1) = false := by rw [hre]; rfl
        have H1 := Lib.hid h1
        have HM2 := Lib.hid hm2
        clear h1 hrm hm2 ho
        go_wp2
        have hh := HD.out
        have h1' := H1.out
        rw [hh.2, if_neg (by omega)] at hh
        exact ⟨⟨k + 1, m / 2, acc, by omega, by rw [show ((m : Int) / 2) = ((m / 2 : Nat) : Int) by omega], by go_num, HM2.out, hh.1, by omega, HO.out.1, HO.out.2⟩, by simp [intOf]; omega⟩
structure DgAt (w0 w : World) (p b : Nat) (F : List Nat) (A : NS) (gh oh ch gc oc cc st : Nat) (g : BG) : Prop where
  a : nestBn.at_ w p F A st g
  r : RefM w ([b] ++ F) gh oh ch gc oc cc A
  f : ∀ x, x ∈ F → w0.heap.size ≤ x
  bF : b ∉ F
  lt : b < w.heap.size
  ge : w0.heap.size ≤ b
  c1 : w.cell? ⟨b, 0, none⟩ = some (.slice (some ⟨gh, oh, none⟩) A.hs.length ch) ∧ w.cell? ⟨b, 1, none⟩ = some (.slice (some ⟨gc, oc, none⟩) A.cs.length cc)
  z1 : w.frozen? ⟨b, 0, none⟩ = false ∧ w.frozen? ⟨b, 1, none⟩ = false
  up : Upd [] w0 w
theorem DgAt.fin {w0 w w3 w7 W : World} {p b : Nat} {F F3 : List Nat} {A A' : NS} {gh oh ch gc oc cc st gh3 oh3 ch3 gc3 oc3 cc3 st' : Nat} {g g' : BG} (h : DgAt w0 w p b F A gh oh ch gc oc cc st g) (hu : Upd F w w3) (hf3 : ∀ x, x ∈ F3 → x ∈ F ∨ w.heap.size ≤ x)
    (hR7 : RefM w7 ([b] ++ F3) gh3 oh3 ch3 gc3 oc3 cc3 A') (h37 : Upd [b] w3 w7) (hW : Upd F3 w7 W) (hA : nestBn.at_ W p F3 A' st' g')
    (c1 : w7.cell? ⟨b, 0, none⟩ = some (.slice (some ⟨gh3, oh3, none⟩) A'.hs.length ch3) ∧ w7.cell? ⟨b, 1, none⟩ = some (.slice (some ⟨gc3, oc3, none⟩) A'.cs.length cc3))
    (z1 : w7.frozen? ⟨b, 0, none⟩ = false ∧ w7.frozen? ⟨b, 1, none⟩ = false) : DgAt w0 W p b F3 A' gh3 oh3 ch3 gc3 oc3 cc3 st' g' := by
  have s0 := h.up.size
  have s3 := hu.size
  have s7 := h37.size
  have sW := hW.size
  have hl := h.lt
  have hbF : b ∉ F3 := fun hm => by
    rcases hf3 b hm with h' | h'
    · exact h.bF h'
    · omega
  have hf : ∀ x, x ∈ F3 → w0.heap.size ≤ x := fun x hx => by
    rcases hf3 x hx with h' | h'
    · exact h.f x h'
    · omega
  exact ⟨hA, hR7.upd (hW.mono (fun x hx => by simp [hx])), hf, hbF, by omega, h.ge, ⟨hW.kept c1.1 hbF, hW.kept c1.2 hbF⟩, ⟨hW.keptF c1.1 hbF z1.1, hW.keptF c1.2 hbF z1.2⟩,
    ((h.up.joined hu (fun x hx => Or.inr (h.f x hx))).joined h37 (fun x hx => Or.inr (by simp at hx; subst hx; exact h.ge))).joined hW (fun x hx => Or.inr (hf x hx))⟩
set_option maxHeartbeats 8000000 in
set_option maxRecDepth 10000 in
theorem bndegs_any (n : Int) (v : Value) (len : Nat) (f : Nat → AC) (w : World) (hn : (Lit.int .u8 n).wf = true) (h : ActsN w v len f) : Calls Try.prog 6 #[.int .u8 n, v] w fun e w' => e = .returned (.bool true) ∧ Upd [] w w' := by
  have hb : 0 ≤ n ∧ n < 256 := by simp [Lit.wf, IntKind.min, IntKind.max, IntKind.signed, IntKind.bits] at hn; omega
  clear hn
  obtain ⟨m, rfl⟩ : ∃ m : Nat, n = m := ⟨n.toNat, by omega⟩
  obtain ⟨k, hk, hk2⟩ : ∃ k : Nat, (m : Int) % 60 = k ∧ k < 60 := ⟨m % 60, by omega, by omega⟩
  have kn := fun W => bnewK_yes k W (by omega)
  have hl : len ≤ maxLen := by obtain ⟨a, cap, rfl, hl, _⟩ := h; exact hl
  have H := Lib.hid h
  obtain ⟨a, cap, hv⟩ : ∃ a cap, v = .slice a len cap := by obtain ⟨a, cap, rfl, _⟩ := h; exact ⟨a, cap, rfl⟩
  subst hv
  clear h
  unfold maxLen at hl
  by_cases hbig : len ≤ 90
  · have hb1 : ¬ (len : Int) > 90 := by omega
    have HC : Hid (∀ (W : World) (i : Nat), Upd [] w W → i < len → (f i).Ok ∧ ∃ ba off, a = some ⟨ba, off, none⟩ ∧ ba < w.heap.size ∧ AcAt W ba (off + i * 5) (f i)) := fun W i hW hi => by
      obtain ⟨a2, cap2, e2, _, h2, h3⟩ := H.out
      obtain ⟨b, off, e3, hb3, h4⟩ := h3 (by omega)
      have e4 : a = a2 := by injection e2
      exact ⟨h2 i hi, b, off, by rw [e4, e3], hb3, (h4 i hi).kept hW (by simp)⟩
    go_enter Try.func6, Try.ntmps6
    go_wp2_with (first
      | ((go_at_call 16; (with_reducible refine (balive_any _).mono ?_)); rintro e w1 ⟨rfl, hu1⟩)
      | ((go_at_call 17; (with_reducible refine (kn w1).mono ?_)); rintro e w2 ⟨p, F, rfl, hK, hu2, hF⟩; (have hlt := nestBn.lt hK); (have kr := rnew_any k w2 F hlt (by omega)))
      | ((go_at_call 24; (with_reducible refine (kr).mono ?_)); rintro e w5 ⟨v1, rfl, ⟨gh, oh, ch, gc, oc, cc, rfl, hR1⟩, hu4⟩; (unfold refV))
      | fail)
    have hs2 := hu2.size
    have hs4 := hu4.size
    have hs1 := hu1.size
    have u6 : Upd [] w5 (w5.alloc (.cells #[Value.slice (some ⟨gh, oh, none⟩) (NS.new k).hs.length ch, Value.slice (some ⟨gc, oc, none⟩) (NS.new k).cs.length cc] 53)) := (Upd.refl _ _).alloc _
    have hT0 : DgAt w (w5.alloc (.cells #[Value.slice (some ⟨gh, oh, none⟩) (NS.new k).hs.length ch, Value.slice (some ⟨gc, oc, none⟩) (NS.new k).cs.length cc] 53)) p w5.heap.size F (NS.new k) gh oh ch gc oc cc 0 BG.none := by
      have la := hR1.lt
      refine ⟨nestBn.upd hK (hu4.trans u6) (by simp), (hR1.upd0 u6).add (b := w5.heap.size) (by omega) (by omega), fun x hx => ?_, fun hm => ?_, by simp, by omega, by simp, by simp, (((hu1.trans hu2).trans hu4).trans u6)⟩
      · have := hF x hx; omega
      · have := hlt _ hm; omega
    have HT0 := Lib.hid hT0
    have hdec : decide ((90 : Int) < (len : Int)) = false := by simp; omega
    rw [hdec]
    clear hT0 u6 hK hR1 kn hF hlt kr hu1 hu2 hu4 hdec
    generalize hb8 : w5.heap.size = b at *
    go_loopw [41] (fun j wr => ∃ i : Nat, i ≤ len ∧ j = .int .i64 (i : Int) ∧ ∃ F A gh oh ch gc oc cc st g, DgAt w wr p b F A gh oh ch gc oc cc st g) (fun j _ => len - (intOf j).toNat)
    case atStart => exact ⟨0, by omega, rfl, _, _, _, _, _, _, _, _, _, _, HT0.out⟩
    case round =>
      obtain ⟨i, hi, rfl, F, A, gh, oh, ch, gc, oc, cc, st, g, hT⟩ := hrel
      rename World => wr
      clear HT0
      by_cases hil : i < len
      · obtain ⟨hoki, ba, off, ha, hba, k0, k1, k2, k3, k4⟩ := HC.out wr i hT.up hil
        subst ha
        have HT := Lib.hid hT
        have hib : (i : Int) < (len : Int) := by omega
        have hwr : IntKind.i64.wrap ((i : Int) + 1) = (i : Int) + 1 := IntWalk.i64_in _ (by omega)
        have hl1 := nestBn.lt hT.a
        have hw2F : wr.heap.size ∉ F := fun hm => by have := hl1 _ hm; omega
        have y0 := hT.c1.1
        have y1 := hT.c1.2
        have hbl := hT.lt
        have hnb : b ≠ wr.heap.size := by omega
        have kd1 := fun W (hW : Upd [] wr W) => do_open (K := nestBn) (X := [b]) (nestBn.upd hT.a hW (by simp)) (hT.r.upd0 hW) (fun x hx => by
          have := hW.size
          simp at hx; subst hx; omega) (f i) hoki
        simp only [bn_ty] at kd1
        clear hT hl1
        go_wp2_with (first
          | ((go_at_call 25; (with_reducible refine (kd1 _ (by (repeat (first | assumption | exact Upd.refl _ _ | refine Upd.alloc ?_ _ | refine Upd.drew ?_ | refine Upd.drewN ?_ _ | refine Upd.setCell ?_ ?_ _ | focus (left; simp; done) | focus (right; simp; done) | focus (right; simp; omega))))).mono ?_)); rintro e w3 ⟨F3, gh3, oh3, ch3, gc3, oc3, cc3, rfl, hA3, hR3, hu3, hf3⟩; (have u13 : Upd F wr w3 := Upd.trans ((Upd.refl F wr).alloc _) hu3); (have z0 := u13.kept HT.out.c1.1 HT.out.bF); (have z1 := u13.kept HT.out.c1.2 HT.out.bF); (have zf0 := u13.keptF HT.out.c1.1 HT.out.bF HT.out.z1.1); (have zf1 := u13.keptF HT.out.c1.2 HT.out.bF HT.out.z1.2); (have q1 : w3.cell? ⟨wr.heap.size, 1, none⟩ = some (.int .i64 (f i).h) := hu3.kept (by go_simp) hw2F); (have q2 : w3.cell? ⟨wr.heap.size, 2, none⟩ = some (.int .i64 (f i).x) := hu3.kept (by go_simp) hw2F); (have hz3 := hu3.size); (have hwl3 : wr.heap.size < w3.heap.size := by (rw [World.size_alloc] at hz3; omega)); (have hbl3 : b < w3.heap.size := by omega); (have hf3b : ∀ x, x ∈ F3 → x ∈ F ∨ wr.heap.size ≤ x := fun x hx => by (rcases hf3 x hx with h' | h'; exact Or.inl h'; right; rw [World.size_alloc] at h'; omega)); (have hbF3 : b ∉ F3 := fun hm => by (rcases hf3b _ hm with h' | h'; exact HT.out.bF h'; omega)); clear kd1 y0 y1)
          | fail)
        have hlA := nestBn.lt hA3
        have hwF3 : wr.heap.size ∉ F3 := fun hm => by
          rcases hf3 _ hm with h' | h'
          · exact hw2F h'
          · rw [World.size_alloc] at h'; omega
        have hlA3 : (doN A (f i)).cs.length ≤ 65536 := (nestBn.ok hA3).c1
        refine wp_named (fun W => Upd [b] w3 W ∧ (W.cell? ⟨b, 0, none⟩ = some (.slice (some ⟨gh3, oh3, none⟩) (doN A (f i)).hs.length ch3) ∧ W.cell? ⟨b, 1, none⟩ = some (.slice (some ⟨gc3, oc3, none⟩) (doN A (f i)).cs.length cc3)) ∧ W.frozen? ⟨b, 0, none⟩ = false ∧ W.frozen? ⟨b, 1, none⟩ = false) ?_ ?_
        · exact ⟨by (repeat (first | assumption | exact Upd.refl _ _ | refine Upd.alloc ?_ _ | refine Upd.drew ?_ | refine Upd.drewN ?_ _ | refine Upd.setCell ?_ ?_ _ | focus (left; simp; done) | focus (right; simp; done) | focus (right; simp; omega))), ⟨by go_simp, by go_simp⟩, by go_simp, by go_simp⟩
        rintro w7 ⟨hW7, hc7, hz7⟩
        have hA7 := nestBn.upd hA3 hW7 (fun x hx => by simp at hx; subst hx; exact hbF3)
        have hR7 := hR3.upd (hW7.mono (fun x hx => by simp at hx; subst hx; simp))
        have hK7 : BnK w7 p F3 (doN A (f i)) (satS st (nestBn.cost A (f i) g)) (nestBn.next A (f i) g) := hA7
        have hdig := degsR_dig hK7.2 hK7.ok (f i).h
        have kd := fun W (hW : Upd [] w7 W) => bdeg_any (hK7.upd0 hW) (f i).h
        rw [hdig] at kd
        have kl := fun W (hW : Upd [] w7 W) => rlenN_any (v := .agg #[.slice (some ⟨gh3, oh3, none⟩) (doN A (f i)).hs.length ch3, .slice (some ⟨gc3, oc3, none⟩) (doN A (f i)).cs.length cc3]) ⟨gh3, oh3, ch3, gc3, oc3, cc3, rfl, hR7.upd0 hW⟩ hK7.ok (f i).h
        have hln := lenN_le hK7.ok (f i).h
        have q7 : ∀ W, Upd [] w7 W → W.cell? ⟨wr.heap.size, 1, none⟩ = some (.int .i64 (f i).h) := fun W hW => hW.was (hW7.kept q1 (by simp; omega))
        have b7 : ∀ W, Upd [] w7 W → W.cell? ⟨b, 0, none⟩ = some (.slice (some ⟨gh3, oh3, none⟩) (doN A (f i)).hs.length ch3) := fun W hW => hW.was hc7.1
        have b8 : ∀ W, Upd [] w7 W → W.cell? ⟨b, 1, none⟩ = some (.slice (some ⟨gc3, oc3, none⟩) (doN A (f i)).cs.length cc3) := fun W hW => hW.was hc7.2
        obtain ⟨n, hn⟩ : ∃ n, lenN (doN A (f i)) (f i).h = n := ⟨_, rfl⟩
        rw [hn] at kd kl hln
        have kg := fun W => rdeg_any n hln W
        obtain ⟨zs, hzs⟩ : ∃ zs, natsI (digB 17 0 n) = zs := ⟨_, rfl⟩
        have hzl : (natsI (digB 17 0 n)).length = zs.length := by rw [hzs]
        rw [hzs] at kd
        simp only [hzs] at kg
        have KSM := Lib.hid (fun (W : World) (va vb : Value) (ha : LstAt W 0 va zs.length (intsZ zs)) (hb : LstAt W 0 vb zs.length (intsZ zs)) => rsame_true W 0 va vb zs ha hb)
        have FIN := Lib.hid (fun (W : World) (hW : Upd [] w7 W) => HT.out.fin u13 hf3b hR7 hW7 (hW.mono (by simp)) (nestBn.upd hA7 hW (by simp)) hc7 hz7)
        clear hA3 hR3 hA7 hR7 hK7 hW7 hc7 hz7 hdig hlA hwF3 hf3 hf3b hu3 u13 z0 z1 zf0 zf1 q1 q2 k0 k1 k2 k3 k4 hn hzl hlA3
        go_region_held3 (Upd [] w7) (repeat (first | assumption | exact Upd.refl _ _ | refine Upd.drew ?_ | refine Upd.drewN ?_ _ | (apply Upd.trans; rotate_left; assumption; assumption)))
          (first
            | ((go_at_call 27; (with_reducible refine (kd _ (by (repeat (first | assumption | exact Upd.refl _ _ | refine Upd.drew ?_ | refine Upd.alloc ?_ _ | refine Upd.setCell ?_ ?_ _ | focus (left; simp; done) | focus (right; simp; done) | focus (right; simp; omega) | (apply Upd.trans; rotate_left; assumption))))).mono ?_)); rintro e w8 ⟨v8, rfl, ho8, hu8⟩; (have hq8 : Upd [] w7 w8 := Upd.trans (by (repeat (first | assumption | exact Upd.refl _ _ | refine Upd.drew ?_ | refine Upd.alloc ?_ _ | refine Upd.setCell ?_ ?_ _ | focus (left; simp; done) | focus (right; simp; done) | focus (right; simp; omega) | (apply Upd.trans; rotate_left; assumption)))) hu8); (have L8 : LstAt w8 0 v8 zs.length (intsZ zs) := (LstAt.of_owns ho8).mono (Nat.zero_le _)); obtain ⟨a8, c8, hv8, _⟩ := own_slice ho8; subst hv8; clear ho8)
            | ((go_at_call 29; (with_reducible refine (kl _ (by (repeat (first | assumption | exact Upd.refl _ _ | refine Upd.drew ?_ | refine Upd.alloc ?_ _ | refine Upd.setCell ?_ ?_ _ | focus (left; simp; done) | focus (right; simp; done) | focus (right; simp; omega) | (apply Upd.trans; rotate_left; assumption))))).mono ?_)); rintro e w9 ⟨rfl, hu9⟩; (have hq9 : Upd [] w7 w9 := Upd.trans (by (repeat (first | assumption | exact Upd.refl _ _ | refine Upd.drew ?_ | refine Upd.alloc ?_ _ | refine Upd.setCell ?_ ?_ _ | focus (left; simp; done) | focus (right; simp; done) | focus (right; simp; omega) | (apply Upd.trans; rotate_left; assumption)))) hu9); (have L9 : LstAt w9 0 (.slice a8 zs.length c8) zs.length (intsZ zs) := L8.upd (S := []) (by (repeat (first | assumption | exact Upd.refl _ _ | refine Upd.drew ?_ | refine Upd.alloc ?_ _ | refine Upd.setCell ?_ ?_ _ | focus (left; simp; done) | focus (right; simp; done) | focus (right; simp; omega) | (apply Upd.trans; rotate_left; assumption)))) (by simp)))
            | ((go_at_call 28; (with_reducible refine (kg _).mono ?_)); rintro e w10 ⟨v10, rfl, ho10, hu10⟩; (have hq10 : Upd [] w7 w10 := Upd.trans (by (repeat (first | assumption | exact Upd.refl _ _ | refine Upd.drew ?_ | refine Upd.alloc ?_ _ | refine Upd.setCell ?_ ?_ _ | focus (left; simp; done) | focus (right; simp; done) | focus (right; simp; omega) | (apply Upd.trans; rotate_left; assumption)))) hu10); (have L10 : LstAt w10 0 (.slice a8 zs.length c8) zs.length (intsZ zs) := L9.upd (S := []) (by (repeat (first | assumption | exact Upd.refl _ _ | refine Upd.drew ?_ | refine Upd.alloc ?_ _ | refine Upd.setCell ?_ ?_ _ | focus (left; simp; done) | focus (right; simp; done) | focus (right; simp; omega) | (apply Upd.trans; rotate_left; assumption)))) (by simp)); (have M10 : LstAt w10 0 v10 zs.length (intsZ zs) := (LstAt.of_owns ho10).mono (Nat.zero_le _)); obtain ⟨a10, c10, hv10, _⟩ := own_slice ho10; subst hv10; clear ho10)
            | ((go_at_call 26; (with_reducible refine (KSM.out _ _ _ (by first | exact L10 | exact L10.upd (S := []) (by (repeat (first | assumption | exact Upd.refl _ _ | refine Upd.drew ?_ | refine Upd.alloc ?_ _ | refine Upd.setCell ?_ ?_ _ | focus (left; simp; done) | focus (right; simp; done) | focus (right; simp; omega) | (apply Upd.trans; rotate_left; assumption)))) (by simp)) (by first | exact M10 | exact M10.upd (S := []) (by (repeat (first | assumption | exact Upd.refl _ _ | refine Upd.drew ?_ | refine Upd.alloc ?_ _ | refine Upd.setCell ?_ ?_ _ | focus (left; simp; done) | focus (right; simp; done) | focus (right; simp; omega) | (apply Upd.trans; rotate_left; assumption)))) (by simp))).mono ?_)); rintro e w11 ⟨rfl, n11, rfl⟩))
        go_wp2
        exact ⟨⟨i + 1, by omega, by go_num, F3, _, gh3, oh3, ch3, gc3, oc3, cc3, _, _, FIN.out _ (hq10.drewN _)⟩, by simp [intOf]; omega⟩
      · obtain rfl : i = len := by omega
        have hup := hT.up
        clear hT
        go_wp2
        go_ret
        exact ⟨rfl, hup⟩
  · have hb1 : (len : Int) > 90 := by omega
    go_enter Try.func6, Try.ntmps6
    go_wp2_with (first
      | ((go_at_call 16; (with_reducible refine (balive_any _).mono ?_)); rintro e w1 ⟨rfl, hu1⟩)
      | ((go_at_call 17; (with_reducible refine (kn w1).mono ?_)); rintro e w2 ⟨p, F, rfl, hK, hu2, hF⟩)
      | fail)
    go_ret
    exact ⟨by first | rfl | exact ret_bool (by simp; omega), hu1.trans hu2⟩
end Go.Proofs.Ytighgbdijagolaa
