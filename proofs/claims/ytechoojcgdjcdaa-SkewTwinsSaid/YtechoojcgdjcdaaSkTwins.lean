/-
  The law SkewTwins: its walk. Conditions: those of each lemma.
-/
import Derived.Test.YtechoojcgdjcdaaSkRuns
set_option linter.unusedVariables false
set_option linter.unusedSimpArgs false
namespace Go.Proofs.Ytechoojcgdjcdaa
open Go Go.RowKit

/-- Two nests that hold the same, and the document's two. -/
structure Twins (w0 w : World) (p1 p2 b1 b2 : Nat) (F1 F2 : List Nat) (A : NS) (gh oh ch gc oc cc gh' oh' ch' gc' oc' cc' st : Nat) (g : Nat → BT) : Prop where
  a1 : nestSk.at_ w p1 F1 A st g
  a2 : nestSk.at_ w p2 F2 A st g
  r1 : RefM w ((b1 :: b2 :: F2) ++ F1) gh oh ch gc oc cc A
  r2 : RefM w ((b1 :: b2 :: F1) ++ F2) gh' oh' ch' gc' oc' cc' A
  dis : ∀ x, x ∈ F1 → x ∉ F2
  f1 : ∀ x, x ∈ F1 → w0.heap.size ≤ x
  f2 : ∀ x, x ∈ F2 → w0.heap.size ≤ x
  b1F : b1 ∉ F1 ∧ b1 ∉ F2
  b2F : b2 ∉ F1 ∧ b2 ∉ F2
  ne : b1 ≠ b2
  lt : b1 < w.heap.size ∧ b2 < w.heap.size
  ge : w0.heap.size ≤ b1 ∧ w0.heap.size ≤ b2
  c1 : w.cell? ⟨b1, 0, none⟩ = some (.slice (some ⟨gh, oh, none⟩) A.hs.length ch) ∧ w.cell? ⟨b1, 1, none⟩ = some (.slice (some ⟨gc, oc, none⟩) A.cs.length cc)
  c2 : w.cell? ⟨b2, 0, none⟩ = some (.slice (some ⟨gh', oh', none⟩) A.hs.length ch') ∧ w.cell? ⟨b2, 1, none⟩ = some (.slice (some ⟨gc', oc', none⟩) A.cs.length cc')
  z1 : w.frozen? ⟨b1, 0, none⟩ = false ∧ w.frozen? ⟨b1, 1, none⟩ = false
  z2 : w.frozen? ⟨b2, 0, none⟩ = false ∧ w.frozen? ⟨b2, 1, none⟩ = false
  up : Upd [] w0 w
theorem sk_count {w : World} {p : Nat} {F : List Nat} {A : NS} {st : Nat} {g : Nat → BT} (h : nestSk.at_ w p F A st g) : ∃ c F1, w.cell? ⟨p, 0, none⟩ = some (.pointer (some ⟨c, 0, none⟩)) ∧ p ∈ F ∧ CellsAt w c F1 A st ∧ ∀ x, x ∈ F1 → x ∈ F := by
  obtain ⟨B, F1, rfl, rfl, S, hM, -⟩ := h
  exact ⟨B.c, F1, hM.h0, by simp [SB.blk], hM.cells, fun x hx => by simp [SB.blk, hx]⟩
theorem wp_gen {c : Code} {K : Exit → Act → World → Prop} {a : Act} {W : World} (R : World → Prop) (h : R W) (k : ∀ W', R W' → Code.wp Try.prog c K a W') : Code.wp Try.prog c K a W := k W h
section
variable {w0 w w3 w4 w5 w6 : World} {p1 p2 b1 b2 : Nat} {F1 F2 F3 F4 : List Nat} {A A' : NS} {gh oh ch gc oc cc gh' oh' ch' gc' oc' cc' st st' gh3 oh3 ch3 gc3 oc3 cc3 gh4 oh4 ch4 gc4 oc4 cc4 : Nat} {g g' : Nat → BT}
theorem Twins.mid (h : Twins w0 w p1 p2 b1 b2 F1 F2 A gh oh ch gc oc cc gh' oh' ch' gc' oc' cc' st g) (hu : Upd F1 w w3) (hf3 : ∀ x, x ∈ F3 → x ∈ F1 ∨ w.heap.size ≤ x) : nestSk.at_ w3 p2 F2 A st g ∧ RefM w3 ((b1 :: b2 :: F3) ++ F2) gh' oh' ch' gc' oc' cc' A := by
  refine ⟨nestSk.upd h.a2 hu h.dis, h.r2.fresh (hu.mono (fun x hx => by simp [hx])) (fun x hx => ?_)⟩
  simp only [List.cons_append, List.mem_cons, List.mem_append] at hx ⊢
  rcases hx with rfl | rfl | hx | hx
  · simp
  · simp
  · rcases hf3 x hx with h1 | h1
    · simp [h1]
    · exact Or.inr h1
  · simp [hx]
theorem Twins.fin (h : Twins w0 w p1 p2 b1 b2 F1 F2 A gh oh ch gc oc cc gh' oh' ch' gc' oc' cc' st g) (hu : Upd F1 w w3) (hf3 : ∀ x, x ∈ F3 → x ∈ F1 ∨ w.heap.size ≤ x)
    (hA3 : nestSk.at_ w3 p1 F3 A' st' g') (hR3 : RefM w3 ((b1 :: b2 :: F2) ++ F3) gh3 oh3 ch3 gc3 oc3 cc3 A') (hu4 : Upd [] w3 w4) (hu5 : Upd F2 w4 w5) (hA5 : nestSk.at_ w5 p2 F4 A' st' g') (hR5 : RefM w5 ((b1 :: b2 :: F3) ++ F4) gh4 oh4 ch4 gc4 oc4 cc4 A')
    (hf4 : ∀ x, x ∈ F4 → x ∈ F2 ∨ w4.heap.size ≤ x) (hu6 : Upd [b1, b2] w5 w6)
    (c1 : w6.cell? ⟨b1, 0, none⟩ = some (.slice (some ⟨gh3, oh3, none⟩) A'.hs.length ch3) ∧ w6.cell? ⟨b1, 1, none⟩ = some (.slice (some ⟨gc3, oc3, none⟩) A'.cs.length cc3))
    (c2 : w6.cell? ⟨b2, 0, none⟩ = some (.slice (some ⟨gh4, oh4, none⟩) A'.hs.length ch4) ∧ w6.cell? ⟨b2, 1, none⟩ = some (.slice (some ⟨gc4, oc4, none⟩) A'.cs.length cc4))
    (z1 : w6.frozen? ⟨b1, 0, none⟩ = false ∧ w6.frozen? ⟨b1, 1, none⟩ = false) (z2 : w6.frozen? ⟨b2, 0, none⟩ = false ∧ w6.frozen? ⟨b2, 1, none⟩ = false) :
    Twins w0 w6 p1 p2 b1 b2 F3 F4 A' gh3 oh3 ch3 gc3 oc3 cc3 gh4 oh4 ch4 gc4 oc4 cc4 st' g' := by
  have s3 := hu.size
  have s4 := hu4.size
  have s5 := hu5.size
  have s6 := hu6.size
  have s0 := h.up.size
  have l2 := nestSk.lt h.a2
  have l3 := nestSk.lt hA3
  have hlt := h.lt
  have d23 : ∀ x, x ∈ F2 → x ∉ F3 := fun x hx hm => by
    rcases hf3 x hm with h1 | h1
    · exact h.dis x h1 hx
    · have := l2 x hx; omega
  have bF : ∀ b, b ∉ F1 ∧ b ∉ F2 → b < w.heap.size → b ∉ F3 ∧ b ∉ F4 := fun b hb hl => ⟨fun hm => by
    rcases hf3 b hm with h1 | h1
    · exact hb.1 h1
    · omega, fun hm => by
    rcases hf4 b hm with h1 | h1
    · exact hb.2 h1
    · omega⟩
  have e1 := bF b1 h.b1F hlt.1
  have e2 := bF b2 h.b2F hlt.2
  have g3 : ∀ x, x ∈ F3 → w0.heap.size ≤ x := fun x hx => by
    rcases hf3 x hx with h1 | h1
    · exact h.f1 x h1
    · omega
  have g4 : ∀ x, x ∈ F4 → w0.heap.size ≤ x := fun x hx => by
    rcases hf4 x hx with h1 | h1
    · exact h.f2 x h1
    · omega
  refine ⟨nestSk.upd (nestSk.upd (nestSk.upd hA3 hu4 (by simp)) hu5 d23) hu6 (fun x hx => ?_), nestSk.upd hA5 hu6 (fun x hx => ?_), ?_, hR5.upd (hu6.mono (fun x hx => ?_)), fun x hx hm => ?_, g3, g4, e1, e2, h.ne, by omega, h.ge, c1, c2, z1, z2, ?_⟩
  · simp at hx; rcases hx with rfl | rfl; exact e1.1; exact e2.1
  · simp at hx; rcases hx with rfl | rfl; exact e1.2; exact e2.2
  · refine (hR3.fresh ((hu4.mono (by simp)).trans (hu5.mono (fun x hx => by simp [hx]))) (F' := (b1 :: b2 :: F4) ++ F3) (fun x hx => ?_)).upd (hu6.mono (fun x hx => by simp at hx; rcases hx with rfl | rfl <;> simp))
    simp only [List.cons_append, List.mem_cons, List.mem_append] at hx ⊢
    rcases hx with rfl | rfl | hx | hx
    · simp
    · simp
    · rcases hf4 x hx with h1 | h1
      · simp [h1]
      · right; omega
    · simp [hx]
  · simp at hx; rcases hx with rfl | rfl <;> simp
  · rcases hf4 x hm with h1 | h1
    · exact d23 x h1 hx
    · have := l3 x hx; omega
  · exact (((h.up.joined hu (fun x hx => Or.inr (h.f1 x hx))).trans hu4).joined hu5 (fun x hx => Or.inr (h.f2 x hx))).joined hu6 (fun x hx => by simp at hx; rcases hx with rfl | rfl; exact Or.inr h.ge.1; exact Or.inr h.ge.2)
end
set_option maxHeartbeats 8000000 in
set_option maxRecDepth 10000 in
theorem sktwins_any (n : Int) (v : Value) (len : Nat) (f : Nat → AC) (w : World) (hn : (Lit.int .u8 n).wf = true) (h : ActsN w v len f) : Calls Try.prog 12 #[.int .u8 n, v] w fun e w' => e = .returned (.bool true) ∧ Upd [] w w' := by
  have hb : 0 ≤ n ∧ n < 256 := by simp [Lit.wf, IntKind.min, IntKind.max, IntKind.signed, IntKind.bits] at hn; omega
  clear hn
  obtain ⟨m, rfl⟩ : ∃ m : Nat, n = m := ⟨n.toNat, by omega⟩
  obtain ⟨k, hk, hk2⟩ : ∃ k : Nat, (m : Int) % 30 = k ∧ k < 30 := ⟨m % 30, by omega, by omega⟩
  have kn := fun W => snewK_yes k W (by omega)
  have hl : len ≤ maxLen := by obtain ⟨a, cap, rfl, hl, _⟩ := h; exact hl
  have H := Lib.hid h
  obtain ⟨a, cap, hv⟩ : ∃ a cap, v = .slice a len cap := by obtain ⟨a, cap, rfl, _⟩ := h; exact ⟨a, cap, rfl⟩
  subst hv
  clear h
  unfold maxLen at hl
  by_cases hbig : len ≤ 60
  · have hb1 : ¬ (len : Int) > 60 := by omega
    have HC : Hid (∀ (W : World) (i : Nat), Upd [] w W → i < len → (f i).Ok ∧ ∃ ba off, a = some ⟨ba, off, none⟩ ∧ ba < w.heap.size ∧ AcAt W ba (off + i * 5) (f i)) := fun W i hW hi => by
      obtain ⟨a2, cap2, e2, _, h2, h3⟩ := H.out
      obtain ⟨b, off, e3, hb3, h4⟩ := h3 (by omega)
      have e4 : a = a2 := by injection e2
      exact ⟨h2 i hi, b, off, by rw [e4, e3], hb3, (h4 i hi).kept hW (by simp)⟩
    go_enter Try.func12, Try.ntmps12
    go_wp2_with (first
      | ((go_at_call 35; (with_reducible refine (salive_any _).mono ?_)); rintro e w1 ⟨rfl, hu1⟩)
      | ((go_at_call 36; (with_reducible refine (kn w1).mono ?_)); rintro e w2 ⟨p1, F1, rfl, hK1, hu2, hF1⟩)
      | ((go_at_call 36; (with_reducible refine (kn w2).mono ?_)); rintro e w3 ⟨p2, F2, rfl, hK2, hu3, hF2⟩; (have hlt2 := nestSk.lt hK2); (have hlt1 := nestSk.lt (nestSk.upd hK1 hu3 (by simp))); (have kr := rnew_any k w3 (F2 ++ F1) (fun x hx => by rcases List.mem_append.1 hx with h | h; exact hlt2 x h; exact hlt1 x h) (by omega)))
      | ((go_at_call 24; (with_reducible refine (kr).mono ?_)); rintro e w4 ⟨v1, rfl, ⟨gh, oh, ch, gc, oc, cc, rfl, hR1⟩, hu4⟩; (have kr2 := rnew_any k w4 (F1 ++ F2) (fun x hx => by have := hu4.size; rcases List.mem_append.1 hx with h | h; (have := hlt1 x h; omega); (have := hlt2 x h; omega)) (by omega)); clear kr)
      | ((go_at_call 24; (with_reducible refine (kr2).mono ?_)); rintro e w5 ⟨v2, rfl, ⟨gh', oh', ch', gc', oc', cc', rfl, hR2⟩, hu5⟩; (unfold refV))
      | fail)
    have hs2 := hu2.size
    have hs3 := hu3.size
    have hs4 := hu4.size
    have hs5 := hu5.size
    have hs1 := hu1.size
    have l1 := nestSk.lt hK1
    have u6 : Upd [] w5 ((w5.alloc (.cells #[Value.slice (some ⟨gh, oh, none⟩) (NS.new k).hs.length ch, Value.slice (some ⟨gc, oc, none⟩) (NS.new k).cs.length cc] 55)).alloc (.cells #[Value.slice (some ⟨gh', oh', none⟩) (NS.new k).hs.length ch', Value.slice (some ⟨gc', oc', none⟩) (NS.new k).cs.length cc'] 55)) := ((Upd.refl _ _).alloc _).alloc _
    have hT0 : Twins w ((w5.alloc (.cells #[Value.slice (some ⟨gh, oh, none⟩) (NS.new k).hs.length ch, Value.slice (some ⟨gc, oc, none⟩) (NS.new k).cs.length cc] 55)).alloc (.cells #[Value.slice (some ⟨gh', oh', none⟩) (NS.new k).hs.length ch', Value.slice (some ⟨gc', oc', none⟩) (NS.new k).cs.length cc'] 55)) p1 p2 w5.heap.size (w5.heap.size + 1) F1 F2 (NS.new k) gh oh ch gc oc cc gh' oh' ch' gc' oc' cc' 0 (fun _ => .nil) := by
      have la := hR1.lt
      have lb := hR2.lt
      refine ⟨nestSk.upd hK1 (((hu3.trans hu4).trans hu5).trans u6) (by simp), nestSk.upd hK2 ((hu4.trans hu5).trans u6) (by simp), (((hR1.upd0 (hu5.trans u6)).add (b := w5.heap.size + 1) (by omega) (by omega)).add (b := w5.heap.size) (by omega) (by omega)), (((hR2.upd0 u6).add (b := w5.heap.size + 1) (by omega) (by omega)).add (b := w5.heap.size) (by omega) (by omega)), fun x hx hm => ?_, fun x hx => ?_, fun x hx => ?_, ⟨fun hm => ?_, fun hm => ?_⟩, ⟨fun hm => ?_, fun hm => ?_⟩, by omega, by simp; omega, by omega, by simp, by simp, by simp, by simp, (((((hu1.trans hu2).trans hu3).trans hu4).trans hu5).trans u6)⟩
      · have := l1 x hx; have := hF2 x hm; omega
      · have := hF1 x hx; omega
      · have := hF2 x hx; omega
      · have := hlt1 _ hm; omega
      · have := hlt2 _ hm; omega
      · have := hlt1 _ hm; omega
      · have := hlt2 _ hm; omega
    have HT0 := Lib.hid hT0
    have hdec : decide ((60 : Int) < (len : Int)) = false := by simp; omega
    rw [hdec]
    clear hT0 u6 hK1 hK2 hR1 hR2 kn hF1 hF2 l1 hlt1 hlt2 kr2 hu1 hu2 hu3 hu4 hu5 hdec
    generalize hb8 : w5.heap.size = b at *
    go_loopw [61] (fun j wr => ∃ i : Nat, i ≤ len ∧ j = .int .i64 (i : Int) ∧ ∃ F1 F2 A gh oh ch gc oc cc gh' oh' ch' gc' oc' cc' st g, Twins w wr p1 p2 b (b + 1) F1 F2 A gh oh ch gc oc cc gh' oh' ch' gc' oc' cc' st g) (fun j _ => len - (intOf j).toNat)
    case atStart => exact ⟨0, by omega, rfl, _, _, _, _, _, _, _, _, _, _, _, _, _, _, _, _, _, HT0.out⟩
    case round =>
      obtain ⟨i, hi, rfl, F1, F2, A, gh, oh, ch, gc, oc, cc, gh', oh', ch', gc', oc', cc', st, g, hT⟩ := hrel
      rename World => wr
      clear HT0
      by_cases hil : i < len
      · obtain ⟨hoki, ba, off, ha, hba, k0, k1, k2, k3, k4⟩ := HC.out wr i hT.up hil
        subst ha
        have HT := Lib.hid hT
        have hib : (i : Int) < (len : Int) := by omega
        have hwr : IntKind.i64.wrap ((i : Int) + 1) = (i : Int) + 1 := IntWalk.i64_in _ (by omega)
        have hl1 := nestSk.lt hT.a1
        have hl2 := nestSk.lt hT.a2
        have hw2F : wr.heap.size ∉ F1 := fun hm => by have := hl1 _ hm; omega
        have y0 := hT.c1.1
        have y1 := hT.c1.2
        have hnb : b ≠ wr.heap.size := by have := hT.lt; omega
        have hnb2 : b + 1 ≠ wr.heap.size := by have := hT.lt; omega
        obtain ⟨hbl, hbl2⟩ := hT.lt
        have kd1 := fun W (hW : Upd [] wr W) => do_open (K := nestSk) (X := b :: (b + 1) :: F2) (nestSk.upd hT.a1 hW (by simp)) (hT.r1.upd0 hW) (fun x hx => by
          have := hW.size
          have := hT.lt
          rcases List.mem_cons.1 hx with rfl | hx
          · omega
          · rcases List.mem_cons.1 hx with rfl | hx
            · omega
            · have := hl2 x hx; omega) (f i) hoki
        simp only [sk_ty] at kd1
        clear hT hl1 hl2
        go_wp2_with (first
          | ((go_at_call 25; (with_reducible refine (kd1 _ (by (repeat (first | assumption | exact Upd.refl _ _ | refine Upd.alloc ?_ _ | refine Upd.drew ?_ | refine Upd.drewN ?_ _ | refine Upd.setCell ?_ ?_ _ | focus (left; simp; done) | focus (right; simp; done) | focus (right; simp; omega))))).mono ?_)); rintro e w3 ⟨F3, gh3, oh3, ch3, gc3, oc3, cc3, rfl, hA3, hR3, hu3, hf3⟩; (have u13 : Upd F1 wr w3 := Upd.trans ((Upd.refl F1 wr).alloc _) hu3); (have hf3b : ∀ x, x ∈ F3 → x ∈ F1 ∨ wr.heap.size ≤ x := fun x hx => by (rcases hf3 x hx with h1 | h1; exact Or.inl h1; right; rw [World.size_alloc] at h1; omega)); obtain ⟨hm1, hm2⟩ := HT.out.mid u13 hf3b; (have y2 := u13.kept HT.out.c2.1 HT.out.b2F.1); (have y3 := u13.kept HT.out.c2.2 HT.out.b2F.1); (have q0 : w3.cell? ⟨wr.heap.size, 0, none⟩ = some (.int .i64 (f i).kind) := hu3.kept (by go_simp) hw2F); (have q1 : w3.cell? ⟨wr.heap.size, 1, none⟩ = some (.int .i64 (f i).h) := hu3.kept (by go_simp) hw2F); (have q2 : w3.cell? ⟨wr.heap.size, 2, none⟩ = some (.int .i64 (f i).x) := hu3.kept (by go_simp) hw2F); (have q3 : w3.cell? ⟨wr.heap.size, 3, none⟩ = some (.int .i64 (f i).k) := hu3.kept (by go_simp) hw2F); (have q4 : w3.cell? ⟨wr.heap.size, 4, none⟩ = some (.int .u64 (f i).s) := hu3.kept (by go_simp) hw2F); (have hz3 := hu3.size); (have hwl3 : wr.heap.size < w3.heap.size := by (rw [World.size_alloc] at hz3; omega)); (have hbl3 : b < w3.heap.size := by omega); (have hbl4 : b + 1 < w3.heap.size := by omega); (have hl3 := nestSk.lt hA3); (have kd2 := fun W (hW : Upd [] w3 W) => do_open (K := nestSk) (X := b :: (b + 1) :: F3) (nestSk.upd hm1 hW (by simp)) (hm2.upd0 hW) (fun x hx => by (have h1 := hW.size; rcases List.mem_cons.1 hx with rfl | hx; omega; rcases List.mem_cons.1 hx with rfl | hx; omega; have h2 := hl3 x hx; omega)) (f i) hoki); simp only [sk_ty] at kd2; (have HZ := Lib.hid (And.intro hA3 hR3)); clear kd1 hA3 hR3 hm1 hm2 hl3 y0 y1)
          | ((go_at_call 25; (with_reducible refine (kd2 _ (by (repeat (first | assumption | exact Upd.refl _ _ | refine Upd.alloc ?_ _ | refine Upd.drew ?_ | refine Upd.drewN ?_ _ | refine Upd.setCell ?_ ?_ _ | focus (left; simp; done) | focus (right; simp; done) | focus (right; simp; omega))))).mono ?_)); rintro e w5 ⟨F4, gh4, oh4, ch4, gc4, oc4, cc4, rfl, hA5, hR5, hu5, hf4⟩; clear kd2)
          | fail)
        have u35 : Upd F2 w3 w5 := Upd.trans ((Upd.refl F2 w3).alloc _) hu5
        have hz5 := u35.size
        have hl2 := nestSk.lt HT.out.a2
        have n3F : w3.heap.size ∉ F2 := fun hm => by have := hl2 _ hm; omega
        have v0 : w5.cell? ⟨w3.heap.size, 0, none⟩ = some (.slice (some ⟨gh3, oh3, none⟩) (doN A (f i)).hs.length ch3) := hu5.kept (by go_simp) n3F
        have v1 : w5.cell? ⟨w3.heap.size, 1, none⟩ = some (.slice (some ⟨gc3, oc3, none⟩) (doN A (f i)).cs.length cc3) := hu5.kept (by go_simp) n3F
        have hz35 : w3.heap.size < w5.heap.size := by have := hu5.size; rw [World.size_alloc] at this; omega
        have x0 := u35.kept (u13.kept HT.out.c1.1 HT.out.b1F.1) HT.out.b1F.2
        have x1 := u35.kept (u13.kept HT.out.c1.2 HT.out.b1F.1) HT.out.b1F.2
        have x2 := u35.kept y2 HT.out.b2F.2
        have x3 := u35.kept y3 HT.out.b2F.2
        have f0 := u35.keptF (u13.kept HT.out.c1.1 HT.out.b1F.1) HT.out.b1F.2 (u13.keptF HT.out.c1.1 HT.out.b1F.1 HT.out.z1.1)
        have f1 := u35.keptF (u13.kept HT.out.c1.2 HT.out.b1F.1) HT.out.b1F.2 (u13.keptF HT.out.c1.2 HT.out.b1F.1 HT.out.z1.2)
        have f2 := u35.keptF y2 HT.out.b2F.2 (u13.keptF HT.out.c2.1 HT.out.b2F.1 HT.out.z2.1)
        have f3 := u35.keptF y3 HT.out.b2F.2 (u13.keptF HT.out.c2.2 HT.out.b2F.1 HT.out.z2.2)
        clear y2 y3 q0 q1 q2 q3 q4 k0 k1 k2 k3 k4
        have hbl5 : b < w5.heap.size := by omega
        have hbl6 : b + 1 < w5.heap.size := by omega
        have nb3 : b ≠ w3.heap.size := by omega
        have nb4 : b + 1 ≠ w3.heap.size := by omega
        have nb5 : b ≠ w5.heap.size := by omega
        have nb6 : b + 1 ≠ w5.heap.size := by omega
        have HU := Lib.hid (And.intro hA5 (And.intro hR5 (And.intro hu5 (And.intro hf4 (And.intro u13 hf3b)))))
        clear hA5 hR5 hu5 hf4 u13 hf3b hl2 u35 hu3 hf3
        have a13 : nestSk.at_ w5 p1 F3 (doN A (f i)) (satS st (nestSk.cost A (f i) g)) (nestSk.next A (f i) g) := nestSk.upd (nestSk.upd HZ.out.1 ((Upd.refl [] w3).alloc (.cells #[Value.slice (some ⟨gh3, oh3, none⟩) (doN A (f i)).hs.length ch3, Value.slice (some ⟨gc3, oc3, none⟩) (doN A (f i)).cs.length cc3] 55)) (by simp)) HU.out.2.2.1 (fun x hx hm => by
          rcases HU.out.2.2.2.2.2 x hm with h1 | h1
          · exact HT.out.dis x h1 hx
          · have := nestSk.lt HT.out.a2 x hx; omega)
        have nb : ∀ z, z < wr.heap.size → z ∉ F1 ∧ z ∉ F2 → z ∉ F3 ∧ z ∉ F4 := fun z hz hn => ⟨fun hm => by
          rcases HU.out.2.2.2.2.2 z hm with h1 | h1
          · exact hn.1 h1
          · omega, fun hm => by
          rcases HU.out.2.2.2.1 z hm with h1 | h1
          · exact hn.2 h1
          · rw [World.size_alloc] at h1; omega⟩
        have nb1 := nb b hbl HT.out.b1F
        have nb2 := nb (b + 1) hbl2 HT.out.b2F
        obtain ⟨e1, G1, pc1, pm1, hC1, hG1⟩ := sk_count a13
        obtain ⟨e2, G2, pc2, pm2, hC2, hG2⟩ := sk_count HU.out.1
        have kc1 := fun W (hW : Upd [b, b + 1] w5 W) => csteps_any (hC1.upd hW (fun x hx hm => by
          simp at hx
          rcases hx with rfl | rfl
          · exact nb1.1 (hG1 _ hm)
          · exact nb2.1 (hG1 _ hm)))
        have kc2 := fun W (hW : Upd [b, b + 1] w5 W) => csteps_any (hC2.upd hW (fun x hx hm => by
          simp at hx
          rcases hx with rfl | rfl
          · exact nb1.2 (hG2 _ hm)
          · exact nb2.2 (hG2 _ hm)))
        have pn1 : b ≠ p1 := fun e => nb1.1 (by rw [e]; exact pm1)
        have pn2 : b + 1 ≠ p1 := fun e => nb2.1 (by rw [e]; exact pm1)
        have pn3 : b ≠ p2 := fun e => nb1.2 (by rw [e]; exact pm2)
        have pn4 : b + 1 ≠ p2 := fun e => nb2.2 (by rw [e]; exact pm2)
        have pl1 : p1 < w5.heap.size := nestSk.lt a13 _ pm1
        have pl2 : p2 < w5.heap.size := nestSk.lt HU.out.1 _ pm2
        have FIN := Lib.hid (fun (W : World) (hW : Upd [b, b + 1] w5 W) c1 c2 z1 z2 => HT.out.fin HU.out.2.2.2.2.1 HU.out.2.2.2.2.2 HZ.out.1 HZ.out.2 ((Upd.refl [] w3).alloc (.cells #[Value.slice (some ⟨gh3, oh3, none⟩) (doN A (f i)).hs.length ch3, Value.slice (some ⟨gc3, oc3, none⟩) (doN A (f i)).cs.length cc3] 55)) HU.out.2.2.1 HU.out.1 HU.out.2.1 HU.out.2.2.2.1 hW c1 c2 z1 z2)
        clear a13 nb nb1 nb2 pm1 pm2 hC1 hC2 hG1 hG2
        generalize satS st (nestSk.cost A (f i) g) = sx at *
        go_region_law fail
        all_goals
          go_wp2
          refine wp_gen (fun W => Upd [b, b + 1] w5 W ∧ (W.cell? ⟨b, 0, none⟩ = some (.slice (some ⟨gh3, oh3, none⟩) (doN A (f i)).hs.length ch3) ∧ W.cell? ⟨b, 1, none⟩ = some (.slice (some ⟨gc3, oc3, none⟩) (doN A (f i)).cs.length cc3)) ∧ (W.cell? ⟨b + 1, 0, none⟩ = some (.slice (some ⟨gh4, oh4, none⟩) (doN A (f i)).hs.length ch4) ∧ W.cell? ⟨b + 1, 1, none⟩ = some (.slice (some ⟨gc4, oc4, none⟩) (doN A (f i)).cs.length cc4)) ∧ (W.frozen? ⟨b, 0, none⟩ = false ∧ W.frozen? ⟨b, 1, none⟩ = false) ∧ (W.frozen? ⟨b + 1, 0, none⟩ = false ∧ W.frozen? ⟨b + 1, 1, none⟩ = false)) ?_ ?_
          · exact ⟨by (repeat (first | assumption | exact Upd.refl _ _ | refine Upd.alloc ?_ _ | refine Upd.drew ?_ | refine Upd.drewN ?_ _ | refine Upd.setCell ?_ ?_ _ | focus (left; simp; done) | focus (right; simp; done) | focus (right; simp; omega))), ⟨by go_simp, by go_simp⟩, ⟨by go_simp, by go_simp⟩, ⟨by go_simp, by go_simp⟩, ⟨by go_simp, by go_simp⟩⟩
          rintro w7 ⟨hW7, hc1, hc2, hz1, hz2⟩
          have HF7 := Lib.hid (fun n => FIN.out (w7.drewN n) (hW7.drewN n) (by simpa using hc1) (by simpa using hc2) (by simpa using hz1) (by simpa using hz2))
          have k1 := fun n => kc1 (w7.drewN n) (hW7.drewN n)
          have k2 := fun n => kc2 (w7.drewN n) (hW7.drewN n)
          have pd1 : w7.cell? ⟨p1, 0, none⟩ = some (.pointer (some ⟨e1, 0, none⟩)) := hW7.kept pc1 (by simp; omega)
          have pd2 : w7.cell? ⟨p2, 0, none⟩ = some (.pointer (some ⟨e2, 0, none⟩)) := hW7.kept pc2 (by simp; omega)
          clear hW7 hc1 hc2 hz1 hz2 kc1 kc2 pc1 pc2 FIN HU HZ HT x0 x1 x2 x3 f0 f1 f2 f3 v0 v1
          go_quiet ((first
            | (go_at_call 18; exact Calls.quiet_of_same (k1 _))
            | (go_at_call 18; exact Calls.quiet_of_same (k2 _))))
          go_wp2
          exact ⟨⟨i + 1, by omega, by go_num, F3, F4, doN A (f i), gh3, oh3, ch3, gc3, oc3, cc3, gh4, oh4, ch4, gc4, oc4, cc4, sx, nestSk.next A (f i) g, HF7.out _⟩, by simp [intOf]; omega⟩
      · obtain rfl : i = len := by omega
        have hup := hT.up
        clear hT
        go_wp2
        go_ret
        exact ⟨rfl, hup⟩
  · have hb1 : (len : Int) > 60 := by omega
    go_enter Try.func12, Try.ntmps12
    go_wp2_with (first
      | ((go_at_call 35; (with_reducible refine (salive_any _).mono ?_)); rintro e w1 ⟨rfl, hu1⟩)
      | ((go_at_call 36; (with_reducible refine (kn w1).mono ?_)); rintro e w2 ⟨p, F, rfl, hK, hu2, hF⟩)
      | ((go_at_call 36; (with_reducible refine (kn w2).mono ?_)); rintro e w3 ⟨p2, F2, rfl, hK2, hu3, hF2⟩)
      | fail)
    go_ret
    exact ⟨by first | rfl | exact ret_bool (by simp; omega), (hu1.trans hu2).trans hu3⟩
end Go.Proofs.Ytechoojcgdjcdaa
