/-
  runs of a nest of whatever kind says yes. Conditions: those of each lemma.
-/
import Derived.Test.YtighgbdijagolaaRunsP
import Derived.Test.YtighgbdijagolaaSorts
set_option linter.unusedVariables false
set_option linter.unusedSimpArgs false
namespace Go.Proofs.Ytighgbdijagolaa
open Go Go.RowKit

section
variable {K : NestK} {w : World} {p : Nat} {F : List Nat} {A : NS} {st : Nat} {g : K.G} {v : Value}
/-- A nest and the document's, in a cell of the caller's. -/
def Both (K : NestK) (w : World) (p b n : Nat) (F : List Nat) (A : NS) : Prop :=
  ∃ st g gh oh ch gc oc cc, K.at_ w p F A st g ∧ RefM w ([b] ++ F) gh oh ch gc oc cc A ∧ b ∉ F ∧ A.cs.length = n ∧ w.cell? ⟨b, 0, none⟩ = some (.slice (some ⟨gh, oh, none⟩) A.hs.length ch) ∧ w.cell? ⟨b, 1, none⟩ = some (.slice (some ⟨gc, oc, none⟩) A.cs.length cc) ∧ w.frozen? ⟨b, 0, none⟩ = false ∧ w.frozen? ⟨b, 1, none⟩ = false ∧ b < w.heap.size
set_option maxHeartbeats 8000000 in
set_option maxRecDepth 10000 in
theorem runs_any (n len : Nat) (f : Nat → AC) (hK : K.at_ w p F (NS.new n) st g) (hn : n ≤ 65536) (hs : ActsN w v len f) (hF0 : 0 < len → ∀ a cap, v = .slice (some a) len cap → a.block ∉ F) (hl : len ≤ 1000) :
    Calls Try.prog 58 #[.iface K.ty (.pointer (some ⟨p, 0, none⟩)), .int .i64 (n : Int), v] w fun e w' => e = .returned (.bool true) ∧ Goes F w w' (fun _ => True) := by
  obtain ⟨a, cap, rfl, hlm, hok, hcell⟩ := hs
  have hlt := K.lt hK
  have kn := rnew_any n w F hlt hn
  have HC := Lib.hid (And.intro hcell (And.intro hok hF0))
  clear hcell hok hF0
  go_enter Try.func58, Try.ntmps58
  go_wp2_with (first
    | ((go_at_call 24; (with_reducible refine (kn).mono ?_)); rintro e w1 ⟨v1, rfl, ⟨gh, oh, ch, gc, oc, cc, rfl, hR1⟩, hu1⟩; (unfold refV))
    | fail)
  have hb7 : w1.heap.size ∉ F := fun hm => by have := hlt _ hm; have := hu1.size; omega
  have hs7 : w.heap.size ≤ w1.heap.size := hu1.size
  generalize hb : w1.heap.size = b at *
  have hR1' : RefM w1 ([b] ++ F) gh oh ch gc oc cc (NS.new n) := hR1.add (by have := hR1.lt; omega) (by have := hR1.lt; omega)
  have u2 : Upd [] w1 (w1.alloc (.cells #[Value.slice (some ⟨gh, oh, none⟩) (NS.new n).hs.length ch, Value.slice (some ⟨gc, oc, none⟩) (NS.new n).cs.length cc] 53)) := (Upd.refl _ _).alloc _
  have hB0 : Both K (w1.alloc (.cells #[Value.slice (some ⟨gh, oh, none⟩) (NS.new n).hs.length ch, Value.slice (some ⟨gc, oc, none⟩) (NS.new n).cs.length cc] 53)) p b n F (NS.new n) := by
    refine ⟨_, _, gh, oh, ch, gc, oc, cc, K.upd hK (hu1.trans u2) (by simp), hR1'.upd0 u2, hb7, by simp [NS.new], ?_, ?_, ?_, ?_, ?_⟩
    · rw [← hb]; simp
    · rw [← hb]; simp
    · rw [← hb]; simp
    · rw [← hb]; simp
    · rw [← hb]; simp
  have hG0 : Goes F w (w1.alloc (.cells #[Value.slice (some ⟨gh, oh, none⟩) (NS.new n).hs.length ch, Value.slice (some ⟨gc, oc, none⟩) (NS.new n).cs.length cc] 53)) (fun F' => ∃ A, Both K (w1.alloc (.cells #[Value.slice (some ⟨gh, oh, none⟩) (NS.new n).hs.length ch, Value.slice (some ⟨gc, oc, none⟩) (NS.new n).cs.length cc] 53)) p b n F' A) := ⟨F, ⟨_, hB0⟩, (hu1.trans u2).mono (by simp), fun x hx => Or.inl hx⟩
  clear hR1 hR1' hB0 u2 kn hlt
  go_loopw [23] (fun j wr => ∃ i : Nat, i ≤ len ∧ j = .int .i64 (i : Int) ∧ Goes F w wr (fun F' => ∃ A, Both K wr p b n F' A)) (fun j _ => len - (intOf j).toNat)
  case atStart => exact ⟨0, by omega, rfl, hG0⟩
  case round =>
    obtain ⟨i, hi, rfl, F1, ⟨A, st1, g1, gh1, oh1, ch1, gc1, oc1, cc1, hA, hR, hbF, hAn, y0, y1, yf0, yf1, hbl⟩, hu2, hF2⟩ := hrel
    rename World => w2
    have hG := Lib.hid (show Goes F w w2 (fun F' => F' = F1) from ⟨F1, rfl, hu2, hF2⟩)
    clear hG0
    by_cases hil : i < len
    · obtain ⟨ba, off, ha, hba, hca⟩ := HC.out.1 (by omega)
      subst ha
      have hbaF := HC.out.2.2 (by omega) _ _ rfl
      obtain ⟨k0, k1, k2, k3, k4⟩ := (hca i hil).kept hu2 hbaF
      have hoki := HC.out.2.1 i hil
      have hltF := K.lt hA
      have hw2F : w2.heap.size ∉ F1 := fun hm => by have := hltF _ hm; omega
      have kd := fun W (hW : Upd [] w2 W) => do_open (X := [b]) (K.upd hA hW (by simp)) (hR.upd0 hW) (fun x hx => by simp at hx; subst hx; exact Nat.lt_of_lt_of_le hbl hW.size) (f i) hoki
      have hib : (i : Int) < (len : Int) := by omega
      have hwr : IntKind.i64.wrap ((i : Int) + 1) = (i : Int) + 1 := IntWalk.i64_in _ (by omega)
      have hnb : b ≠ w2.heap.size := by omega
      have HAN := Lib.hid hAn
      clear hca hu2 hF2 hAn
      go_wp2_with (first
        | ((go_at_call 25; (with_reducible refine (kd _ (by (repeat (first | assumption | exact Upd.refl _ _ | refine Upd.alloc ?_ _ | refine Upd.drew ?_ | refine Upd.drewN ?_ _ | refine Upd.setCell ?_ ?_ _ | focus (left; simp; done) | focus (right; simp; done) | focus (right; simp; omega))))).mono ?_)); rintro e w3 ⟨F3, gh3, oh3, ch3, gc3, oc3, cc3, rfl, hA3, hR3, hu3, hf3⟩; (have z0 := hu3.kept (((Upd.refl [] w2).alloc _).was y0) hbF); (have z1 := hu3.kept (((Upd.refl [] w2).alloc _).was y1) hbF); (have zf0 := hu3.keptF (((Upd.refl [] w2).alloc _).was y0) hbF (((Upd.refl [] w2).alloc _).keptF y0 (by simp) yf0)); (have zf1 := hu3.keptF (((Upd.refl [] w2).alloc _).was y1) hbF (((Upd.refl [] w2).alloc _).keptF y1 (by simp) yf1)); (have q0 : w3.cell? ⟨w2.heap.size, 0, none⟩ = some (.int .i64 (f i).kind) := hu3.kept (by go_simp) hw2F); (have q1 : w3.cell? ⟨w2.heap.size, 1, none⟩ = some (.int .i64 (f i).h) := hu3.kept (by go_simp) hw2F); (have q2 : w3.cell? ⟨w2.heap.size, 2, none⟩ = some (.int .i64 (f i).x) := hu3.kept (by go_simp) hw2F); (have q3 : w3.cell? ⟨w2.heap.size, 3, none⟩ = some (.int .i64 (f i).k) := hu3.kept (by go_simp) hw2F); (have q4 : w3.cell? ⟨w2.heap.size, 4, none⟩ = some (.int .u64 (f i).s) := hu3.kept (by go_simp) hw2F); (have hs3 := hu3.size); (have hl3 : w2.heap.size < w3.heap.size := by (simp at hs3; omega)); (have hl3b : b < w3.heap.size := by omega); (have hbF3 : b ∉ F3 := fun hm => by (rcases hf3 _ hm with h' | h'; exact hbF h'; simp at h'; omega)); (have kl := fun W (hW : Upd [b] w3 W) => looks_open (X := [b]) (K.upd hA3 hW (fun x hx => by simp at hx; subst hx; exact hbF3)) (hR3.upd (hW.mono (by simp))) (f i) hoki))
        | ((go_at_call 77; (with_reducible refine (kl _ (by (repeat (first | assumption | exact Upd.refl _ _ | refine Upd.alloc ?_ _ | refine Upd.drew ?_ | refine Upd.drewN ?_ _ | refine Upd.setCell ?_ ?_ _ | focus (left; simp; done) | focus (right; simp; done) | focus (right; simp; omega))))).mono ?_)); rintro e w5 ⟨F5, rfl, hA5, hR5, hu5, hf5⟩)
        | fail)
      have x0 : w5.cell? ⟨b, 0, none⟩ = some (.slice (some ⟨gh3, oh3, none⟩) (doN A (f i)).hs.length ch3) := hu5.kept (by go_simp) hbF3
      have x1 : w5.cell? ⟨b, 1, none⟩ = some (.slice (some ⟨gc3, oc3, none⟩) (doN A (f i)).cs.length cc3) := hu5.kept (by go_simp) hbF3
      have xf0 : w5.frozen? ⟨b, 0, none⟩ = false := hu5.keptF (v := .slice (some ⟨gh3, oh3, none⟩) (doN A (f i)).hs.length ch3) (by go_simp) hbF3 (by go_simp)
      have xf1 : w5.frozen? ⟨b, 1, none⟩ = false := hu5.keptF (v := .slice (some ⟨gc3, oc3, none⟩) (doN A (f i)).cs.length cc3) (by go_simp) hbF3 (by go_simp)
      have hbF5 : b ∉ F5 := fun hm => by
        rcases hf5 _ hm with h' | h'
        · exact hbF3 h'
        · simp at h'; omega
      have hbl5 : b < w5.heap.size := by have := hu5.size; simp at this; omega
      obtain ⟨F1', e, uw, fw⟩ := hG.out
      rw [e] at fw
      have hstep := ((((((Upd.refl (b :: F1) w2).alloc (.cells #[.int .i64 (f i).kind, .int .i64 (f i).h, .int .i64 (f i).x, .int .i64 (f i).k, .int .u64 (f i).s] 59)).trans (hu3.mono (fun x hx => List.mem_cons_of_mem _ hx))).setCell (p := ⟨b, 0, none⟩) (Or.inl (by simp)) (.slice (some ⟨gh3, oh3, none⟩) (doN A (f i)).hs.length ch3)).setCell (p := ⟨b, 1, none⟩) (Or.inl (by simp)) (.slice (some ⟨gc3, oc3, none⟩) (doN A (f i)).cs.length cc3)).alloc (.cells #[Value.slice (some ⟨gh3, oh3, none⟩) (doN A (f i)).hs.length ch3, Value.slice (some ⟨gc3, oc3, none⟩) (doN A (f i)).cs.length cc3] 53)).joined hu5 (fun x hx => by
        rcases hf3 x hx with h | h
        · exact Or.inl (List.mem_cons_of_mem _ h)
        · right; simp at h; omega)
      have hsz := hstep.size
      refine ⟨⟨i + 1, by omega, by go_num, F5, ⟨_, _, _, gh3, oh3, ch3, gc3, oc3, cc3, hA5, hR5, hbF5, by rw [doN_len]; exact HAN.out, x0, x1, xf0, xf1, hbl5⟩, uw.joined hstep (fun x hx => ?_), fun x hx => ?_⟩, by simp [intOf]; omega⟩
      · rcases List.mem_cons.1 hx with rfl | hx
        · exact Or.inr hs7
        · exact fw x hx
      · rcases hf5 x hx with h | h
        · rcases hf3 x h with h | h
          · exact fw x h
          · right; have := uw.size; simp at h; omega
        · right; have := uw.size; simp at h; omega
    · obtain rfl : i = len := by omega
      clear hil hlm hl hi
      have hG1 : Upd F w w2 ∧ ∀ x, x ∈ F1 → x ∈ F ∨ w.heap.size ≤ x := ⟨hu2, hF2⟩
      have HR := Lib.hid hR
      have hok := K.ok hA
      have hh1 := hok.h0
      have hh2 := hok.h1
      have HAN := Lib.hid hAn
      have hD0 : ∃ B F' st' g', K.at_ w2 p F' B st' g' ∧ Like A B 1 ∧ RefM w2 ([b] ++ F') gh1 oh1 ch1 gc1 oc1 cc1 A ∧ b ∉ F' ∧ Upd F w w2 ∧ (∀ x, x ∈ F' → x ∈ F ∨ w.heap.size ≤ x) ∧ w2.cell? ⟨b, 0, none⟩ = some (.slice (some ⟨gh1, oh1, none⟩) A.hs.length ch1) ∧ w2.cell? ⟨b, 1, none⟩ = some (.slice (some ⟨gc1, oc1, none⟩) A.cs.length cc1) ∧ b < w2.heap.size := ⟨A, F1, st1, g1, hA, Like.refl A 1, hR, hbF, hu2, hF2, y0, y1, hbl⟩
      clear hAn yf0 yf1 hA hR hu2 hF2 hbF hG hG1
      go_wp2
      go_loopw [12] (fun hj wr => ∃ h : Nat, 1 ≤ h ∧ h ≤ A.hs.length ∧ hj = .int .i64 (h : Int) ∧ ∃ B F' st' g', K.at_ wr p F' B st' g' ∧ Like A B (h : Int) ∧ RefM wr ([b] ++ F') gh1 oh1 ch1 gc1 oc1 cc1 A ∧ b ∉ F' ∧ Upd F w wr ∧ (∀ x, x ∈ F' → x ∈ F ∨ w.heap.size ≤ x) ∧ wr.cell? ⟨b, 0, none⟩ = some (.slice (some ⟨gh1, oh1, none⟩) A.hs.length ch1) ∧ wr.cell? ⟨b, 1, none⟩ = some (.slice (some ⟨gc1, oc1, none⟩) A.cs.length cc1) ∧ b < wr.heap.size) (fun hj _ => A.hs.length - (intOf hj).toNat)
      case atStart => exact ⟨1, by omega, hh1, rfl, hD0⟩
      case round =>
        clear hD0 y0 y1 hbl
        obtain ⟨h, hh, hh', rfl, B, F3, st3, g3, hB, hL, hR3, hbF3, hu3, hf3, y0, y1, hbl⟩ := hrel
        rename World => w4
        by_cases hlt : h < A.hs.length
        · have kor := rorder_any (⟨gh1, oh1, ch1, gc1, oc1, cc1, rfl, hR3⟩ : RefAt w4 ([b] ++ F3) (refV gh1 oh1 ch1 gc1 oc1 cc1 A) A) hok (fun x hx => by
            rcases List.mem_append.1 hx with hx | hx
            · simp at hx; subst hx; exact hbl
            · exact K.lt hB x hx) (h : Int)
          unfold refV at kor
          have hib : (h : Int) < (A.hs.length : Int) := by omega
          have HU := Lib.hid (And.intro hu3 hf3)
          clear hu3 hf3
          go_wp2_with (first
            | ((go_at_call 78; (with_reducible refine (kor).mono ?_)); rintro e w5 ⟨v5, rfl, ⟨a5, cap5, rfl, _, _, hc5⟩, hu5⟩)
            | fail)
          have hLL : (natsZ (ordL A (h : Int))).length = lenN A (h : Int) := by unfold natsZ; rw [List.length_map, ordL_len]
          generalize hL5 : (natsZ (ordL A (h : Int))).length = L5 at *
          have HL5 := Lib.hid hLL
          have HOS := Lib.hid (fun k (hk : k ≤ lenN A (h : Int)) => ordS_lenN A (h : Int) k hk)
          have HM := Lib.hid (And.intro hh hlt)
          have hD1 : ∃ B F' st' g', K.at_ w5 p F' B st' g' ∧ Like (ordS A (h : Int) 0).1 B (h : Int) ∧ RefM w5 ([b] ++ F') gh1 oh1 ch1 gc1 oc1 cc1 A ∧ b ∉ F' ∧ Upd F w w5 ∧ (∀ x, x ∈ F' → x ∈ F ∨ w.heap.size ≤ x) ∧ w5.cell? ⟨b, 0, none⟩ = some (.slice (some ⟨gh1, oh1, none⟩) A.hs.length ch1) ∧ w5.cell? ⟨b, 1, none⟩ = some (.slice (some ⟨gc1, oc1, none⟩) A.cs.length cc1) ∧ b < w5.heap.size ∧ (∀ j u, (natsZ (ordL A (h : Int)))[j]? = some u → ∃ g off, a5 = some ⟨g, off, none⟩ ∧ g ∉ F' ∧ w5.cell? ⟨g, off + j, none⟩ = some (.int .i64 u)) :=
            ⟨B, F3, st3, g3, K.upd hB hu5 (by simp), hL, hR3.upd0 hu5, hbF3, HU.out.1.trans (hu5.mono (by simp)), HU.out.2, hu5.was y0, hu5.was y1, Nat.lt_of_lt_of_le hbl hu5.size, fun j u hj => by
              obtain ⟨g, off, e1, e2, e3, e4⟩ := hc5 j u hj
              exact ⟨g, off, e1, fun hm => e3 (List.mem_append.2 (Or.inr hm)), e4⟩⟩
          clear hB hL hR3 hbF3 y0 y1 hbl hc5 hu5 HU hLL hL5 kor
          go_loopw [56] (fun kj wr => ∃ k : Nat, k ≤ L5 ∧ kj = .int .i64 (k : Int) ∧ ∃ B F' st' g', K.at_ wr p F' B st' g' ∧ Like (ordS A (h : Int) k).1 B (h : Int) ∧ RefM wr ([b] ++ F') gh1 oh1 ch1 gc1 oc1 cc1 A ∧ b ∉ F' ∧ Upd F w wr ∧ (∀ x, x ∈ F' → x ∈ F ∨ w.heap.size ≤ x) ∧ wr.cell? ⟨b, 0, none⟩ = some (.slice (some ⟨gh1, oh1, none⟩) A.hs.length ch1) ∧ wr.cell? ⟨b, 1, none⟩ = some (.slice (some ⟨gc1, oc1, none⟩) A.cs.length cc1) ∧ b < wr.heap.size ∧ (∀ j u, (natsZ (ordL A (h : Int)))[j]? = some u → ∃ g off, a5 = some ⟨g, off, none⟩ ∧ g ∉ F' ∧ wr.cell? ⟨g, off + j, none⟩ = some (.int .i64 u))) (fun kj _ => L5 - (intOf kj).toNat)
          case atStart => exact ⟨0, by omega, rfl, hD1⟩
          case round =>
            clear hD1
            obtain ⟨k, hk, rfl, B, F3, st3, g3, hB, hL, hR3, hbF3, hu3, hf3, y0, y1, hbl, hc5⟩ := hrel
            rename World => w6
            have HU := Lib.hid (And.intro hu3 (And.intro hf3 hL))
            have HL := HL5.out
            obtain ⟨fx, vx, henx, hmx, hcx⟩ := (K.extract ⟨3, h, 0, 0, 0⟩ ⟨by dsimp only; omega, by dsimp only; omega, by dsimp only; omega⟩ rfl hB).now
            unfold Enters at henx
            dsimp only at hcx
            rw [like_min hL (by omega)] at hcx
            by_cases hkl : k < L5
            · obtain ⟨m, hm1, hm2, hm3⟩ := ordL_get (A := A) (h := (h : Int)) (k := k) (by omega)
              obtain ⟨g5, off5, rfl, hg5, hcell⟩ := hc5 k (m : Int) (by unfold natsZ; rw [List.getElem?_map, hm2]; rfl)
              have hLd := like_drop hL hm1
              rw [← hm3] at hLd
              have hex : extN B (h : Int) = dropN B (m : Int) := by unfold extN; rw [like_min hL (by omega), hm1]
              rw [hm1, hex, show slotV (some m) = (m : Int) from rfl, show (some m).isSome = true from rfl] at hcx
              have hbh : hasN (dropN B (m : Int)) (h : Int) = A.hs.getD h false := by
                have a1 := HM.out
                unfold hasN; rw [drop_hs, hL.hs, (ordS_len2 A (h : Int) k).2, decide_eq_true (by omega : (1 : Int) ≤ (h : Int)), decide_eq_true (by omega : (h : Int) < (A.hs.length : Int)), Int.toNat_natCast]; rfl
              have hgh := hR3.lt
              have hghF := hR3.far
              have hcap := hR3.hcap
              have ecell := hR3.h h HM.out.2
              have hib : (k : Int) < (L5 : Int) := by omega
              have hwr : IntKind.i64.wrap ((k : Int) + 1) = (k : Int) + 1 := IntWalk.i64_in _ (by have := HM.out; have := lenN_le hok (h : Int); omega)
              have hib2 : (h : Int) < (A.hs.length : Int) := by have := HM.out; omega
              have HC5 := Lib.hid (And.intro hc5 (And.intro hLd (And.intro hR3 hbF3)))
              have hg0 : gh1 ∉ F3 := fun hm => hghF.1 (List.mem_append.2 (Or.inr hm))
              clear hL hu3 hf3 hm1 hm2 hm3 hex hLd hR3 hc5 hkl HL
              go_wp2_with (first
                | ((with_reducible refine (hcx).mono ?_); rintro e w7 ⟨rfl, F7, hA7, hu7, hf7⟩)
                | fail)
              obtain ⟨fh, vh, henh, hfh⟩ := K.has (h : Int) hA7
              unfold Enters at henh
              rw [hbh] at hfh
              have hmh := fun W hW => (hfh W hW).1
              have y0' := hu7.kept y0 hbF3
              have y1' := hu7.kept y1 hbF3
              have e7 := hu7.kept ecell hg0
              have r0 : ∀ W, Upd [] w7 W → W.cell? ⟨b, 0, none⟩ = some (.slice (some ⟨gh1, oh1, none⟩) A.hs.length ch1) := fun W hW => hW.was y0'
              have r1 : ∀ W, Upd [] w7 W → W.cell? ⟨gh1, oh1 + h, none⟩ = some (.bool (A.hs.getD h false)) := fun W hW => hW.was e7
              have HEND : Hid (∀ W, Upd [] w7 W → ∃ B F' st' g', K.at_ W p F' B st' g' ∧ Like (ordS A (h : Int) (k + 1)).1 B (h : Int) ∧ RefM W ([b] ++ F') gh1 oh1 ch1 gc1 oc1 cc1 A ∧ b ∉ F' ∧ Upd F w W ∧ (∀ x, x ∈ F' → x ∈ F ∨ w.heap.size ≤ x) ∧ W.cell? ⟨b, 0, none⟩ = some (.slice (some ⟨gh1, oh1, none⟩) A.hs.length ch1) ∧ W.cell? ⟨b, 1, none⟩ = some (.slice (some ⟨gc1, oc1, none⟩) A.cs.length cc1) ∧ b < W.heap.size ∧ (∀ j u, (natsZ (ordL A (h : Int)))[j]? = some u → ∃ g off, (some (⟨g5, off5, none⟩ : Addr)) = some ⟨g, off, none⟩ ∧ g ∉ F' ∧ W.cell? ⟨g, off + j, none⟩ = some (.int .i64 u))) := fun W hW => by
                have hU := HU.out
                have hbF7 : b ∉ F7 := fun hm => by
                  rcases hf7 _ hm with h' | h'
                  · exact hbF3 h'
                  · omega
                refine ⟨_, F7, _, _, K.upd hA7 hW (by simp), HC5.out.2.1, (HC5.out.2.2.1.fresh (hu7.mono (fun x hx => List.mem_append.2 (Or.inr hx))) (fun x hx => ?_)).upd0 hW, hbF7, (hU.1.joined hu7 hU.2.1).trans (hW.mono (by simp)), fun x hx => ?_, hW.was y0', hW.was y1', ?_, fun j u hj => ?_⟩
                · rcases List.mem_append.1 hx with hx | hx
                  · exact Or.inl (List.mem_append.2 (Or.inl hx))
                  · rcases hf7 x hx with h' | h'
                    · exact Or.inl (List.mem_append.2 (Or.inr h'))
                    · exact Or.inr h'
                · rcases hf7 x hx with h' | h'
                  · exact hU.2.1 x h'
                  · have := hU.1.size; omega
                · have := hu7.size; have := hW.size; omega
                · obtain ⟨g, off, e1, e2, e3⟩ := HC5.out.1 j u hj
                  have hgl := World.block_lt_of_cell? w6 _ e3
                  refine ⟨g, off, e1, fun hm => ?_, hW.was (hu7.kept e3 e2)⟩
                  rcases hf7 g hm with h' | h'
                  · exact e2 h'
                  · dsimp only at hgl; omega
              have HB := Lib.hid hbh
              clear hcx hmx hbh hbF3
              generalize hbq : A.hs.getD h false = bq at *
              go_region_held3 (Upd [] w7) (repeat (first | assumption | exact Upd.refl _ _ | refine Upd.drew ?_ | refine Upd.alloc ?_ _ | (apply Upd.trans; rotate_left; assumption)))
                (((with_reducible refine ((hfh _ (by (repeat (first | assumption | exact Upd.refl _ _ | refine Upd.drew ?_ | refine Upd.alloc ?_ _ | (apply Upd.trans; rotate_left; assumption))))).2).mono ?_); rintro e w9 ⟨rfl, hw9⟩; rw [hw9]; clear hw9 w9))
              go_wp2
              exact ⟨⟨k + 1, by omega, by go_num, HEND.out _ (by (repeat (first | assumption | exact Upd.refl _ _ | refine Upd.drew ?_ | refine Upd.alloc ?_ _ | (apply Upd.trans; rotate_left; assumption))))⟩, by simp [intOf]; omega⟩
            · obtain rfl : k = L5 := by omega
              have h0 : lenN (ordS A (h : Int) k).1 (h : Int) = 0 := by have := HOS.out k (by omega); omega
              have hmn := minN_none_iff.2 h0
              have hBn : lenN B (h : Int) = 0 := minN_none_iff.1 (by rw [like_min hL (by omega)]; exact hmn)
              have hex : extN B (h : Int) = B := by unfold extN; rw [like_min hL (by omega), hmn]
              rw [hmn, hex, show slotV none = 0 from rfl, show (none : Option Nat).isSome = false from rfl] at hcx
              have hwr : IntKind.i64.wrap ((h : Int) + 1) = (h : Int) + 1 := IntWalk.i64_in _ (by have := HM.out; omega)
              have HLK := Lib.hid hL
              have HQ := Lib.hid (And.intro hR3 (And.intro hbF3 (And.intro y0 y1)))
              clear hL hR3 hbF3 y0 y1 hc5 hu3 hf3 h0 hmn hex hkl HL hB
              go_wp2_with (first
                | ((with_reducible refine (hcx).mono ?_); rintro e w7 ⟨rfl, F7, hA7, hu7, hf7⟩; obtain ⟨fl, vl, henl, hml, hcl⟩ := (K.len (h : Int) (by have := HM.out; omega) hA7).now; (unfold Enters at henl); rw [hBn, Int.natCast_zero] at hcl)
                | ((with_reducible refine (hcl).mono ?_); rintro e w9 ⟨rfl, hw9⟩; rw [hw9]; clear hw9 w9)
                | fail)
              have hU := HU.out
              have hbF7 : b ∉ F7 := fun hm => by
                rcases hf7 _ hm with h' | h'
                · exact HQ.out.2.1 h'
                · omega
              have hMo := HM.out
              refine ⟨⟨h + 1, by omega, by omega, by go_num, B, F7, _, _, hA7, like_next (by omega) HLK.out, HQ.out.1.fresh (hu7.mono (fun x hx => List.mem_append.2 (Or.inr hx))) (fun x hx => ?_), hbF7, hU.1.joined hu7 hU.2.1, fun x hx => ?_, hu7.kept HQ.out.2.2.1 HQ.out.2.1, hu7.kept HQ.out.2.2.2 HQ.out.2.1, ?_⟩, by simp [intOf]; omega⟩
              · rcases List.mem_append.1 hx with hx | hx
                · exact Or.inl (List.mem_append.2 (Or.inl hx))
                · rcases hf7 x hx with h' | h'
                  · exact Or.inl (List.mem_append.2 (Or.inr h'))
                  · exact Or.inr h'
              · rcases hf7 x hx with h' | h'
                · exact hU.2.1 x h'
                · have := hU.1.size; omega
              · have := hu7.size; omega
        · have hib : ¬ (h : Int) < (A.hs.length : Int) := by omega
          obtain ⟨fc, vc, henc, hmc, hcc⟩ := (K.capacity hB).now
          unfold Enters at henc
          rw [hL.len, HAN.out] at hcc
          have HU := Lib.hid (And.intro hu3 hf3)
          clear hu3 hf3 hB hL hR3 hbF3 hlt
          go_wp2_with (first
            | ((with_reducible refine (hcc).mono ?_); rintro e w9 ⟨rfl, hw9⟩; rw [hw9]; clear hw9 w9)
            | fail)
          go_ret
          exact ⟨rfl, F3, trivial, HU.out.1, HU.out.2⟩
theorem bigRuns_any (n len : Nat) (f : Nat → AC) (hK : K.at_ w p F (NS.new n) st g) (hn : n ≤ 65536) (hs : ActsN w v len f) (hF0 : 0 < len → ∀ a cap, v = .slice (some a) len cap → a.block ∉ F) (hl : len ≤ 1000) :
    Calls Try.prog 30 #[.iface K.ty (.pointer (some ⟨p, 0, none⟩)), .int .i64 (n : Int), v] w fun e w' => e = .returned (.int .i64 1) ∧ Goes F w w' (fun _ => True) := by
  have k := runs_any n len f hK hn hs hF0 hl
  have k2 := fun W => one_yes W
  obtain ⟨a, cap, rfl, -⟩ := hs
  go_enter Try.func30, Try.ntmps30
  go_wp2_with (first
    | ((go_at_call 58; (with_reducible refine (k).mono ?_)); rintro e w1 ⟨rfl, hG1⟩)
    | (go_at_call 47; (with_reducible refine ((k2 _)).mono ?_); rintro e w9 ⟨rfl, hw9⟩; rw [hw9]; clear hw9 w9)
    | fail)
  go_ret
  exact ⟨rfl, hG1⟩
end
end Go.Proofs.Ytighgbdijagolaa
