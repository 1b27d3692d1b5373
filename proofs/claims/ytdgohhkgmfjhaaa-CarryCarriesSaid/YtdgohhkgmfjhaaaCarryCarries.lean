/-
  The law on two rows of roots that become one: its walk. Conditions: arguments that came in.
-/
import Derived.Test.YtdgohhkgmfjhaaaCarryPl4
import Derived.Test.YtdgohhkgmfjhaaaCarryTold
import Derived.Test.YtdgohhkgmfjhaaaAppSli
import Derived.Test.YtdgohhkgmfjhaaaCarryRunsLaw
import Derived.Test.YtdgohhkgmfjhaaaCarryCounts
import Derived.Deep.RegionHeldLaw
import Derived.Outline
import Derived.IntWalk
set_option linter.unusedVariables false
set_option linter.unusedSimpArgs false
namespace Go.Proofs.Ytdgohhkgmfjhaaa
open Go Go.RowKit

theorem fl_after {w w3 : World} {bt ba lo n : Nat} {S : CS} {v : Value} {Z : List (List Int)} (h : Two w3 bt ba lo n S v Z) (hu : Upd [] w w3) (h1 : w.heap.size ≤ bt) (h2 : w.heap.size ≤ ba) (h3 : w.heap.size ≤ lo) (vk : Value) (zs : List Int) (hk : KeysAt w w.heap.size vk zs) :
    FL (w3.alloc (.cells #[vk, .int .i64 0] 37)) bt ba lo n w.heap.size w3.heap.size S zs vk 0 := by
  have ha : Upd [] w3 (w3.alloc (.cells #[vk, .int .i64 0] 37)) := (Upd.refl _ _).alloc _
  have hold := h.old
  refine ⟨h.f.upd0 ha, ⟨(rowAt_new w3 [vk, .int .i64 0] 37).ext (fun j hj => by rcases (by simp at hj; omega : j = 0 ∨ j = 1) with rfl | rfl <;> rfl), (hk.upd (hu.trans ha) (by simp)), hu.size⟩, ⟨fun e => by have := h.t; omega, fun e => by have := hold ba (by simp); omega, fun hm => by have := hold _ (List.mem_cons_of_mem _ hm); omega, h1, h2, h3⟩, Nat.lt_of_lt_of_le h.t ha.size, h.ok⟩

/-- Is no one of some things among others? -/
def apartB (A B : List Int) : Bool := A.all (fun x => decide (x ∉ B))
theorem apart_any (A B : List Int) : (!(A.any (fun x => decide (x ∈ B)))) = apartB A B := by
  unfold apartB
  rw [Bool.eq_iff_iff]
  simp
theorem apart_snoc (A B : List Int) (i : Nat) (x : Int) (h : A[i]? = some x) : apartB (A.take (i + 1)) B = (apartB (A.take i) B && decide (x ∉ B)) := by
  unfold apartB
  rw [List.take_add_one, h, Option.toList_some, List.all_append]
  simp
theorem notin_snoc (B : List Int) (j : Nat) (x y : Int) (h : B[j]? = some y) : decide (x ∉ B.take (j + 1)) = (decide (x ∉ B.take j) && !(x == y)) := by
  rw [List.take_add_one, h, Option.toList_some, Bool.eq_iff_iff]
  simp
theorem SlI.at {w : World} {F : List Nat} {a : Option Addr} {n c : Nat} {xs : List Int} (h : SlI w F (.slice a n c) xs) (j : Nat) (u : Int) (hj : xs[j]? = some u) : ∃ g off, a = some ⟨g, off, none⟩ ∧ g < w.heap.size ∧ g ∉ F ∧ w.cell? ⟨g, off + j, none⟩ = some (.int .i64 u) := by
  obtain ⟨_, _, he, _, _, h3⟩ := h
  cases he
  exact h3 j u hj

set_option maxRecDepth 100000 in
set_option maxHeartbeats 4000000 in
theorem ccar_ok (vk va v1 v2 : Value) (zs : List Int) (len : Nat) (kd p x : Nat → Int) (A B : List Int) (w : World) (hk : KeysAt w w.heap.size vk zs) (hn : zs.length ≤ 24) (hA : Acts3 w va len kd p x) (hl : len ≤ 60)
    (s1 : SlI w [] v1 A) (s2 : SlI w [] v2 B) (hA30 : A.length ≤ 30) (hB30 : B.length ≤ 30) :
    Calls Try.prog 7 #[vk, va, .agg #[v1, v2]] w fun e w' => e = .returned (.bool true) ∧ Upd [] w w' := by
  have kN := fun W => carryNew_yes zs.length W (by omega)
  have HK := Lib.hid hk
  obtain ⟨a0, c0, rfl, _, _⟩ := hk
  have hA0 := hA
  obtain ⟨a, cap, rfl, _, hp⟩ := hA
  obtain ⟨a1, c1, rfl, hc1⟩ := s1.shape'
  obtain ⟨a2, c2, rfl, hc2⟩ := s2.shape'
  have kP := fun W bt ba lo (hu : Upd [] w W) (hF : ForestAt W bt ba lo zs.length CS.none) (ht : bt < W.heap.size) (h1 : w.heap.size ≤ ba) (h2 : w.heap.size ≤ lo) => play_any W bt ba lo zs.length _ len kd p x hF ht (hA0.upd0 hu) hl (fun h0 a' c' b off he => by
    obtain ⟨b', off', rfl, hb, _⟩ := hp h0
    cases he
    omega)
  have HP := Lib.hid kP
  have S1 := Lib.hid s1
  have S2 := Lib.hid s2
  have hw0 : Upd [] w (w.alloc (.cells #[.slice a1 A.length c1, .slice a2 B.length c2] 55)) := (Upd.refl _ _).alloc _
  have r0 : ∀ W, Upd [] (w.alloc (.cells #[.slice a1 A.length c1, .slice a2 B.length c2] 55)) W → W.cell? ⟨w.heap.size, 0, none⟩ = some (.slice a1 A.length c1) := fun W h => h.was (by simp)
  have r1 : ∀ W, Upd [] (w.alloc (.cells #[.slice a1 A.length c1, .slice a2 B.length c2] 55)) W → W.cell? ⟨w.heap.size, 1, none⟩ = some (.slice a2 B.length c2) := fun W h => h.was (by simp)
  have R0 := Lib.hid r0
  have R1 := Lib.hid r1
  clear hp hA0 kP s1 s2 r0 r1
  generalize hlen : zs.length = n at *
  have HL := Lib.hid hlen
  clear hlen
  generalize hAl : A.length = la at *
  generalize hBl : B.length = lb at *
  have HAL := Lib.hid hAl
  have HBL := Lib.hid hBl
  clear hAl hBl
  go_enter Try.func7, Try.ntmps7
  go_wp2_with (first
    | ((go_at_call 9; (with_reducible refine (calive_any _).mono ?_)); rintro e w1 ⟨rfl, hu1⟩)
    | ((go_at_call 10; (with_reducible refine (kN _).mono ?_)); rintro e w2 ⟨bt, ba, rfl, hF2, hu2, hb1, hb2⟩; have hbx := hu1.trans hu2; have q0 := R0.out _ hbx; have q1 := R1.out _ hbx))
  have kPP := HP.out _ bt ba _ (hw0.trans hbx) hF2 hF2.head.lt (by have := hw0.size; have := hu1.size; have := hu2.size; omega) (by have := hw0.size; have := hu1.size; have := hu2.size; omega)
  (with_reducible refine (kPP).mono ?_)
  rintro e w3 ⟨S, v3, Z, rfl, hT3, hu3⟩
  have hlo := hF2.low
  have hb0 : Upd [] (w.alloc (.cells #[.slice a1 la c1, .slice a2 lb c2] 55)) w3 := hbx.joined hu3 (fun g hg => Or.inr (by simp at hg; subst hg; have := hu1.size; omega))
  have hup := hw0.trans hb0
  have hfl := fl_after hT3 hup (by have := hw0.size; have := hu1.size; have := hu2.size; omega) (by have := hw0.size; have := hu1.size; have := hu2.size; omega) (by have := hw0.size; have := hu1.size; have := hu2.size; omega) _ zs HK.out
  have hsz1 : w.heap.size + 1 ≤ w1.heap.size := by have := hu1.size; simpa using this
  have hsz3 : w.heap.size + 1 ≤ w3.heap.size := by have := hb0.size; simpa using this
  have hlw : w.heap.size + 1 ≤ w2.heap.size := by have := hu2.size; omega
  have hlb : w.heap.size + 1 ≤ ba := by omega
  generalize w2.heap.size = lo at *
  obtain ⟨az, cz, hvz, _⟩ := hT3.z.shape
  subst hvz
  have hal : Upd [] w3 (w3.alloc (.cells #[.slice a0 n c0, .int .i64 0] 37)) := (Upd.refl _ _).alloc _
  have hTa := hT3.upd0 hal
  have hb4 := hb0.trans hal
  have hup4 := hup.trans hal
  have hz4 : FrAt (w3.alloc (.cells #[.slice a0 n c0, .int .i64 0] 37)) (w3.heap.size :: ba :: S.blk n) _ Z := hT3.z.fresh (hal.mono (by simp)) (fun g hg => by
    rcases List.mem_cons.1 hg with rfl | hg
    · exact Or.inr (Nat.le_refl _)
    · exact Or.inl hg)
  have q0' := R0.out _ hb4
  have q1' := R1.out _ hb4
  have kRA := zrow_any _ _ [] _ _ Z A hz4 (S1.out.upd hup4 (by simp))
  have kRB := fun m => zrow_any ((w3.alloc (.cells #[.slice a0 n c0, .int .i64 0] 37)).drewN m) _ [] _ _ Z B (hz4.drewN m) (S2.out.upd (hup4.drewN m) (by simp))
  rw [row_same hT3.r hT3.ok] at kRA
  simp only [row_same hT3.r hT3.ok] at kRB
  have HTA := Lib.hid hTa
  have HFL := Lib.hid hfl
  have HZ4 := Lib.hid hz4
  have HUP := Lib.hid hup4
  have HB4 := Lib.hid hb4
  clear hTa hfl hz4 hup4 hT3 kPP hF2 hu1 hu2 hu3 hb0 hup hw0 kN hb1 hb2 q0 q1 hbx hb4
  have hW4 : ∃ W4, W4 = w3.alloc (.cells #[.slice a0 n c0, .int .i64 0] 37) := ⟨_, rfl⟩
  go_upto_region 9 with (fail)
  go_cut [13] (fun s13 wx => s13 = .bool (rowB n S A && rowB n S B) ∧ ∃ m, wx = (w3.alloc (.cells #[.slice a0 n c0, .int .i64 0] 37)).drewN m)
  case first =>
    cases hrA : rowB n S A with
    | false =>
      rw [hrA] at kRA
      go_wp2_with ((go_at_call 23; (with_reducible refine (kRA).mono ?_)); rintro e w5 ⟨rfl, n5, rfl⟩)
      go_meet
      exact ⟨by rw [hrA]; rfl, _, rfl⟩
    | true =>
      rw [hrA] at kRA
      cases hrB : rowB n S B with
      | false =>
        simp only [hrB] at kRB
        go_wp2_with (first
          | ((go_at_call 23; (with_reducible refine (kRA).mono ?_)); rintro e w5 ⟨rfl, n5, rfl⟩; have q1'' := R1.out _ (HB4.out.drewN n5))
          | ((go_at_call 23; (with_reducible refine (kRB _).mono ?_)); rintro e w6 ⟨rfl, n6, rfl⟩))
        go_meet
        exact ⟨by rw [hrA, hrB]; rfl, _, rfl⟩
      | true =>
        simp only [hrB] at kRB
        go_wp2_with (first
          | ((go_at_call 23; (with_reducible refine (kRA).mono ?_)); rintro e w5 ⟨rfl, n5, rfl⟩; have q1'' := R1.out _ (HB4.out.drewN n5))
          | ((go_at_call 23; (with_reducible refine (kRB _).mono ?_)); rintro e w6 ⟨rfl, n6, rfl⟩))
        go_meet
        exact ⟨by rw [hrA, hrB]; rfl, _, rfl⟩
  case rest =>
    clear kRA kRB
    obtain ⟨rfl, m5, hwc⟩ := hcut
    have h45 : Upd [] (w3.alloc (.cells #[.slice a0 n c0, .int .i64 0] 37)) wc := by rw [hwc]; exact (Upd.refl _ _).drewN _
    clear hwc q0' q1'
    have q0 := R0.out _ (HB4.out.trans h45)
    have q1 := R1.out _ (HB4.out.trans h45)
    have sA := S1.out.upd (HUP.out.trans h45) (by simp)
    have sB := S2.out.upd (HUP.out.trans h45) (by simp)
    have hup5 := HUP.out.trans h45
    have hAP := apart_any A B
    generalize hrr : (rowB n S A && rowB n S B) = rr at *
    have HRR := Lib.hid hrr
    have HAP := Lib.hid hAP
    have SA := Lib.hid sA
    have SB := Lib.hid sB
    clear hrr hAP sA sB
    go_wp2_with fail
    go_loop [13, 115] (fun s13 s115 => ∃ i : Nat, i ≤ la ∧ s115 = .int .i64 (i : Int) ∧ s13 = .bool (rr && apartB (A.take i) B)) (fun _ s115 => la - (intOf s115).toNat)
    case atStart => exact ⟨0, by omega, rfl, by simp [apartB]⟩
    case round =>
      obtain ⟨i, hi, rfl, rfl⟩ := hrel
      by_cases hil : i < la
      · obtain ⟨xi, hxi⟩ : ∃ y, A[i]? = some y := ⟨A[i]'(by rw [HAL.out]; exact hil), by simp⟩
        obtain ⟨g1, o1, rfl, _, _, cx⟩ := SA.out.at i xi hxi
        have hsn := apart_snoc A B i xi hxi
        have HSN := Lib.hid hsn
        clear hsn hxi
        generalize apartB (A.take i) B = ci at *
        generalize hcc : (rr && ci) = cc at *
        have HCC := Lib.hid hcc
        clear hcc
        go_wp2_with fail
        go_loop [13, 122] (fun s13 s122 => ∃ j : Nat, j ≤ lb ∧ s122 = .int .i64 (j : Int) ∧ s13 = .bool (cc && decide (xi ∉ B.take j))) (fun _ s122 => lb - (intOf s122).toNat)
        case atStart => exact ⟨0, by omega, rfl, by simp⟩
        case round =>
          obtain ⟨j, hj, rfl, rfl⟩ := hrel
          by_cases hjl : j < lb
          · obtain ⟨yj, hyj⟩ : ∃ y, B[j]? = some y := ⟨B[j]'(by rw [HBL.out]; exact hjl), by simp⟩
            obtain ⟨g2, o2, rfl, _, _, cy⟩ := SB.out.at j yj hyj
            have hsn := notin_snoc B j xi yj hyj
            have HS2 := Lib.hid hsn
            clear hsn hyj
            generalize decide (xi ∉ B.take j) = dj at *
            generalize hdd : (cc && dj) = dd at *
            have HDD := Lib.hid hdd
            clear hdd
            cases hdv : dd with
            | false =>
              subst hdv
              go_wp2_with fail
              go_round
              case rel => exact ⟨j + 1, by omega, by go_num, by rw [HS2.out, ← Bool.and_assoc, HDD.out]; rfl⟩
              case measure => simp [intOf]; omega
            | true =>
              subst hdv
              by_cases hxy : xi = yj
              · subst hxy
                go_wp2_with fail
                go_round
                case rel => exact ⟨j + 1, by omega, by go_num, by rw [HS2.out, ← Bool.and_assoc, HDD.out]; simp⟩
                case measure => simp [intOf]; omega
              · have b1 : (xi != yj) = true := by simpa using hxy
                have HXY := Lib.hid hxy
                clear hxy
                go_wp2_with fail
                go_round
                case rel => exact ⟨j + 1, by omega, by go_num, by rw [HS2.out, ← Bool.and_assoc, HDD.out]; simp [HXY.out]⟩
                case measure => simp [intOf]; omega
          · obtain rfl : j = lb := by omega
            have hfin : B.take j = B := List.take_of_length_le (by rw [HBL.out]; omega)
            rw [hfin]
            have HT := HSN.out
            generalize decide (xi ∉ B) = dn at *
            generalize hdd : (cc && dn) = dd at *
            have HDD := Lib.hid hdd
            have HT2 := Lib.hid HT
            clear hdd hfin HT
            go_wp2_with fail
            go_round
            case rel => exact ⟨i + 1, by omega, by go_num, by rw [HT2.out, ← HDD.out, ← HCC.out, Bool.and_assoc]⟩
            case measure => simp [intOf]; omega
      · obtain rfl : i = la := by omega
        have hfin : A.take i = A := List.take_of_length_le (by rw [HAL.out]; omega)
        rw [hfin]
        generalize hcc : (rr && apartB A B) = cc at *
        have HCC := Lib.hid hcc
        clear hfin hcc
        have hlo5 : w.heap.size ≤ w3.heap.size := by have := hal.size; have := hup5.size; have := h45.size; have := HB4.out.size; simp at this; omega
        have hZn : Z.length = n := HTA.out.r.1
        have hzl : (toldZ n S.f).length = n := (told_rel n S.f).1
        cases hcv : cc with
        | false =>
          subst hcv
          have kC := carry_no bt ba lo n w3.heap.size S _ _ A B wc (HTA.out.f.upd0 h45) [] SA.out SB.out (by rw [HAP.out, ← Bool.and_assoc, HRR.out]; exact HCC.out)
          have kT := fun W (h : Upd [] wc W) => told_any [] W bt ba lo n S (HTA.out.f.upd0 (h45.trans h)) (by simp)
          go_wp2_with (first
            | ((go_at_call 15; (with_reducible refine (kC).mono ?_)); rintro e w6 ⟨rfl, hu6⟩)
            | ((go_at_call 18; (with_reducible refine (kT _ hu6).mono ?_)); rintro e w7 ⟨a7, c7, rfl, hz7, hu7⟩))
          have hw7 : Upd [] wc w7 := hu6.trans hu7
          have hzz := (HZ4.out.any).upd (h45.trans hw7) (by simp)
          have HZZ := Lib.hid hzz
          have HZ7 := Lib.hid hz7
          have HZL := Lib.hid hzl
          generalize hze : Z.length = nz at *
          replace hZn := hZn.symm
          subst hZn
          have HZN := Lib.hid hze
          clear hzz hz7 kC kT hze hzl
          go_loopw [159] (fun s159 wr => ∃ y : Nat, y ≤ n ∧ s159 = .int .i64 (y : Int) ∧ Upd [] w7 wr) (fun s159 _ => n - (intOf s159).toNat)
          case atStart => exact ⟨0, by omega, rfl, Upd.refl _ _⟩
          case round =>
            obtain ⟨y, hy, rfl, hU⟩ := hrel
            by_cases hyn : y < n
            · obtain ⟨g1, o1, ax, cx, rfl, hg1, hcx, hcx2, hsx⟩ := (HZZ.out.upd hU (by simp)).at y (by rw [HZN.out]; exact hyn)
              obtain ⟨g2, o2, ay, cy, rfl, hg2, hcy, hcy2, hsy⟩ := (HZ7.out.upd hU (by simp)).at y (by rw [HZL.out]; exact hyn)
              rw [HTA.out.r.get (by rw [HZN.out]; exact hyn)] at hcx hsx
              rw [(told_rel n S.f).get (by rw [HZL.out]; exact hyn)] at hcy hsy
              generalize S.f.k y = ly at *
              have kS := fun m => same_yes (wr.drewN m) [] [] _ _ ly (hsx.upd ((Upd.refl [] wr).drewN m) (by simp)) (hsy.upd ((Upd.refl [] wr).drewN m) (by simp))
              clear hsx hsy
              go_wp2
              go_quiet ((go_at_call 25; exact Calls.quiet_of (kS _)))
              go_wp2
              go_roundw
              case rel => exact ⟨y + 1, by omega, by go_num, hU.drewN _⟩
              case measure => simp [intOf]; omega
            · obtain rfl : y = n := by omega
              go_wp2
              go_ret
              exact ⟨rfl, (hup5.trans hw7).trans hU⟩
        | true =>
          subst hcv
          have hrr := HCC.out
          rw [Bool.and_eq_true] at hrr
          obtain ⟨hr1, hr2⟩ := hrr
          have hr0 := HRR.out
          rw [hr1, Bool.and_eq_true] at hr0
          have hRA := (rowB_iff n S A).1 hr0.1
          have hRB := (rowB_iff n S B).1 hr0.2
          have hdis : ∀ x, x ∈ A → x ∉ B := fun x hx => by
            have := List.all_eq_true.1 hr2 x hx
            simpa using this
          have hblk : ∀ g, g ∈ w3.heap.size :: ba :: S.blk n → w.heap.size + 1 ≤ g := fun g hg => by
            rcases List.mem_cons.1 hg with rfl | hg
            · exact hsz3
            · rcases List.mem_cons.1 hg with rfl | hg
              · exact hlb
              · have := (HTA.out.f.blk_lo hg).1; omega
          have kC := carry_law bt ba lo n w.heap.size w3.heap.size S zs (.slice a0 n c0) _ _ A B 0 wc (HFL.out.upd0 h45) (S1.out.fresh hup5 (fun g hg => Or.inr (by have := hblk g hg; omega))) (S2.out.fresh hup5 (fun g hg => Or.inr (by have := hblk g hg; omega))) hRA hRB hdis (by omega)
          have HBK := Lib.hid hblk
          have HZN := Lib.hid hZn
          have HRT := Lib.hid (And.intro hRA.1 hRB.1)
          clear hRA hRB hdis hr0 hr1 hr2 hblk hZn hzl
          go_wp2_with ((go_at_call 15; (with_reducible refine (kC).mono ?_)); rintro e w5 ⟨S5, v5, O, q5, rfl, fl5, to5, g5, oo5, so5, u5, b5⟩; obtain ⟨a5, c5, rfl, hc5⟩ := so5.shape)
          have hcar := carried g5 to5
          have hpr := carried_all g5 to5
          have kT := told_any [w3.heap.size] w5 bt ba lo n S5 fl5.f (fun g hg => by simp at hg; subst hg; exact fl5.l.row.lt)
          (with_reducible refine (kT).mono ?_)
          rintro e w6 ⟨a6, c6, rfl, hz6, hu6⟩
          have hb6 : Upd [] (w.alloc (.cells #[.slice a1 i c1, .slice a2 lb c2] 55)) w6 := ((HB4.out.trans h45).joined u5 (fun g hg => Or.inr (by simpa using HBK.out g hg))).trans hu6
          have kR := fun m => zrow_any (w6.drewN m) _ [] _ _ (toldZ n S5.f) O (hz6.drewN m) (so5.any.upd (hu6.drewN m) (by simp))
          simp only [row_same (told_rel n S5.f) fl5.ok, (rowB_iff n S5 O).2 hcar.row] at kR
          have hzl : (toldZ n S5.f).length = n := (told_rel n S5.f).1
          have q0' := R0.out _ hb6
          have q1' := R1.out _ hb6
          have ca := hu6.was (fl5.l.row.cellAt 1 (by omega) (v := .int .i64 (q5 : Int)) rfl)
          have hq5 : q5 ≤ i + lb := by have := hcar.cnt; rw [HAL.out, HBL.out] at this; omega
          have HCAR := Lib.hid hcar
          have HPR := Lib.hid hpr
          have HZ6 := Lib.hid hz6
          have HSO := Lib.hid so5
          have HFL5 := Lib.hid fl5
          have HU5 := Lib.hid u5
          have hq5' : (q5 : Int) ≤ (i : Int) + (lb : Int) := by omega
          have hq6 : ¬ ((i : Int) + (lb : Int) < (q5 : Int)) := by omega
          have hsum : IntKind.i64.wrap ((i : Int) + (lb : Int)) = (i : Int) + (lb : Int) := IntWalk.i64_in _ (by omega)
          clear hcar hpr hz6 so5 fl5 u5 kT kC to5 g5 oo5 b5 hzl q0 q1
          go_wp2
          go_quiet ((go_at_call 23; exact Calls.quiet_of (kR _)))
          clear hsum
          go_wp2_with (at_make; refine wpList_make_row rfl _ 30 rfl 3 (.int .i64 0) 1 8 Try.underlying30 intInfo n rfl (by omega) (by unfold maxLen; omega) ?_; intro w7 hr7 hu7)
          obtain ⟨nL, hnL⟩ : ∃ k, k = i + lb := ⟨_, rfl⟩
          have HNL := Lib.hid hnL
          have hnL2 : nL ≤ 60 := by omega
          clear hnL
          have hup6 : Upd [] w w6 := (hup5.joined HU5.out (fun g hg => Or.inr (by have := HBK.out g hg; omega))).trans hu6
          have hup7 : Upd [] w w7 := (hup6.drewN _).trans hu7
          have hb7 := (hb6.drewN nq).trans hu7
          have hlt7 : w6.heap.size < w7.heap.size := hr7.lt
          have r0 : ∀ W, Upd [] w7 W → W.cell? ⟨w.heap.size, 0, none⟩ = some (.slice a1 i c1) := fun W h => R0.out W (hb7.trans h)
          have r1 : ∀ W, Upd [] w7 W → W.cell? ⟨w.heap.size, 1, none⟩ = some (.slice a2 lb c2) := fun W h => R1.out W (hb7.trans h)
          have hS0 : Upd [] w7 w7 := Upd.refl _ _
          have SA7 := Lib.hid (show ∀ W, Upd [] w7 W → SlI W [] (.slice a1 i c1) A from fun W h => S1.out.upd (hup7.trans h) (by simp))
          have SB7 := Lib.hid (show ∀ W, Upd [] w7 W → SlI W [] (.slice a2 lb c2) B from fun W h => S2.out.upd (hup7.trans h) (by simp))
          have HR7 := Lib.hid hr7
          clear hr7
          go_region_held_law (fun W => Upd [] w7 W) (first | assumption | exact (Upd.refl [] w7).drew | exact ((Upd.refl [] w7).alloc _).drew | (refine Upd.drew ?_; assumption))
            (first
              | (refine step_append_sli (o := ⟨some 202, _, _, _, _, _⟩) rfl (.tmp 199) (.tmp 201) 30 rfl Try.underlying30 w7.heap.size _ i (intsZ A) rfl ho2 [] _ B rfl (SB7.out _ hS2) (by rw [HBL.out]; omega) (by have := hS2.size; omega) ?_
                 intro v3 w9 ho3 hu3
                 have hu3' : Upd (Value.slice a8 i c8).ownBlock.toList w8 w9 := hu3
                 have hS3 : Upd [] w7 w9 := hS2.joined hu3' (fun g hg => Or.inr (ho2.lt g (by simpa using hg)).1)
                 rw [HBL.out, ← intsZ_append, ← HNL.out] at ho3
                 obtain ⟨a9, c9, rfl, hc9⟩ := own_slice ho3
                 simp only [Act.put, List.setIfInBounds_toArray, List.set_cons_zero, List.set_cons_succ])
              | (refine step_append_sli (o := ⟨some 199, _, _, _, _, _⟩) rfl (.tmp 196) (.tmp 198) 30 rfl Try.underlying30 w7.heap.size _ 0 [] rfl (own_lit w7.drew [] 3 w7.heap.size 1 0 rfl (Nat.le_refl _) (by unfold maxLen; omega)) [] _ A rfl (SA7.out _ (hS0.drew.alloc _)) (by rw [HAL.out]; omega) (by simp) ?_
                 intro v2 w8 ho2 hu2
                 have hu2' : Upd [w7.heap.size] (w7.drew.alloc (.cells #[] 3)) w8 := hu2
                 have hS2 : Upd [] w7 w8 := (hS0.drew.alloc _).joined hu2' (fun g hg => Or.inr (by simp at hg; omega))
                 rw [HAL.out, Nat.zero_add, List.nil_append] at ho2
                 obtain ⟨a8, c8, rfl, hc8⟩ := own_slice ho2
                 simp only [Act.put, List.setIfInBounds_toArray, List.set_cons_zero, List.set_cons_succ]))
          have hLl : (A ++ B).length = nL := by rw [List.length_append, HAL.out, HBL.out, HNL.out]
          have sL : SlI w9 [w6.heap.size] (.slice a9 nL c9) (A ++ B) := SlI.of_lst (lo := w7.heap.size) (by rw [hLl]; exact LstAt.of_owns ho3) (fun g hg => by simp at hg; omega)
          have hz5 := (HZ4.out.upd h45 (by simp)).upd HU5.out (fun g h => h)
          have h69 : Upd [] w6 w9 := ((Upd.refl [] w6).drewN nq).trans (hu7.trans hS3)
          have hz9 : FrAt w9 [w6.heap.size, w3.heap.size] _ Z := (hz5.upd hu6 (by simp)).fresh (h69.mono (by simp)) (fun g hg => by
            rcases List.mem_cons.1 hg with rfl | hg
            · exact Or.inr (Nat.le_refl _)
            · exact Or.inl (by simp at hg; simp [hg]))
          have hn9 : FrAt w9 [w6.heap.size, w3.heap.size] _ (toldZ n S5.f) := HZ6.out.fresh (h69.mono (by simp)) (fun g hg => by
            rcases List.mem_cons.1 hg with rfl | hg
            · exact Or.inr (Nat.le_refl _)
            · exact Or.inl hg)
          have hO9 : SlI w9 [w6.heap.size] _ O := (HSO.out.any.upd hu6 (by simp)).fresh h69 (fun g hg => Or.inr (by simp at hg; omega))
          have hf9 : FL w9 bt ba lo n w.heap.size w3.heap.size S5 zs (.slice a0 n c0) q5 := (HFL5.out.upd0 hu6).upd0 h69
          have hr9 : RowAt w9 w6.heap.size 3 (n * 1) (cntV (allL n S.f ((A ++ B).take 0)) []) := (HR7.out.upd hS3 (by simp)).ext (fun j hj => by
            rw [show (Value.int .i64 0).cells = #[Value.int .i64 0] from rfl, Nat.mul_one, toList_madeCells_one]
            have hj' : j < n := by omega
            simp [allL, cntV, List.getElem?_replicate, hj'])
          have hup9 : Upd [] w w9 := hup7.trans hS3
          have hb9 := hb7.trans hS3
          have hsb : w6.heap.size < w9.heap.size := hr9.lt
          have hbs : w3.heap.size < w6.heap.size := by have := hf9.l.row.lt; have := HFL5.out.l.row.lt; have := hu6.size; omega
          have HSL := Lib.hid sL
          have HZ9 := Lib.hid hz9
          have HN9 := Lib.hid hn9
          have HO9 := Lib.hid hO9
          have HF9 := Lib.hid hf9
          have HR9 := Lib.hid hr9
          have HLL := Lib.hid hLl
          have hws : w.heap.size < w6.heap.size := by have := hup6.size; omega
          clear hLl sL hz5 hz9 hn9 hO9 hf9 hr9 r0 r1 ho2 ho3 hS2 hS0 hS3 hu2' hu3' hu2 hu3 q0' q1' ca kR
          have hcz : CubeZ Z := rel_cube HTA.out.r HTA.out.ok
          have hcn : CubeZ (toldZ n S5.f) := rel_cube (told_rel n S5.f) HF9.out.ok
          have kAll : ∀ (W : World) (X : Nat), X < n → Upd [w6.heap.size] w9 W → Calls Try.prog 21 #[.slice az Z.length cz, .int .i64 (X : Int), .int .i64 ((n : Int) + 1)] W fun e w' => ∃ v', e = .returned v' ∧ LstAt w' W.heap.size v' (allF n S.f (n + 1) X).length (intsZ (allF n S.f (n + 1) X)) ∧ Upd [] W w' := fun W X hX hW => by
            have := zall_lst _ _ Z hcz (n + 1) (by omega) (fun l x _ => by rw [all_f HTA.out.r]; have := allF_le HTA.out.ok l x; omega) X W (HZ9.out.upd hW (fun g h => by simp at h; simp [h])) (by rw [HZN.out]; exact hX)
            rw [all_f HTA.out.r] at this
            exact this
          have kAln : ∀ (W : World) (X : Nat), X < n → Upd [w6.heap.size] w9 W → Calls Try.prog 21 #[.slice a6 n c6, .int .i64 (X : Int), .int .i64 ((n : Int) + 1)] W fun e w' => ∃ v', e = .returned v' ∧ LstAt w' W.heap.size v' (allF n S5.f (n + 1) X).length (intsZ (allF n S5.f (n + 1) X)) ∧ Upd [] W w' := fun W X hX hW => by
            have := zall_lst _ _ (toldZ n S5.f) hcn (n + 1) (by omega) (fun l x _ => by rw [all_f (told_rel n S5.f)]; have := allF_le HF9.out.ok l x; omega) X W (HN9.out.upd hW (fun g h => by simp at h; simp [h])) (by rw [(told_rel n S5.f).1]; exact hX)
            rw [all_f (told_rel n S5.f)] at this
            exact this
          have HKA := Lib.hid kAll
          have HKN := Lib.hid kAln
          have HCN := Lib.hid hcn
          clear kAll kAln hcz hcn
          go_wp2_with fail
          go_loopw [204] (fun s204 wr => ∃ m : Nat, m ≤ nL ∧ s204 = .int .i64 (m : Int) ∧ RowAt wr w6.heap.size 3 (n * 1) (cntV (allL n S.f ((A ++ B).take m)) []) ∧ Upd [w6.heap.size] w9 wr) (fun s204 _ => nL - (intOf s204).toNat)
          case atStart => exact ⟨0, by omega, rfl, HR9.out, Upd.refl _ _⟩
          case round =>
            obtain ⟨m, hm, rfl, hr, hU⟩ := hrel
            by_cases hml : m < nL
            · obtain ⟨xm, hxm⟩ : ∃ y, (A ++ B)[m]? = some y := ⟨(A ++ B)[m]'(by rw [HLL.out]; exact hml), by simp⟩
              have hxr : 0 ≤ xm ∧ xm < n := by
                rcases List.mem_append.1 (List.mem_of_getElem? hxm) with h | h
                · have := HRT.out.1 xm h; omega
                · have := HRT.out.2 xm h; omega
              obtain ⟨X, rfl⟩ := Int.eq_ofNat_of_zero_le hxr.1
              have hXn : X < n := by omega
              obtain ⟨g1, o1, rfl, hg1, hgn, cx⟩ := (HSL.out.upd hU (fun g h => h)).at m _ hxm
              have kA := HKA.out wr X hXn hU
              have hsn := allL_snoc n S.f (A ++ B) m _ hxm
              have hle := allF_le HTA.out.ok (n + 1) (X : Int)
              have hTl := allL_le HTA.out.ok ((A ++ B).take m)
              have hTl2 : (allL n S.f ((A ++ B).take m)).length ≤ 1440 := by
                rw [List.length_take, HLL.out] at hTl
                have : min m nL * n ≤ 60 * 24 := Nat.mul_le_mul (by omega) (by omega)
                omega
              have hmem : ∀ t, t ∈ allF n S.f (n + 1) (X : Int) → 0 ≤ t ∧ t < n := fun t ht => by
                obtain ⟨t', e, h1, _⟩ := allF_anc HTA.out.ok (n + 1) X t hXn ht
                omega
              have HSN := Lib.hid hsn
              have HMEM := Lib.hid hmem
              have HRR' := Lib.hid hr
              have hzr := hr.lt
              clear hsn hmem hr hxm hTl
              generalize allF n S.f (n + 1) (X : Int) = ay at *
              generalize allL n S.f ((A ++ B).take m) = T at *
              generalize hayl : ay.length = na at *
              have HAYL := Lib.hid hayl
              clear hayl
              go_wp2_with ((go_at_call 21; (with_reducible refine (kA).mono ?_)); rintro e wx ⟨vx, rfl, hlx, hux⟩; have sx := SlI.of_lst (F := [w6.heap.size]) (xs := ay) (by rw [HAYL.out]; exact hlx) (fun g hg => by simp at hg; omega); obtain ⟨ax, cx2, hvx, hcx2⟩ := sx.shape'; rw [HAYL.out] at hvx; subst hvx)
              have hUx : Upd [w6.heap.size] w9 wx := hU.then hux
              have hrx := HRR'.out.upd hux (by simp)
              obtain ⟨wo, hwo⟩ : ∃ wo : World, wo = wx := ⟨_, rfl⟩
              subst hwo
              have HSX := Lib.hid sx
              clear sx
              go_loopw [214] (fun s214 wq => ∃ q : Nat, q ≤ na ∧ s214 = .int .i64 (q : Int) ∧ RowAt wq w6.heap.size 3 (n * 1) (cntV (T ++ ay.take q) []) ∧ Upd [w6.heap.size] wo wq) (fun s214 _ => na - (intOf s214).toNat)
              case atStart => exact ⟨0, by omega, rfl, by simpa using hrx, Upd.refl _ _⟩
              case round =>
                obtain ⟨q, hq, rfl, hrq, hUq⟩ := hrel
                by_cases hqn : q < na
                · obtain ⟨yq, hyq⟩ : ∃ y, ay[q]? = some y := ⟨ay[q]'(by rw [HAYL.out]; exact hqn), by simp⟩
                  have hyr := HMEM.out yq (List.mem_of_getElem? hyq)
                  obtain ⟨Y, rfl⟩ := Int.eq_ofNat_of_zero_le hyr.1
                  have hYn : Y < n := by omega
                  obtain ⟨g2, o2, rfl, hg2, hgn2, cy⟩ := (HSX.out.upd hUq (fun g h => h)).at q _ hyq
                  obtain ⟨c, hc1, hc2, hc3, hc4⟩ := cnt_bd (T ++ ay.take q) [] Y
                  have d0 := hrq.cellAt Y (by omega) hc1
                  have e0 := hrq.free Y
                  have hst := hrq.set Y (.int .i64 (c + 1))
                  have hst2 := hst.ext (fun j hj => cnt_stepA (T ++ ay.take q) Y c hc4 j)
                  rw [List.append_assoc, show ay.take q ++ [(Y : Int)] = ay.take (q + 1) by rw [List.take_add_one, hyq]; rfl] at hst2
                  have hcb : 0 ≤ c ∧ c ≤ 1500 := by
                    rw [List.length_append, List.length_take] at hc3
                    simp at hc2
                    omega
                  obtain ⟨hcb1, hcb2⟩ := hcb
                  have HST := Lib.hid hst2
                  clear hst hst2 hc1 hc2 hc3 hc4 hyq hrq
                  go_wp2_with fail
                  go_roundw
                  case rel => exact ⟨q + 1, by omega, by go_num, HST.out, hUq.setCell (Or.inl (by simp)) _⟩
                  case measure => simp [intOf]; omega
                · obtain rfl : q = na := by omega
                  rw [List.take_of_length_le (by rw [HAYL.out]; omega), ← HSN.out] at hrq
                  have HRQ := Lib.hid hrq
                  clear hrq
                  go_wp2_with fail
                  go_roundw
                  case rel => exact ⟨m + 1, by omega, by go_num, HRQ.out, hUx.trans hUq⟩
                  case measure => simp [intOf]; omega
            · obtain rfl : m = nL := by omega
              rw [List.take_of_length_le (by rw [HLL.out]; omega)] at hr
              clear HR9
              have hTT : (allL n S.f (A ++ B)).length ≤ 1440 := by
                have h1 := allL_le HTA.out.ok (A ++ B)
                rw [HLL.out] at h1
                have : m * n ≤ 60 * 24 := Nat.mul_le_mul (by omega) (by omega)
                omega
              have hOn : O.length ≤ 60 := by
                have h1 := HCAR.out.cnt
                rw [HAL.out, HBL.out] at h1
                omega
              have hrow := HCAR.out.row.1
              have hperm := HPR.out.1
              have HROW := Lib.hid hrow
              have HPERM := Lib.hid hperm
              have hr0 : RowAt wr w6.heap.size 3 (n * 1) (cntV (allL n S.f (A ++ B)) (allL n S5.f (O.take 0))) := by simpa [allL] using hr
              clear hrow hperm hr
              generalize allL n S.f (A ++ B) = T at *
              generalize hOl : O.length = nO at *
              have HOL := Lib.hid hOl
              have HR0 := Lib.hid hr0
              clear hOl hr0
              obtain ⟨w10, hw10⟩ : ∃ wo : World, wo = wr := ⟨_, rfl⟩
              subst hw10
              go_wp2_with fail
              go_loopw [228] (fun s228 wr => ∃ m : Nat, m ≤ nO ∧ s228 = .int .i64 (m : Int) ∧ RowAt wr w6.heap.size 3 (n * 1) (cntV T (allL n S5.f (O.take m))) ∧ Upd [w6.heap.size] w9 wr) (fun s228 _ => nO - (intOf s228).toNat)
              case atStart => exact ⟨0, by omega, rfl, HR0.out, hU⟩
              case round =>
                clear hU
                obtain ⟨k, hk, rfl, hr, hU⟩ := hrel
                by_cases hkl : k < nO
                · obtain ⟨xm, hxm⟩ : ∃ y, O[k]? = some y := ⟨O[k]'(by rw [HOL.out]; exact hkl), by simp⟩
                  have hxr : 0 ≤ xm ∧ xm < n := by have := HROW.out xm (List.mem_of_getElem? hxm); omega
                  obtain ⟨X, rfl⟩ := Int.eq_ofNat_of_zero_le hxr.1
                  have hXn : X < n := by omega
                  obtain ⟨g1, o1, rfl, hg1, hgn, cx⟩ := (HO9.out.upd hU (fun g h => h)).at k _ hxm
                  have kA := HKN.out wr X hXn hU
                  have hsn := allL_snoc n S5.f O k _ hxm
                  have hle := allF_le HF9.out.ok (n + 1) (X : Int)
                  have hTl := allL_le HF9.out.ok (O.take k)
                  have hTl2 : (allL n S5.f (O.take k)).length ≤ 1440 := by
                    rw [List.length_take, HOL.out] at hTl
                    have : min k nO * n ≤ 60 * 24 := Nat.mul_le_mul (by omega) (by omega)
                    omega
                  have hmem : ∀ t, t ∈ allF n S5.f (n + 1) (X : Int) → 0 ≤ t ∧ t < n := fun t ht => by
                    obtain ⟨t', e, h1, _⟩ := allF_anc HF9.out.ok (n + 1) X t hXn ht
                    omega
                  have HSN := Lib.hid hsn
                  have HMEM := Lib.hid hmem
                  have HRR' := Lib.hid hr
                  have hzr := hr.lt
                  clear hsn hmem hr hxm hTl
                  generalize allF n S5.f (n + 1) (X : Int) = ay at *
                  generalize allL n S5.f (O.take k) = M at *
                  generalize hayl : ay.length = na at *
                  have HAYL := Lib.hid hayl
                  clear hayl
                  go_wp2_with ((go_at_call 21; (with_reducible refine (kA).mono ?_)); rintro e wx ⟨vx, rfl, hlx, hux⟩; have sx := SlI.of_lst (F := [w6.heap.size]) (xs := ay) (by rw [HAYL.out]; exact hlx) (fun g hg => by simp at hg; omega); obtain ⟨ax, cx2, hvx, hcx2⟩ := sx.shape'; rw [HAYL.out] at hvx; subst hvx)
                  have hUx : Upd [w6.heap.size] w9 wx := hU.then hux
                  have hrx := HRR'.out.upd hux (by simp)
                  obtain ⟨wo, hwo⟩ : ∃ wo : World, wo = wx := ⟨_, rfl⟩
                  subst hwo
                  have HSX := Lib.hid sx
                  clear sx
                  go_loopw [238] (fun s238 wq => ∃ q : Nat, q ≤ na ∧ s238 = .int .i64 (q : Int) ∧ RowAt wq w6.heap.size 3 (n * 1) (cntV T (M ++ ay.take q)) ∧ Upd [w6.heap.size] wo wq) (fun s238 _ => na - (intOf s238).toNat)
                  case atStart => exact ⟨0, by omega, rfl, by simpa using hrx, Upd.refl _ _⟩
                  case round =>
                    obtain ⟨q, hq, rfl, hrq, hUq⟩ := hrel
                    by_cases hqn : q < na
                    · obtain ⟨yq, hyq⟩ : ∃ y, ay[q]? = some y := ⟨ay[q]'(by rw [HAYL.out]; exact hqn), by simp⟩
                      have hyr := HMEM.out yq (List.mem_of_getElem? hyq)
                      obtain ⟨Y, rfl⟩ := Int.eq_ofNat_of_zero_le hyr.1
                      have hYn : Y < n := by omega
                      obtain ⟨g2, o2, rfl, hg2, hgn2, cy⟩ := (HSX.out.upd hUq (fun g h => h)).at q _ hyq
                      obtain ⟨c, hc1, hc2, hc3, hc4⟩ := cnt_bd T (M ++ ay.take q) Y
                      have d0 := hrq.cellAt Y (by omega) hc1
                      have e0 := hrq.free Y
                      have hst := hrq.set Y (.int .i64 (c - 1))
                      have hst2 := hst.ext (fun j hj => cnt_stepB T (M ++ ay.take q) Y c hc4 j)
                      rw [List.append_assoc, show ay.take q ++ [(Y : Int)] = ay.take (q + 1) by rw [List.take_add_one, hyq]; rfl] at hst2
                      have hcb : -1500 ≤ c ∧ c ≤ 1500 := by
                        rw [List.length_append, List.length_take] at hc2
                        omega
                      obtain ⟨hcb1, hcb2⟩ := hcb
                      have HST := Lib.hid hst2
                      clear hst hst2 hc1 hc2 hc3 hc4 hyq hrq
                      go_wp2_with fail
                      go_roundw
                      case rel => exact ⟨q + 1, by omega, by go_num, HST.out, hUq.setCell (Or.inl (by simp)) _⟩
                      case measure => simp [intOf]; omega
                    · obtain rfl : q = na := by omega
                      rw [List.take_of_length_le (by rw [HAYL.out]; omega), ← HSN.out] at hrq
                      have HRQ := Lib.hid hrq
                      clear hrq
                      go_wp2_with fail
                      go_roundw
                      case rel => exact ⟨k + 1, by omega, by go_num, HRQ.out, hUx.trans hUq⟩
                      case measure => simp [intOf]; omega
                · obtain rfl : k = nO := by omega
                  rw [List.take_of_length_le (by rw [HOL.out]; omega)] at hr
                  have hrz := hr.ext (fun j hj => cnt_zero HPERM.out j)
                  have hf10 : FL wr bt ba lo n w.heap.size w3.heap.size S5 zs (.slice a0 n c0) q5 := by
                    have h := HF9.out
                    have hold := h.old
                    have hno : ∀ g, g ∈ w3.heap.size :: ba :: S5.blk n → g ∉ [w6.heap.size] := fun g hg hm => by
                      simp at hm
                      subst hm
                      rcases List.mem_cons.1 hg with h1 | h1
                      · omega
                      · rcases List.mem_cons.1 h1 with h2 | h2
                        · have := HFL5.out.f.row.lt; have := hu6.size; omega
                        · have := (HFL5.out.f.blk_lo h2).2; have := hu6.size; omega
                    exact ⟨h.f.upd hU (by have := HFL5.out.t; have := hu6.size; simp; omega) (hno ba (by simp)) (fun g hg => hno g (by simp [hg])), h.l.upd hU (fun g hg => by simp at hg; omega), h.a, Nat.lt_of_lt_of_le h.t hU.size, h.ok⟩
                  have hz10 := HZ9.out.upd hU (fun g h => by simp at h; simp [h])
                  have hn10 := HN9.out.upd hU (fun g h => by simp at h; simp [h])
                  have hup10 : Upd [] w wr := hup9.joined hU (fun g hg => Or.inr (by simp at hg; omega))
                  have HRZ := Lib.hid hrz
                  have HF10 := Lib.hid hf10
                  have HZ10 := Lib.hid hz10
                  have HN10 := Lib.hid hn10
                  clear hr hrz hf10 hz10 hn10 HR0
                  obtain ⟨w11, hw11⟩ : ∃ wo : World, wo = wr := ⟨_, rfl⟩
                  subst hw11
                  go_wp2_with fail
                  go_loopw [252] (fun s252 wq => ∃ (x q : Nat), x ≤ n ∧ s252 = .int .i64 (x : Int) ∧ q ≤ q5 + x ∧ LesserAt wq w.heap.size w3.heap.size (.slice a0 n c0) zs q ∧ Upd [w3.heap.size] w11 wq) (fun s252 _ => n - (intOf s252).toNat)
                  case atStart => exact ⟨0, q5, by omega, rfl, by omega, HF10.out.l, Upd.refl _ _⟩
                  case round =>
                    obtain ⟨x, q, hx, rfl, hq, hL, hUq⟩ := hrel
                    by_cases hxn : x < n
                    · have d0 := (HRZ.out.upd hUq (by simp; omega)).cellAt x (by omega) rfl
                      have kU5 := zup_any wr _ _ _ (x : Int) (HN10.out.upd hUq (fun g h => by simp at h; simp [h]))
                      have kU0 := zup_any wr _ _ _ (x : Int) (HZ10.out.upd hUq (fun g h => by simp at h; simp [h]))
                      have kC := zcube_yes _ _ _ wr (HN10.out.upd hUq (fun g h => by simp at h; simp [h])) HCN.out n (by omega) x (by rw [(told_rel n S5.f).1]; exact hxn)
                      rw [rel_up (told_rel n S5.f) HF10.out.ok] at kU5
                      rw [rel_up HTA.out.r HTA.out.ok] at kU0
                      have e5 : upF n S5.f (x : Int) = if S5.u x = -1 then none else some (S5.u x) := by unfold upF; rw [if_pos (by omega), Int.toNat_natCast]; rfl
                      have e0 : upF n S.f (x : Int) = if S.u x = -1 then none else some (S.u x) := by unfold upF; rw [if_pos (by omega), Int.toNat_natCast]; rfl
                      rw [e5] at kU5
                      rw [e0] at kU0
                      have HLL' := Lib.hid hL
                      clear e5 e0
                      rcases HF10.out.ok.up x hxn with hux | ⟨p, hp, hux, _⟩
                      · have hux' : S5.u x = -1 := hux
                        rw [if_pos hux', show ov none = 0 from rfl, show ob none = false from rfl] at kU5
                        clear hux hux'
                        generalize (if S.u x = -1 then none else some (S.u x)) = o0 at *
                        generalize ov o0 = ov0 at *
                        generalize ob o0 = ob0 at *
                        clear hL
                        go_wp2_with (first
                          | (go_at_call 19; (with_reducible refine (kU5).mono ?_); rintro e w9 ⟨rfl, hw9⟩; rw [hw9]; clear hw9 w9)
                          | (go_at_call 19; (with_reducible refine (kU0).mono ?_); rintro e w9 ⟨rfl, hw9⟩; rw [hw9]; clear hw9 w9)
                          | (go_at_call 20; (with_reducible refine (kC).mono ?_); rintro e w9 ⟨rfl, hw9⟩; rw [hw9]; clear hw9 w9))
                        go_roundw
                        case rel => exact ⟨x + 1, q, by omega, by go_num, by omega, HLL'.out, hUq⟩
                        case measure => simp [intOf]; omega
                      · have hux' : S5.u x = (p : Int) := hux
                        rw [if_neg (by omega), hux', show ov (some (p : Int)) = (p : Int) from rfl, show ob (some (p : Int)) = true from rfl] at kU5
                        have kA := ahead_any wr w.heap.size w3.heap.size _ zs q x p hL (by omega)
                        have hrl := HPR.out.2 x p hxn hux
                        have HRL := Lib.hid (show S.u x = (p : Int) ∨ aheadB zs x p = false from hrl)
                        clear hux hux' hrl hL
                        by_cases hsp : S.u x = (p : Int)
                        · have b1 : ((p : Int) == (p : Int)) = true := by simp
                          rw [if_neg (by omega), hsp, show ov (some (p : Int)) = (p : Int) from rfl, show ob (some (p : Int)) = true from rfl] at kU0
                          clear kA hsp
                          go_wp2_with (first
                            | (go_at_call 19; (with_reducible refine (kU5).mono ?_); rintro e w9 ⟨rfl, hw9⟩; rw [hw9]; clear hw9 w9)
                            | (go_at_call 19; (with_reducible refine (kU0).mono ?_); rintro e w9 ⟨rfl, hw9⟩; rw [hw9]; clear hw9 w9)
                            | (go_at_call 20; (with_reducible refine (kC).mono ?_); rintro e w9 ⟨rfl, hw9⟩; rw [hw9]; clear hw9 w9))
                          go_roundw
                          case rel => exact ⟨x + 1, q, by omega, by go_num, by omega, HLL'.out, hUq⟩
                          case measure => simp [intOf]; omega
                        · have hah : aheadB zs x p = false := by rcases HRL.out with h | h; exact absurd h hsp; exact h
                          rw [hah] at kA
                          clear hah
                          by_cases hs1 : S.u x = -1
                          · rw [if_pos hs1, show ov none = 0 from rfl, show ob none = false from rfl] at kU0
                            clear hs1 hsp
                            go_wp2_with (first
                              | (go_at_call 19; (with_reducible refine (kU5).mono ?_); rintro e w9 ⟨rfl, hw9⟩; rw [hw9]; clear hw9 w9)
                              | (go_at_call 19; (with_reducible refine (kU0).mono ?_); rintro e w9 ⟨rfl, hw9⟩; rw [hw9]; clear hw9 w9)
                              | (go_at_call 20; (with_reducible refine (kC).mono ?_); rintro e w9 ⟨rfl, hw9⟩; rw [hw9]; clear hw9 w9)
                              | ((go_at_call 16; (with_reducible refine (kA).mono ?_)); rintro e w12 ⟨rfl, hL5, hu5⟩))
                            go_roundw
                            case rel => exact ⟨x + 1, q + 1, by omega, by go_num, by omega, hL5, hUq.trans hu5⟩
                            case measure => simp [intOf]; omega
                          · rw [if_neg hs1] at kU0
                            generalize S.u x = y at *
                            rw [show ov (some y) = y from rfl, show ob (some y) = true from rfl] at kU0
                            have b1 : ((p : Int) == y) = false := by simp; omega
                            clear hs1 hsp
                            go_wp2_with (first
                              | (go_at_call 19; (with_reducible refine (kU5).mono ?_); rintro e w9 ⟨rfl, hw9⟩; rw [hw9]; clear hw9 w9)
                              | (go_at_call 19; (with_reducible refine (kU0).mono ?_); rintro e w9 ⟨rfl, hw9⟩; rw [hw9]; clear hw9 w9)
                              | (go_at_call 20; (with_reducible refine (kC).mono ?_); rintro e w9 ⟨rfl, hw9⟩; rw [hw9]; clear hw9 w9)
                              | ((go_at_call 16; (with_reducible refine (kA).mono ?_)); rintro e w12 ⟨rfl, hL5, hu5⟩))
                            go_roundw
                            case rel => exact ⟨x + 1, q + 1, by omega, by go_num, by omega, hL5, hUq.trans hu5⟩
                            case measure => simp [intOf]; omega
                    · obtain rfl : x = n := by omega
                      go_wp2_with fail
                      go_ret
                      exact ⟨rfl, hup10.joined hUq (fun g hg => Or.inr (by simp at hg; omega))⟩
end Go.Proofs.Ytdgohhkgmfjhaaa
