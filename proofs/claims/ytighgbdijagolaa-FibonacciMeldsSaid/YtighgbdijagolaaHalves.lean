/-
  halves of a nest of whatever kind says yes. Conditions: those of each lemma.
-/
import Derived.Test.YtighgbdijagolaaHalvesP
import Derived.Test.YtighgbdijagolaaSorts
import Derived.Deep.DeepCutAuto
set_option linter.unusedVariables false
set_option linter.unusedSimpArgs false
namespace Go.Proofs.Ytighgbdijagolaa
open Go Go.RowKit

section
variable {K : NestK} {w : World} {p : Nat} {F : List Nat} {A : NS} {st : Nat} {g : K.G} {v : Value}
/-- Truths, read wherever they lie, in no block of F. -/
def Truths (w : World) (F : List Nat) (a : Option Addr) (ll : Nat) (lf : Nat → Bool) : Prop := 0 < ll → ∃ b off, a = some ⟨b, off, none⟩ ∧ b ∉ F ∧ ∀ j, j < ll → w.cell? ⟨b, off + j, none⟩ = some (.bool (lf j))
def sideF (ll : Nat) (lf : Nat → Bool) (j : Nat) : Int := if j < ll ∧ lf j = true then 2 else 1
theorem side_two (ll : Nat) (lf : Nat → Bool) (j : Nat) : sideF ll lf j = 1 ∨ sideF ll lf j = 2 := by unfold sideF; split <;> simp
set_option maxHeartbeats 8000000 in
set_option maxRecDepth 10000 in
theorem halves_any (ks : List Int) (al : Option Addr) (ll capl : Nat) (lf : Nat → Bool) (low gone : Int) (hK : K.at_ w p F (NS.new ks.length) st g) (hs : SlR w F v ks) (hlf : Truths w F al ll lf) (hl : ks.length ≤ 200) (hk : ∀ n ∈ ks, -9223372036854775808 ≤ n ∧ n ≤ 9223372036854775807)
    (hlow : -9223372036854775808 ≤ low ∧ low ≤ 9223372036854775807) (hgone : -9223372036854775808 ≤ gone ∧ gone ≤ 9223372036854775807) (hll : ll ≤ 9223372036854775807) :
    Calls Try.prog 49 #[.iface K.ty (.pointer (some ⟨p, 0, none⟩)), v, .agg #[.slice al ll capl, .int .i64 low, .int .i64 gone]] w fun e w' => e = .returned (.bool true) ∧ Goes F w w' (fun _ => True) := by
  obtain ⟨a, cap, rfl, hcell⟩ := hs
  have HC := Lib.hid (And.intro hcell hlf)
  have HKs := Lib.hid hk
  have HK := Lib.hid hK
  have hkg : Hid (∀ j, -9223372036854775808 ≤ ks.getD j 0) := fun j => by
    rw [List.getD_eq_getElem?_getD]
    cases e : ks[j]? with
    | none => simp
    | some x => exact (hk x (List.mem_of_getElem? e)).1
  have hh : Hid (∀ j, sideF ll lf j = 1 ∨ sideF ll lf j = 2) := side_two ll lf
  have hz0 := halfN_zero (ks := ks) (sideF ll lf)
  clear hcell hk hlf hK
  generalize hn : ks.length = n at *
  have HN := Lib.hid hn
  go_enter Try.func49, Try.ntmps49
  go_wp2
  go_quiet (fail)
  obtain ⟨wA, hwA⟩ : ∃ wA, wA = (w.alloc (.cells #[.slice al ll capl, .int .i64 low, .int .i64 gone] 47)).drewN nq := ⟨_, rfl⟩
  rw [← hwA]
  have uA : Upd [] w wA := by rw [hwA]; (repeat (first | assumption | exact Upd.refl _ _ | refine Upd.alloc ?_ _ | refine Upd.drew ?_ | refine Upd.drewN ?_ _ | refine Upd.setCell ?_ ?_ _ | focus (left; simp; done) | focus (right; simp; done) | focus (right; simp; omega)))
  clear hwA
  obtain ⟨f0, v0, hen0, hm0, hc0⟩ := (K.make 0 0 0 0 (K.upd HK.out uA (by simp))).now
  unfold Enters at hen0
  rw [show makeV (NS.new n) = 1 from rfl] at hc0
  go_wp2_with (first
    | ((with_reducible refine (hc0).mono ?_); rintro e w1 ⟨rfl, F1, hA1, hu1, hF1⟩; obtain ⟨f1, v1, hen1, hm1, hc1⟩ := (K.make 0 0 0 0 hA1).now; (unfold Enters at hen1); rw [show makeV (makeN (NS.new n)) = 2 from rfl, hz0] at hc1)
    | ((with_reducible refine (hc1).mono ?_); rintro e w2 ⟨rfl, F2, hA2, hu2, hF2⟩)
    | fail)
  have hG1 : Goes F w w2 (fun F' => ∃ st' g', K.at_ w2 p F' (halfN ks (sideF ll lf) 0) st' g') := (show Goes F w w1 (fun F' => F' = F1) from ⟨F1, rfl, (uA.mono (by simp)).trans hu1, fun x hx => (hF1 x hx).imp id (fun h => by have := uA.size; omega)⟩).next (fun F' e => by subst e; exact ⟨F2, ⟨_, _, hA2⟩, hu2, hF2⟩)
  clear hm0 hc0 hm1 hc1 hA1 hu1 hF1 hA2 hu2 hF2 hz0 hen0 hen1
  go_loopw [31] (fun j wr => ∃ i : Nat, i ≤ n ∧ j = .int .i64 (i : Int) ∧ Goes F w wr (fun F' => ∃ st' g', K.at_ wr p F' (halfN ks (sideF ll lf) i) st' g')) (fun j _ => n - (intOf j).toNat)
  case atStart => exact ⟨0, by omega, rfl, hG1⟩
  case round =>
    obtain ⟨i, hi, rfl, F1, ⟨st1, g1, hA1⟩, hu1, hF1⟩ := hrel
    rename World => w3
    clear hG1
    have hn' := HN.out
    by_cases hin : i < n
    · obtain ⟨gb, off, ha, hgb, hgF, hcl⟩ := HC.out.1 i (ks.getD i 0) (by rw [List.getElem?_eq_getElem (by omega), List.getD_eq_getElem?_getD, List.getElem?_eq_getElem (by omega)]; rfl)
      subst ha
      have hcl1 := hu1.kept hcl hgF
      obtain ⟨q1, q2⟩ := halfN_put (ks := ks) hh.out i (by omega)
      have hkb := HKs.out (ks.getD i 0) (by have := HN.out; rw [List.getD_eq_getElem?_getD, List.getElem?_eq_getElem (by omega)]; exact List.getElem_mem _)
      have hsb : sideF ll lf i = 1 ∨ sideF ll lf i = 2 := hh.out i
      obtain ⟨f1, v1, hen1, hm1, hc1⟩ := (K.insert ⟨1, sideF ll lf i, i, ks.getD i 0, 1⟩ ⟨by dsimp only; omega, by dsimp only; omega, by dsimp only; omega⟩ rfl hA1).now
      unfold Enters at hen1
      dsimp only at hc1
      rw [q1, q2] at hc1
      have hib : (i : Int) < (n : Int) := by omega
      have hwr : IntKind.i64.wrap ((i : Int) + 1) = (i : Int) + 1 := IntWalk.i64_in _ (by omega)
      have hG := Lib.hid (show Goes F w w3 (fun F' => F' = F1) from ⟨F1, rfl, hu1, hF1⟩)
      by_cases hlt : i < ll
      · obtain ⟨gl, offl, hal, hglF, hlc⟩ := HC.out.2 (by omega)
        have hlc1 := hu1.kept (hlc i hlt) hglF
        have hlb : (i : Int) < (ll : Int) := by omega
        have hs1 : sideF ll lf i = if lf i = true then 2 else 1 := by unfold sideF; simp [hlt]
        subst hal
        clear hA1 hu1 hF1 q1 q2 hcl hkb hlc hn'
        cases hlv : lf i
        · rw [hlv] at hlc1 hs1
          rw [if_neg (by simp)] at hs1
          rw [hs1] at hc1
          clear hs1 hsb
          generalize hz : ks.getD i 0 = z at *
          go_wp2_with (first
            | ((with_reducible refine (hc1).mono ?_); rintro e w4 ⟨rfl, F3, hA3, hu3, hF3⟩)
            | fail)
          exact ⟨⟨i + 1, by omega, by go_num, hG.out.next (fun F' e => by subst e; exact ⟨F3, ⟨_, _, hA3⟩, hu3, hF3⟩)⟩, by simp [intOf]; omega⟩
        · rw [hlv] at hlc1 hs1
          rw [if_pos rfl] at hs1
          rw [hs1] at hc1
          clear hs1 hsb
          generalize hz : ks.getD i 0 = z at *
          go_wp2_with (first
            | ((with_reducible refine (hc1).mono ?_); rintro e w4 ⟨rfl, F3, hA3, hu3, hF3⟩)
            | fail)
          exact ⟨⟨i + 1, by omega, by go_num, hG.out.next (fun F' e => by subst e; exact ⟨F3, ⟨_, _, hA3⟩, hu3, hF3⟩)⟩, by simp [intOf]; omega⟩
      · have hlb : ¬ (i : Int) < (ll : Int) := by omega
        have hs1 : sideF ll lf i = 1 := by unfold sideF; simp [hlt]
        rw [hs1] at hc1
        clear hA1 hu1 hF1 q1 q2 hcl hkb hs1 hsb hn'
        generalize hz : ks.getD i 0 = z at *
        go_wp2_with (first
          | ((with_reducible refine (hc1).mono ?_); rintro e w4 ⟨rfl, F3, hA3, hu3, hF3⟩)
          | fail)
        exact ⟨⟨i + 1, by omega, by go_num, hG.out.next (fun F' e => by subst e; exact ⟨F3, ⟨_, _, hA3⟩, hu3, hF3⟩)⟩, by simp [intOf]; omega⟩
    · obtain rfl : i = n := by omega
      have hlz := meldN_lenN (ks := ks) hh.out
      obtain ⟨m1, m2, m3⟩ := meldN_has (ks := ks) (hf := sideF ll lf)
      have hjn : joinN (halfN ks (sideF ll lf) i) 1 2 = meldN ks (sideF ll lf) := by rw [← hn']; rfl
      have hjb : joinB (halfN ks (sideF ll lf) i) 1 2 = true := by rw [← hn']; exact half_join
      have hjm : joinN (meldN ks (sideF ll lf)) 1 2 = meldN ks (sideF ll lf) := by unfold joinN; rw [if_neg (by rw [m3]; simp)]
      obtain ⟨f1, v1, hen1, hm1, hc1⟩ := (K.meld ⟨6, 1, 2, 0, 0⟩ ⟨by dsimp only; omega, by dsimp only; omega, by dsimp only; omega⟩ rfl hA1).now
      unfold Enters at hen1
      dsimp only at hc1
      rw [hjb, hjn] at hc1
      have hG := Lib.hid (show Goes F w w3 (fun F' => F' = F1) from ⟨F1, rfl, hu1, hF1⟩)
      have km2 : ∀ (W : World) F' st' g', K.at_ W p F' (meldN ks (sideF ll lf)) st' g' → _ := fun W F' st' g' hA' => (K.meld ⟨6, 1, 2, 0, 0⟩ ⟨by dsimp only; omega, by dsimp only; omega, by dsimp only; omega⟩ rfl hA').now
      dsimp only at km2
      rw [m3, hjm] at km2
      have kl2 : ∀ (W : World) F' st' g', K.at_ W p F' (meldN ks (sideF ll lf)) st' g' → _ := fun W F' st' g' hA' => (K.len 1 (by omega) hA').now
      rw [hlz, hn'] at kl2
      have kh2 : ∀ (W : World) F' st' g', K.at_ W p F' (meldN ks (sideF ll lf)) st' g' → _ := fun W F' st' g' hA' => (K.has 2 hA').now
      rw [m2] at kh2
      clear hA1 hu1 hF1 hlz m1 m2 m3 hjn hjb hjm
      go_upto_region 15 with (first
        | ((with_reducible refine (hc1).mono ?_); rintro e w4 ⟨rfl, F4, hA4, hu4, hF4⟩; obtain ⟨f2, v2, hen2, hm2, hc2⟩ := km2 w4 F4 _ _ hA4; (unfold Enters at hen2))
        | ((with_reducible refine (hc2).mono ?_); rintro e w5 ⟨rfl, F5, hA5, hu5, hF5⟩; obtain ⟨f3, v3, hen3, hm3, hc3⟩ := kl2 w5 F5 _ _ hA5; (unfold Enters at hen3); obtain ⟨f4, v4, hen4, hm4, hc4⟩ := kh2 w5 F5 _ _ hA5; (unfold Enters at hen4))
        | ((with_reducible refine (hc3).mono ?_); rintro e w9 ⟨rfl, hw9⟩; rw [hw9]; clear hw9 w9)
        | ((with_reducible refine (hc4).mono ?_); rintro e w9 ⟨rfl, hw9⟩; rw [hw9]; clear hw9 w9)
        | fail)
      have hG5 := Lib.hid ((hG.out.next (Q := fun F' => F' = F4) (fun F' e => by subst e; exact ⟨F4, rfl, hu4, hF4⟩)).next (Q := fun F' => F' = F5) (fun F' e => by subst e; exact ⟨F5, rfl, hu5, hF5⟩))
      have HA5 := Lib.hid hA5
      clear hc1 hm1 km2 kl2 kh2 hu4 hF4 hA4 hm2 hc2 hu5 hF5 hA5 hm3 hc3 hm4 hc4 hen1 hen2 hen3 hen4
      go_cut [93] (fun s93 wx => s93 = .bool (inRange i low) ∧ Goes F w wx (fun F' => ∃ st' g', K.at_ wx p F' (lowestN ks (sideF ll lf) low) st' g'))
      case first =>
        have hlb : inRange i low = true ∨ inRange i low = false := by cases inRange i low <;> simp
        by_cases h0 : 0 ≤ low
        · have b0 : low ≥ 0 := h0
          by_cases h1 : low < (i : Int)
          · have hr : inRange i low = true := by unfold inRange; simp [h0, h1]
            have hr' : inRange ks.length low = true := by rw [hn']; exact hr
            have hB := low_yes hh.out hr' hkg.out
            have hL : lowN (meldN ks (sideF ll lf)) low (-9223372036854775808) 0 = lowestN ks (sideF ll lf) low := by unfold lowestN; rw [if_pos hr']
            obtain ⟨f6, v6, hen6, hm6, hc6⟩ := (K.decrease ⟨4, 0, low, -9223372036854775808, 0⟩ ⟨by dsimp only; omega, by dsimp only; omega, by dsimp only; omega⟩ rfl HA5.out).now
            unfold Enters at hen6
            dsimp only at hc6
            rw [hB, hL] at hc6
            have HR := Lib.hid hr
            clear hr hr' hB hL hlb
            go_wp2_with (first
              | ((with_reducible refine (hc6).mono ?_); rintro e w6 ⟨rfl, F6, hA6, hu6, hF6⟩)
              | fail)
            go_meet
            rw [HR.out]
            exact ⟨rfl, hG5.out.next (fun F' e => by subst e; exact ⟨F6, ⟨_, _, hA6⟩, hu6, hF6⟩)⟩
          · have hr : inRange i low = false := by unfold inRange; simp [h1]
            have hL : lowestN ks (sideF ll lf) low = meldN ks (sideF ll lf) := by unfold lowestN; rw [hn', hr]; rfl
            have HR := Lib.hid (And.intro hr hL)
            clear hr hL hlb
            go_wp2
            go_meet
            rw [HR.out.1, HR.out.2]
            exact ⟨rfl, hG5.out.mono (fun F' e => by subst e; exact ⟨_, _, HA5.out⟩)⟩
        · have b0 : ¬ low ≥ 0 := h0
          have hr : inRange i low = false := by unfold inRange; simp [h0]
          have hL : lowestN ks (sideF ll lf) low = meldN ks (sideF ll lf) := by unfold lowestN; rw [hn', hr]; rfl
          have HR := Lib.hid (And.intro hr hL)
          clear hr hL hlb
          go_wp2
          go_meet
          rw [HR.out.1, HR.out.2]
          exact ⟨rfl, hG5.out.mono (fun F' e => by subst e; exact ⟨_, _, HA5.out⟩)⟩
      case rest =>
        obtain ⟨rfl, F6, ⟨st6, g6, hA6⟩, hu6, hF6⟩ := hcut
        rename World => w6
        have hG6 := Lib.hid (show Goes F w w6 (fun F' => F' = F6) from ⟨F6, rfl, hu6, hF6⟩)
        have HA6 := Lib.hid hA6
        clear hA6 hu6 hF6 hG5 HA5
        go_upto_if 93 with (fail)
        go_cut [15] (fun s15 wx => s15 = .int .i64 (if inRange i low then 1 else 0) ∧ wx = w6)
        case first =>
          cases hr : inRange i low with
          | false =>
            go_wp2
            go_meet
            exact ⟨by rw [hr]; rfl, rfl⟩
          | true =>
            go_wp2
            go_meet
            exact ⟨by rw [hr]; rfl, rfl⟩
        case rest =>
          obtain ⟨rfl, rfl⟩ := hcut
          generalize hth : (if inRange i low then (1 : Int) else 0) = th at *
          go_upto_region 17 with (fail)
          go_cut [112] (fun s112 wx => s112 = .bool false ∧ Goes F w wx (fun F' => ∃ st' g', K.at_ wx p F' (lastN ks (sideF ll lf) low gone) st' g'))
          case first =>
            by_cases h0 : 0 ≤ gone
            · have b0 : gone ≥ 0 := h0
              by_cases h1 : gone < (i : Int)
              · by_cases h2 : gone = low
                · have b2 : (gone != low) = false := by simp [h2]
                  have hr : goneB ks.length low gone = false := by unfold goneB; simp [h2]
                  have hL : lastN ks (sideF ll lf) low gone = lowestN ks (sideF ll lf) low := by unfold lastN; rw [hr]; rfl
                  have HR := Lib.hid hL
                  clear hr hL h2
                  go_wp2
                  go_meet
                  rw [HR.out]
                  exact ⟨rfl, hG6.out.mono (fun F' e => by subst e; exact ⟨_, _, HA6.out⟩)⟩
                · have b2 : (gone != low) = true := by simpa using h2
                  have hr : goneB ks.length low gone = true := by unfold goneB inRange; simp; omega
                  have hL : lastN ks (sideF ll lf) low gone = dropN (lowestN ks (sideF ll lf) low) gone := by unfold lastN; rw [if_pos hr]
                  have hin : inN (lowestN ks (sideF ll lf) low) gone = true := by
                    obtain ⟨y, rfl⟩ : ∃ y : Nat, gone = y := ⟨gone.toNat, by omega⟩
                    exact lowestN_in hh.out hkg.out low y (by omega)
                  obtain ⟨f7, v7, hen7, hm7, hc7⟩ := (K.delete ⟨5, 0, gone, 0, 0⟩ ⟨by dsimp only; omega, by dsimp only; omega, by dsimp only; omega⟩ rfl HA6.out).now
                  unfold Enters at hen7
                  dsimp only at hc7
                  rw [hin, ← hL] at hc7
                  clear hr hL h2 hin
                  go_wp2_with (first
                    | ((with_reducible refine (hc7).mono ?_); rintro e w7 ⟨rfl, F7, hA7, hu7, hF7⟩)
                    | fail)
                  go_meet
                  exact ⟨rfl, hG6.out.next (fun F' e => by subst e; exact ⟨F7, ⟨_, _, hA7⟩, hu7, hF7⟩)⟩
              · have hr : goneB ks.length low gone = false := by unfold goneB inRange; simp; omega
                have hL : lastN ks (sideF ll lf) low gone = lowestN ks (sideF ll lf) low := by unfold lastN; rw [hr]; rfl
                have HR := Lib.hid hL
                clear hr hL
                go_wp2
                go_meet
                rw [HR.out]
                exact ⟨rfl, hG6.out.mono (fun F' e => by subst e; exact ⟨_, _, HA6.out⟩)⟩
            · have b0 : ¬ gone ≥ 0 := h0
              have hr : goneB ks.length low gone = false := by unfold goneB inRange; simp; omega
              have hL : lastN ks (sideF ll lf) low gone = lowestN ks (sideF ll lf) low := by unfold lastN; rw [hr]; rfl
              have HR := Lib.hid hL
              clear hr hL
              go_wp2
              go_meet
              rw [HR.out]
              exact ⟨rfl, hG6.out.mono (fun F' e => by subst e; exact ⟨_, _, HA6.out⟩)⟩
          case rest =>
            obtain ⟨rfl, hG7⟩ := hcut
            clear hG6 HA6 HK
            go_wp2
            have hst : Goes F w wc (fun F' => ∃ B st' g', K.at_ wc p F' B st' g' ∧ B.cs.length = i ∧ lenN B 1 + 0 ≤ i ∧ Gone B low gone ∧ (0 = 0 → inRange i low = true → minN B 1 = some low.toNat)) := hG7.mono (fun F' ⟨st', g', hA⟩ => ⟨_, st', g', hA, by rw [lastN_len]; exact hn', by have := lastN_lenN (ks := ks) (hf := sideF ll lf) low gone; omega, gone_last hh.out hkg.out low gone, fun _ hr => lastN_min hh.out hkg.out low gone (by rw [hn']; exact hr)⟩)
            have HTH := Lib.hid hth
            have HNN := Lib.hid hn'
            clear hG7 hth hn'
            go_loopw [16] (fun qj wr => ∃ q : Nat, qj = .int .i64 (q : Int) ∧ Goes F w wr (fun F' => ∃ B st' g', K.at_ wr p F' B st' g' ∧ B.cs.length = i ∧ lenN B 1 + q ≤ i ∧ Gone B low gone ∧ (q = 0 → inRange i low = true → minN B 1 = some low.toNat))) (fun qj _ => i - (intOf qj).toNat)
            case atStart => exact ⟨0, rfl, hst⟩
            case round =>
              clear hst
              obtain ⟨q, rfl, F8, ⟨B, st8, g8, hB, hBn, hlq, hgo, hfst⟩, hu8, hF8⟩ := hrel
              rename World => w8
              have hG := Lib.hid (show Goes F w w8 (fun F' => F' = F8) from ⟨F8, rfl, hu8, hF8⟩)
              obtain ⟨fl, vl, henl, hml, hcl⟩ := (K.len 1 (by omega) hB).now
              unfold Enters at henl
              by_cases hz : lenN B 1 = 0
              · rw [hz] at hcl
                clear hB hBn hlq hgo hfst hu8 hF8 hz
                go_wp2_with (first
                  | ((with_reducible refine (hcl).mono ?_); rintro e w9 ⟨rfl, hw9⟩; rw [hw9]; clear hw9 w9)
                  | fail)
                go_ret
                exact ⟨rfl, hG.out.mono (fun _ _ => trivial)⟩
              · obtain ⟨m, hm⟩ : ∃ m, minN B 1 = some m := by
                  cases e : minN B 1 with
                  | some m => exact ⟨m, rfl⟩
                  | none => exact absurd (minN_none_iff.1 e) hz
                obtain ⟨_, hmn, _, hmi⟩ := minN_in hm
                have hld := lenN_drop_min hm
                have hgd := gone_drop hgo hmi
                obtain ⟨fx, vx, henx, hmx, hcx⟩ := (K.extract ⟨3, 1, 0, 0, 0⟩ ⟨by dsimp only; omega, by dsimp only; omega, by dsimp only; omega⟩ rfl hB).now
                unfold Enters at henx
                dsimp only at hcx
                rw [hm, show extN B 1 = dropN B (m : Int) by unfold extN; rw [hm], show slotV (some m) = (m : Int) from rfl, show (some m).isSome = true from rfl] at hcx
                have hpos : ((lenN B 1 : Nat) : Int) > 0 := by omega
                have hqi : ¬ (q : Int) > (i : Int) := by omega
                have hwr : IntKind.i64.wrap ((q : Int) + 1) = (q : Int) + 1 := IntWalk.i64_in _ (by omega)
                have hgc : (((m : Int) == gone) = true ∧ (gone != low) = false) ∨ ((m : Int) == gone) = false := by
                  by_cases e : (m : Int) = gone
                  · refine Or.inl ⟨by simp [e], ?_⟩
                    have : gone = low := Classical.byContradiction fun h => gone_min hgo hm h e
                    simp [this]
                  · exact Or.inr (by simpa using e)
                have hfc : (((q : Int) == 0) = true ∧ (th == 1) = true ∧ ((m : Int) != low) = false) ∨ (((q : Int) == 0) = true ∧ (th == 1) = false) ∨ ((q : Int) == 0) = false := by
                  by_cases e : q = 0
                  · have hth := HTH.out
                    cases hr : inRange i low with
                    | true =>
                      have h1 := hfst e hr
                      rw [hm] at h1
                      have h2 : m = low.toNat := Option.some.inj h1
                      rw [hr] at hth
                      have h3 : 0 ≤ low := by unfold inRange at hr; simp at hr; exact hr.1
                      refine Or.inl ⟨by simp [e], by rw [← hth]; rfl, ?_⟩
                      have : (m : Int) = low := by omega
                      simp [this]
                    | false =>
                      rw [hr] at hth
                      exact Or.inr (Or.inl ⟨by simp [e], by rw [← hth]; rfl⟩)
                  · exact Or.inr (Or.inr (by simp; omega))
                have HE := Lib.hid (And.intro hld (And.intro hgd (And.intro hlq (And.intro hBn hpos))))
                clear hB hBn hgo hfst hu8 hF8 hz hm hmn hmi hld hgd hlq
                rcases hgc with ⟨g1, g2⟩ | g1
                all_goals
                  rcases hfc with ⟨e1, e2, e3⟩ | ⟨e1, e2⟩ | e1
                  all_goals
                    go_wp2_with (first
                      | ((with_reducible refine (hcl).mono ?_); rintro e w9 ⟨rfl, hw9⟩; rw [hw9]; clear hw9 w9)
                      | ((with_reducible refine (hcx).mono ?_); rintro e w9 ⟨rfl, F9, hA9, hu9, hF9⟩)
                      | fail)
                    have hE := HE.out
                    exact ⟨⟨q + 1, by go_num, hG.out.next (fun F' e => by subst e; exact ⟨F9, ⟨_, _, _, hA9, by rw [dropN_len]; exact hE.2.2.2.1, by omega, hE.2.1, fun h => by omega⟩, hu9, hF9⟩)⟩, by simp [intOf]; omega⟩
theorem bigHalves_any (ks : List Int) (al : Option Addr) (ll capl : Nat) (lf : Nat → Bool) (low gone : Int) (hK : K.at_ w p F (NS.new ks.length) st g) (hs : SlR w F v ks) (hlf : Truths w F al ll lf) (hl : ks.length ≤ 200) (hk : ∀ n ∈ ks, -9223372036854775808 ≤ n ∧ n ≤ 9223372036854775807)
    (hlow : -9223372036854775808 ≤ low ∧ low ≤ 9223372036854775807) (hgone : -9223372036854775808 ≤ gone ∧ gone ≤ 9223372036854775807) (hll : ll ≤ 9223372036854775807) :
    Calls Try.prog 23 #[.iface K.ty (.pointer (some ⟨p, 0, none⟩)), v, .agg #[.slice al ll capl, .int .i64 low, .int .i64 gone]] w fun e w' => e = .returned (.int .i64 1) ∧ Goes F w w' (fun _ => True) := by
  have hs' : ∀ W, Upd [] w W → SlR W F v ks := fun W hW => by
    obtain ⟨a, cap, rfl, hc⟩ := hs
    exact ⟨a, cap, rfl, fun j u hj => by
      obtain ⟨b, off, e1, e2, e3, e4⟩ := hc j u hj
      exact ⟨b, off, e1, Nat.lt_of_lt_of_le e2 hW.size, e3, hW.was e4⟩⟩
  have hlf' : ∀ W, Upd [] w W → Truths W F al ll lf := fun W hW hp => by
    obtain ⟨b, off, e1, e2, e3⟩ := hlf hp
    exact ⟨b, off, e1, e2, fun j hj => hW.was (e3 j hj)⟩
  have k := fun W (hW : Upd [] w W) => halves_any ks al ll capl lf low gone (K.upd hK hW (by simp)) (hs' W hW) (hlf' W hW) hl hk hlow hgone hll
  have k2 := fun W => one_yes W
  obtain ⟨a, cap, rfl, -⟩ := hs
  clear hs' hlf'
  go_enter Try.func23, Try.ntmps23
  go_wp2_with (first
    | ((go_at_call 49; (with_reducible refine (k _ (by (repeat (first | assumption | exact Upd.refl _ _ | refine Upd.alloc ?_ _ | refine Upd.drew ?_ | refine Upd.drewN ?_ _ | refine Upd.setCell ?_ ?_ _ | focus (left; simp; done) | focus (right; simp; done) | focus (right; simp; omega))))).mono ?_)); rintro e w1 ⟨rfl, F1, -, hu1, hF1⟩; (have hG1 : Goes F w w1 (fun _ => True) := ⟨F1, trivial, (Upd.mono (S := []) (by (repeat (first | assumption | exact Upd.refl _ _ | refine Upd.alloc ?_ _ | refine Upd.drew ?_ | refine Upd.drewN ?_ _ | refine Upd.setCell ?_ ?_ _ | focus (left; simp; done) | focus (right; simp; done) | focus (right; simp; omega)))) (by simp)).trans hu1, fun x hx => (hF1 x hx).imp id (fun h => by simp at h; omega)⟩))
    | (go_at_call 47; (with_reducible refine ((k2 _)).mono ?_); rintro e w9 ⟨rfl, hw9⟩; rw [hw9]; clear hw9 w9)
    | fail)
  go_ret
  exact ⟨rfl, hG1⟩
end
end Go.Proofs.Ytighgbdijagolaa
