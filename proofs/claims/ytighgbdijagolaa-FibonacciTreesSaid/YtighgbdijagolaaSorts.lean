/-
  sorts of a nest of whatever kind says yes. Conditions: those of each lemma.
-/
import Derived.Test.YtighgbdijagolaaNest
import Derived.Test.YtighgbdijagolaaSortP
set_option linter.unusedVariables false
set_option linter.unusedSimpArgs false
namespace Go.Proofs.Ytighgbdijagolaa
open Go Go.RowKit

theorem i64_of_wf {n : Int} (h : (Lit.int .i64 n).wf = true) : -9223372036854775808 ≤ n ∧ n ≤ 9223372036854775807 := by
  simp [Lit.wf, IntKind.min, IntKind.max, IntKind.signed, IntKind.bits] at h; omega
theorem one_yes (w : World) : Calls Try.prog 47 #[.bool true] w fun e w' => e = .returned (.int .i64 1) ∧ w' = w := by
  go_enter Try.func47, Try.ntmps47
  go_wp2
  go_ret
  exact ⟨rfl, rfl⟩
section
variable {K : NestK} {w : World} {p : Nat} {F : List Nat} {A : NS} {st : Nat} {g : K.G} {v : Value}
def lastV (ks : List Int) (i : Nat) : Int := match i with | 0 => -1 | k + 1 => slotV (minN (ordS (sortN ks 0 ks.length) 1 k).1 1)
set_option maxHeartbeats 4000000 in
set_option maxRecDepth 10000 in
theorem sorts_any (ks : List Int) (hK : K.at_ w p F (NS.new ks.length) st g) (hs : SlR w F v ks) (hl : ks.length ≤ 200) (hk : ∀ n ∈ ks, -9223372036854775808 ≤ n ∧ n ≤ 9223372036854775807) :
    Calls Try.prog 48 #[.iface K.ty (.pointer (some ⟨p, 0, none⟩)), v] w fun e w' => e = .returned (.bool true) ∧ Goes F w w' (fun _ => True) := by
  obtain ⟨a, cap, rfl, hcell⟩ := hs
  obtain ⟨f0, v0, hen0, hm0, hc0⟩ := (K.make 0 0 0 0 hK).now
  unfold Enters at hen0
  rw [show makeV (NS.new ks.length) = 1 from rfl, sortN_zero ks 0] at hc0
  have HC := Lib.hid hcell
  have HKs := Lib.hid hk
  clear hcell hk
  generalize hn : ks.length = n at *
  go_enter Try.func48, Try.ntmps48
  go_wp2_with (first
    | ((with_reducible refine (hc0).mono ?_); rintro e w1 ⟨rfl, hG1⟩)
    | fail)
  clear hm0 hc0
  go_loopw [20] (fun j wr => ∃ i : Nat, i ≤ n ∧ j = .int .i64 (i : Int) ∧ Goes F w wr (fun F' => ∃ st' g', K.at_ wr p F' (sortN ks 0 i) st' g')) (fun j _ => n - (intOf j).toNat)
  case atStart => exact ⟨0, by omega, rfl, hG1.mono (fun F' h => ⟨_, _, h⟩)⟩
  case round =>
    obtain ⟨i, hi, rfl, F1, ⟨st1, g1, hA1⟩, hu1, hF1⟩ := hrel
    rename World => w2
    by_cases hin : i < n
    · obtain ⟨gb, off, ha, hgb, hgF, hcl⟩ := HC.out i (ks.getD i 0) (by rw [List.getElem?_eq_getElem (by omega), List.getD_eq_getElem?_getD, List.getElem?_eq_getElem (by omega)]; rfl)
      subst ha
      have hcl1 := hu1.kept hcl hgF
      obtain ⟨q1, q2⟩ := sortN_put ks 0 i (by omega)
      have hkb := HKs.out (ks.getD i 0) (by rw [List.getD_eq_getElem?_getD, List.getElem?_eq_getElem (by omega)]; exact List.getElem_mem _)
      obtain ⟨f1, v1, hen1, hm1, hc1⟩ := (K.insert ⟨1, 1, i, ks.getD i 0, 0⟩ ⟨by dsimp only; omega, by dsimp only; omega, by dsimp only; omega⟩ rfl hA1).now
      unfold Enters at hen1
      dsimp only at hc1
      rw [q1, q2] at hc1
      have hib : (i : Int) < (n : Int) := by omega
      have hwr : IntKind.i64.wrap ((i : Int) + 1) = (i : Int) + 1 := IntWalk.i64_in _ (by omega)
      have hln := sortN_lenN ks 0 (i + 1) (by omega)
      have hG := Lib.hid (show Goes F w w2 (fun F' => F' = F1) from ⟨F1, rfl, hu1, hF1⟩)
      clear hA1 hu1 hF1 q1 q2 hcl hkb
      generalize hz : ks.getD i 0 = z at *
      go_wp2_with (first
        | ((with_reducible refine (hc1).mono ?_); rintro e w3 ⟨rfl, F3, hA3, hu3, hF3⟩; obtain ⟨f2, v2, hen2, hm2, hc2⟩ := (K.len 1 (by omega) hA3).now; (unfold Enters at hen2); rw [hln, Int.natCast_add, Int.natCast_one] at hc2)
        | ((with_reducible refine (hc2).mono ?_); rintro e w9 ⟨rfl, hw9⟩; rw [hw9]; clear hw9 w9)
        | fail)
      exact ⟨⟨i + 1, by omega, by go_num, hG.out.next (fun F' e => by subst e; exact ⟨F3, ⟨_, _, hA3⟩, hu3, hF3⟩)⟩, by simp [intOf]; omega⟩
    · obtain rfl : i = n := by omega
      clear hin
      go_wp2
      have hLN := sortN_lenN ks 0 i (by omega)
      have HO := Lib.hid (show ∀ k, k < i → ∃ m, minN (ordS (sortN ks 0 i) 1 k).1 1 = some m ∧ (ordS (sortN ks 0 i) 1 (k + 1)).1 = dropN (ordS (sortN ks 0 i) 1 k).1 m from fun k hk => by
        obtain ⟨m, h1, _, h3⟩ := ordL_get (A := sortN ks 0 i) (h := 1) (k := k) (by omega)
        exact ⟨m, h1, h3⟩)
      have HLO := Lib.hid (show ∀ k, k ≤ i → lenN (ordS (sortN ks 0 i) 1 k).1 1 + k = i from fun k hk => by
        have := ordS_lenN (sortN ks 0 i) 1 k (by omega)
        omega)
      have hL2 := Lib.hid hLN
      have HNC := Lib.hid (show ∀ j, j < i → (sortN ks 0 i).c j = ⟨1, ks.getD j 0, 0⟩ from fun j hj => by rw [sortN_c ks 0 i j (by omega), if_pos hj])
      have HSL := Lib.hid (sortN_len ks 0 i)
      have hG0 := Lib.hid (show Goes F w w2 (fun F' => F' = F1) from ⟨F1, rfl, hu1, hF1⟩)
      have hA00 : K.at_ w2 p F1 (ordS (sortN ks 0 i) 1 0).1 st1 g1 := hA1
      clear hA1 hu1 hF1 hLN
      go_loopw [8, 43] (fun lst j wr => ∃ q : Nat, q ≤ i ∧ j = .int .i64 (q : Int) ∧ (q = 0 ∧ lst = .int .i64 (-1) ∨ ∃ k m : Nat, q = k + 1 ∧ minN (ordS (sortN ks 0 i) 1 k).1 1 = some m ∧ lst = .int .i64 (m : Int)) ∧ Goes F w wr (fun F' => ∃ st' g', K.at_ wr p F' (ordS (sortN ks 0 i) 1 q).1 st' g')) (fun _ j _ => i - (intOf j).toNat)
      case atStart => exact ⟨0, by omega, rfl, Or.inl ⟨rfl, rfl⟩, hG0.out.mono (fun F' e => by subst e; exact ⟨_, _, hA00⟩)⟩
      case round =>
        obtain ⟨q, hq, rfl, hlast, F2, ⟨st2, g2, hA2⟩, hu2, hF2⟩ := hrel
        rename World => w4
        have hG := Lib.hid (show Goes F w w4 (fun F' => F' = F2) from ⟨F2, rfl, hu2, hF2⟩)
        by_cases hqi : q < i
        · obtain ⟨m, hm1, hm2⟩ := HO.out q hqi
          obtain ⟨o1, o2, o3, o4⟩ := ordS_in hm1
          rw [HSL.out, hn] at o2
          obtain ⟨fa, va, hena, hma, hca⟩ := (K.min ⟨2, 1, 0, 0, 0⟩ ⟨by dsimp only; omega, by dsimp only; omega, by dsimp only; omega⟩ rfl hA2).now
          unfold Enters at hena
          dsimp only at hca
          rw [hm1] at hca
          rw [show slotV (some m) = (m : Int) from rfl, show (some m).isSome = true from rfl] at hca
          have kx : ∀ (W : World) F' st' g', K.at_ W p F' (ordS (sortN ks 0 i) 1 q).1 st' g' → _ := fun W F' st' g' hA' => (K.extract ⟨3, 1, 0, 0, 0⟩ ⟨by dsimp only; omega, by dsimp only; omega, by dsimp only; omega⟩ rfl hA').now
          dsimp only at kx
          rw [show extN (ordS (sortN ks 0 i) 1 q).1 1 = (ordS (sortN ks 0 i) 1 (q + 1)).1 by unfold extN; rw [hm1, hm2], hm1, show slotV (some m) = (m : Int) from rfl, show (some m).isSome = true from rfl] at kx
          have hlq := HLO.out (q + 1) (by omega)
          have hlz : ((lenN (ordS (sortN ks 0 i) 1 (q + 1)).1 1 : Nat) : Int) = (i : Int) - 1 - (q : Int) := by omega
          have hib : (q : Int) < (i : Int) := by omega
          have hwr : IntKind.i64.wrap ((q : Int) + 1) = (q : Int) + 1 := IntWalk.i64_in _ (by omega)
          have hw1 : IntKind.i64.wrap ((i : Int) - 1) = (i : Int) - 1 := IntWalk.i64_in _ (by omega)
          have hw2 : IntKind.i64.wrap ((i : Int) - 1 - (q : Int)) = (i : Int) - 1 - (q : Int) := IntWalk.i64_in _ (by omega)
          have hmi : (m : Int) < (i : Int) := by omega
          obtain ⟨gb, off, ha, hgb, hgF, hcl⟩ := HC.out m (ks.getD m 0) (by rw [List.getElem?_eq_getElem (by omega), List.getD_eq_getElem?_getD, List.getElem?_eq_getElem (by omega)]; rfl)
          have HK := Lib.hid (And.intro hcl hgF)
          have HM1 := Lib.hid hm1
          have HQ := Lib.hid hqi
          subst ha
          have hz1 : ¬ (m : Int) < 0 := by omega
          have hz2 : ¬ (m : Int) ≥ (i : Int) := by omega
          clear hu2 hF2 hm2 hqi hlq hgF hcl hm1 hA2 o4
          have keep : ∀ W F', Goes F w W (fun G => G = F') → W.cell? ⟨gb, off + m, none⟩ = some (.int .i64 (ks.getD m 0)) := fun W F' hg => by
            obtain ⟨_, _, u, _⟩ := hg
            exact u.kept HK.out.1 HK.out.2
          go_wp2_with (first
            | ((with_reducible refine (hca).mono ?_); rintro e w5 ⟨rfl, F5, hA5, hu5, hF5⟩; obtain ⟨fb, vb, henb, hmb, hcb⟩ := kx w5 F5 _ _ hA5; (unfold Enters at henb))
            | ((with_reducible refine (hcb).mono ?_); rintro e w6 ⟨rfl, F6, hA6, hu6, hF6⟩; obtain ⟨fc, vc, henc, hmc, hcc⟩ := (K.len 1 (by omega) hA6).now; (unfold Enters at henc); rw [hlz] at hcc)
            | ((with_reducible refine (hcc).mono ?_); rintro e w9 ⟨rfl, hw9⟩; rw [hw9]; clear hw9 w9)
            | fail)
          have hG6 : Goes F w w6 (fun F' => F' = F6) := (hG.out.next (Q := fun F' => F' = F5) (fun F' e => by subst e; exact ⟨F5, rfl, hu5, hF5⟩)).next (fun F' e => by subst e; exact ⟨F6, rfl, hu6, hF6⟩)
          have c1 := keep w6 F6 hG6
          have HG6 := Lib.hid hG6
          clear keep hu5 hF5 hu6 hF6 hG6 hA5
          rcases hlast with ⟨hq0, rfl⟩ | ⟨k, m', hk1, hm', rfl⟩
          · go_quiet (fail)
            go_wp2
            exact ⟨⟨q + 1, by have := HQ.out; omega, by go_num, Or.inr ⟨q, m, rfl, HM1.out, rfl⟩, (HG6.out.next (fun F' e => by subst e; exact Goes.refl rfl)).next (Q := fun F' => ∃ st' g', K.at_ _ p F' (ordS (sortN ks 0 i) 1 (q + 1)).1 st' g') (fun F' e => by subst e; exact ⟨F6, ⟨_, _, K.upd hA6 ((Upd.refl [] w6).drewN _) (by simp)⟩, ((Upd.refl [] w6).drewN _).mono (by simp), fun x hx => Or.inl hx⟩)⟩, by have := HQ.out; simp [intOf]; omega⟩
          · subst hk1
            have hlt := ord_next hm' HM1.out
            obtain ⟨p1, p2, p3, p4⟩ := ordS_in hm'
            rw [HSL.out, hn] at p2
            obtain ⟨gb2, off2, ha2, _, hgF2, hcl2⟩ := HC.out m' (ks.getD m' 0) (by rw [List.getElem?_eq_getElem (by omega), List.getD_eq_getElem?_getD, List.getElem?_eq_getElem (by omega)]; rfl)
            obtain ⟨rfl, rfl⟩ : gb = gb2 ∧ off = off2 := by simpa using ha2
            have c2 : w6.cell? ⟨gb, off + m', none⟩ = some (.int .i64 (ks.getD m' 0)) := by
              obtain ⟨_, _, u, _⟩ := HG6.out
              exact u.kept hcl2 hgF2
            unfold lt3 at hlt
            rw [HNC.out m' (by omega), HNC.out m (by omega)] at hlt
            dsimp only at hlt
            have hmi' : (m' : Int) < (i : Int) := by omega
            have hz3 : (0 : Int) ≤ (m' : Int) := by omega
            clear hm' p3 p4 ha2 hcl2 hgF2
            generalize ks.getD m 0 = z at *
            generalize ks.getD m' 0 = z' at *
            by_cases he : z' = z
            · subst he
              have b1 : ¬ z' > z' := by omega
              have b2 : ¬ (m' : Int) ≥ (m : Int) := by omega
              have b3 : ¬ (m : Int) ≤ (m' : Int) := by omega
              clear hlt
              go_quiet (fail)
              go_wp2
              exact ⟨⟨k + 1 + 1, by have := HQ.out; omega, by go_num, Or.inr ⟨k + 1, m, rfl, HM1.out, rfl⟩, (HG6.out.next (fun F' e => by subst e; exact Goes.refl rfl)).next (Q := fun F' => ∃ st' g', K.at_ _ p F' (ordS (sortN ks 0 i) 1 (k + 1 + 1)).1 st' g') (fun F' e => by subst e; exact ⟨F6, ⟨_, _, K.upd hA6 ((Upd.refl [] w6).drewN _) (by simp)⟩, ((Upd.refl [] w6).drewN _).mono (by simp), fun x hx => Or.inl hx⟩)⟩, by have := HQ.out; simp [intOf]; omega⟩
            · have b1 : ¬ z' > z := by omega
              have b2 : (z' == z) = false := by simpa using he
              clear hlt he
              go_quiet (fail)
              go_wp2
              exact ⟨⟨k + 1 + 1, by have := HQ.out; omega, by go_num, Or.inr ⟨k + 1, m, rfl, HM1.out, rfl⟩, (HG6.out.next (fun F' e => by subst e; exact Goes.refl rfl)).next (Q := fun F' => ∃ st' g', K.at_ _ p F' (ordS (sortN ks 0 i) 1 (k + 1 + 1)).1 st' g') (fun F' e => by subst e; exact ⟨F6, ⟨_, _, K.upd hA6 ((Upd.refl [] w6).drewN _) (by simp)⟩, ((Upd.refl [] w6).drewN _).mono (by simp), fun x hx => Or.inl hx⟩)⟩, by have := HQ.out; simp [intOf]; omega⟩
        · obtain rfl : q = i := by omega
          have h0 : lenN (ordS (sortN ks 0 q) 1 q).1 1 = 0 := by have := HLO.out q (by omega); omega
          obtain ⟨fa, va, hena, hma, hca⟩ := (K.min ⟨2, 1, 0, 0, 0⟩ ⟨by dsimp only; omega, by dsimp only; omega, by dsimp only; omega⟩ rfl hA2).now
          unfold Enters at hena
          dsimp only at hca
          rw [minN_none_iff.2 h0] at hca
          rw [show slotV none = 0 from rfl, show (none : Option Nat).isSome = false from rfl] at hca
          clear hu2 hF2 hqi hA2 h0 hlast
          go_wp2_with (first
            | ((with_reducible refine (hca).mono ?_); rintro e w5 ⟨rfl, F5, hA5, hu5, hF5⟩)
            | fail)
          go_ret
          exact ⟨rfl, hG.out.next (fun F' e => by subst e; exact ⟨F5, trivial, hu5, hF5⟩)⟩
theorem bigSorts_any (ks : List Int) (hK : K.at_ w p F (NS.new ks.length) st g) (hs : SlR w F v ks) (hl : ks.length ≤ 200) (hk : ∀ n ∈ ks, -9223372036854775808 ≤ n ∧ n ≤ 9223372036854775807) :
    Calls Try.prog 22 #[.iface K.ty (.pointer (some ⟨p, 0, none⟩)), v] w fun e w' => e = .returned (.int .i64 1) ∧ Goes F w w' (fun _ => True) := by
  have k := sorts_any ks hK hs hl hk
  have k2 := fun W => one_yes W
  go_enter Try.func22, Try.ntmps22
  go_wp2_with (first
    | ((go_at_call 48; (with_reducible refine (k).mono ?_)); rintro e w1 ⟨rfl, hG1⟩)
    | (go_at_call 47; (with_reducible refine ((k2 _)).mono ?_); rintro e w9 ⟨rfl, hw9⟩; rw [hw9]; clear hw9 w9)
    | fail)
  go_ret
  exact ⟨rfl, hG1⟩
end
end Go.Proofs.Ytighgbdijagolaa
