/-
  What two roots are joined to, by whatever order. Conditions: those of each lemma.
-/
import Derived.Test.YtighgbdijagolaaKOrd
set_option linter.unusedVariables false
set_option linter.unusedSimpArgs false
namespace Go.Proofs.Ytighgbdijagolaa
open Go Go.RowKit

set_option maxHeartbeats 1000000 in
theorem join_any (O : OrdK) (bt ba lo n : Nat) (S : CS) (asked a b : Nat) (w : World) (h : ForestAt w bt ba lo n S) (hO : O.at_ w asked) (hda : O.dom a) (hdb : O.dom b) (hk : asked ≤ 1000000)
    (ha : a < n) (hb : b < n) (hra : rootB n S a = true) (hrb : rootB n S b = true) (hne : a ≠ b) (hd : degOf n S a = degOf n S b) (hl1 : (S.k a).length + 1 ≤ n) (hl2 : (S.k b).length + 1 ≤ n)
    (hA : Apart O bt ba n S) :
    Calls Try.prog 111 #[.pointer (some ⟨bt, 0, none⟩), .iface O.ty (.pointer (some ⟨O.p, 0, none⟩)), .int .i64 (a : Int), .int .i64 (b : Int)] w fun e w' =>
      ∃ v, e = .returned (.int .i64 (joinHi O.lt a b : Int)) ∧ ForestAt w' bt ba lo n (linkS S v (joinHi O.lt a b) (joinLo O.lt a b)) ∧ O.at_ w' (asked + 1) ∧ Upd (O.wr ++ ba :: S.blk n) w w' ∧ (∀ g, g ∈ (linkS S v (joinHi O.lt a b) (joinLo O.lt a b)).blk n → g ∈ S.blk n ∨ w.heap.size ≤ g) := by
  obtain ⟨f, fv, hen, hm, hc⟩ := (O.ahead (b : Int) (a : Int) hO hdb hda hk).now
  unfold Enters at hen
  have hF := fun W (hW : Upd O.wr w W) => h.upd hW hA.wr.1 hA.wr.2.1 hA.wr.2.2
  have kL1 := fun W (hW : Upd O.wr w W) => link_yes bt ba lo n S a b W (hF W hW) ha hb hra hrb hne hd hl1
  have kL2 := fun W (hW : Upd O.wr w W) => link_yes bt ba lo n S b a W (hF W hW) hb ha hrb hra (Ne.symm hne) hd.symm hl2
  have HS := Lib.hid hA.rd
  clear hF h hO hA hd hra hrb hda hdb
  unfold joinHi joinLo
  generalize O.ty = ty at *
  cases hab : O.lt b a with
  | true =>
    rw [hab] at hc
    rw [if_pos rfl, if_pos rfl]
    clear hab kL1
    go_enter Try.func111, Try.ntmps111
    go_wp2_with (first
      | ((with_reducible refine (hc).mono ?_); rintro e w1 ⟨rfl, hL1, hu1⟩)
      | ((go_at_call 118; (with_reducible refine (kL2 _ hu1).mono ?_)); rintro e w2 ⟨v2, rfl, hF2, hu2, hb2⟩))
    go_ret
    refine ⟨_, rfl, hF2, O.upd hL1 hu2 HS.out, (hu1.mono (by simp +contextual)).trans (hu2.mono (fun g hg => List.mem_append.2 (Or.inr hg))), fun g hg => ?_⟩
    rcases hb2 g hg with h | h
    · exact Or.inl h
    · exact Or.inr (Nat.le_trans hu1.size h)
  | false =>
    rw [hab] at hc
    rw [if_neg (by simp), if_neg (by simp)]
    clear hab kL2
    go_enter Try.func111, Try.ntmps111
    go_wp2_with (first
      | ((with_reducible refine (hc).mono ?_); rintro e w1 ⟨rfl, hL1, hu1⟩)
      | ((go_at_call 118; (with_reducible refine (kL1 _ hu1).mono ?_)); rintro e w2 ⟨v2, rfl, hF2, hu2, hb2⟩))
    go_ret
    refine ⟨_, rfl, hF2, O.upd hL1 hu2 HS.out, (hu1.mono (by simp +contextual)).trans (hu2.mono (fun g hg => List.mem_append.2 (Or.inr hg))), fun g hg => ?_⟩
    rcases hb2 g hg with h | h
    · exact Or.inl h
    · exact Or.inr (Nat.le_trans hu1.size h)
end Go.Proofs.Ytighgbdijagolaa
