/-
  The forests of package carry: Lift. Conditions: those of each lemma.
-/
import Derived.Test.YtdgohhkgmfjhaaaCarry5
set_option linter.unusedVariables false
set_option linter.unusedSimpArgs false
namespace Go.Proofs.Ytdgohhkgmfjhaaa
open Go Go.RowKit

/-- A list with one thing in the first place of another one. -/
def setAt (l : List Int) (x y : Int) : List Int := l.set (idxOf l x).toNat y
theorem setAt_len (l : List Int) (x y : Int) : (setAt l x y).length = l.length := by unfold setAt; simp
theorem idx_mem (l : List Int) (x : Int) (h : x ∈ l) : ∃ i : Nat, i < l.length ∧ idxOf l x = i ∧ l[i]? = some x := by
  cases hf : l.findIdx? (fun y => y == x) with
  | none =>
    rw [List.findIdx?_eq_none_iff] at hf
    have := hf x h
    simp at this
  | some i =>
    have h2 := hf
    rw [List.findIdx?_eq_some_iff_getElem] at h2
    obtain ⟨h3, h4, _⟩ := h2
    refine ⟨i, h3, by unfold idxOf; rw [hf], ?_⟩
    rw [List.getElem?_eq_getElem h3]
    simp at h4
    rw [h4]
def liftS (S : CS) (x p : Nat) (above : Int) : CS :=
  ⟨fun y => if y = x then S.v p else if y = p then S.v x else S.v y,
   fun y => if y = x then setAt (S.k p) x p else if y = p then S.k x else if (y : Int) = above then setAt (S.k y) p x else S.k y,
   fun y => if y = x then above else if (y : Int) ∈ S.k x then p else if (y : Int) ∈ setAt (S.k p) x p then x else S.u y⟩
def liftF (S : CS) (x p : Nat) (above : Int) : Nat → Value :=
  putF (upsF (putF (upsF (putF (nodeCell S) (x * 2) (S.v p)) x (setAt (S.k p) x p)) (p * 2) (S.v x)) p (S.k x)) (x * 2 + 1) (.int .i64 above)
theorem upsF_even (f : Nat → Value) (p : Int) (ks : List Int) (j : Nat) (h : j % 2 = 0) : upsF f p ks j = f j := by unfold upsF; rw [if_neg (by omega)]
theorem putF_ne (f : Nat → Value) (x : Nat) (v : Value) (j : Nat) (h : j ≠ x) : putF f x v j = f j := by unfold putF; rw [if_neg h]
theorem putF_eq (f : Nat → Value) (x : Nat) (v : Value) : putF f x v x = v := by unfold putF; rw [if_pos rfl]
theorem lift_cell (S : CS) (x p : Nat) (above : Int) (hxp : x ≠ p) (j : Nat) : liftF S x p above j = nodeCell (liftS S x p above) j := by
  unfold liftF
  by_cases h : j % 2 = 0
  · rw [putF_ne _ _ _ _ (show j ≠ x * 2 + 1 by omega), upsF_even _ _ _ _ h]
    unfold nodeCell liftS
    rw [if_pos h]
    simp only
    by_cases h3 : j / 2 = x
    · rw [putF_ne _ _ _ _ (show j ≠ p * 2 by omega), upsF_even _ _ _ _ h, show j = x * 2 by omega, putF_eq, if_pos (by omega)]
    · by_cases h4 : j / 2 = p
      · rw [show j = p * 2 by omega, putF_eq, if_neg (by omega), if_pos (by omega)]
      · rw [putF_ne _ _ _ _ (show j ≠ p * 2 by omega), upsF_even _ _ _ _ h, putF_ne _ _ _ _ (show j ≠ x * 2 by omega), if_pos h, if_neg h3, if_neg h4]
  · have h0 : j % 2 = 1 := by omega
    unfold nodeCell liftS putF upsF
    simp only [h0, true_and]
    by_cases h3 : j / 2 = x
    · rw [if_pos (by omega), if_neg (by omega), if_pos h3]
    · rw [if_neg (show ¬ j = x * 2 + 1 by omega), if_neg (show ¬ j = p * 2 by omega), if_neg (show ¬ j = x * 2 by omega)]
      rw [if_neg (show ¬ (1 = 0) by omega), if_neg (show ¬ (1 = 0) by omega), if_neg h3]
      by_cases h5 : ((j / 2 : Nat) : Int) ∈ S.k x
      · rw [if_pos h5, if_pos h5]
      · rw [if_neg h5, if_neg h5]
        by_cases h6 : ((j / 2 : Nat) : Int) ∈ setAt (S.k p) x p
        · rw [if_pos h6, if_pos h6]
        · rw [if_neg h6, if_neg h6]

theorem own_set {w : World} {base n cap g : Nat} {e : TypeId} {xs : List Value} (h : w.ownsRow base e 1 (.slice (some ⟨g, 0, none⟩) n cap) n xs) (j : Nat) (u : Value) :
    (w.setCell ⟨g, j, none⟩ u).ownsRow base e 1 (.slice (some ⟨g, 0, none⟩) n cap) n (xs.set j u) := (h.stored j u).1
theorem intsZ_set (l : List Int) (j : Nat) (y : Int) : intsZ (l.set j y) = (intsZ l).set j (.int .i64 y) := by unfold intsZ; rw [List.map_set]

set_option maxHeartbeats 400000 in
theorem lift_no (bt ba lo n : Nat) (S : CS) (x : Int) (w : World) (h : ForestAt w bt ba lo n S) (hu : upO n S x = none) :
    Calls Try.prog 17 #[.pointer (some ⟨bt, 0, none⟩), .int .i64 x] w fun e w' => e = .returned (.bool false) ∧ w' = w := by
  have k1 := up_any bt ba lo n S x w h
  rw [hu, show ov none = 0 from rfl, show ob none = false from rfl] at k1
  clear h
  go_enter Try.func17, Try.ntmps17
  go_wp2_with ((go_at_call 11; (with_reducible refine (k1).mono ?_); rintro e w9 ⟨rfl, hw9⟩; rw [hw9]; clear hw9 w9))
  go_ret
  exact ⟨rfl, rfl⟩

/-- What Lift asks of a forest: p is above x, and stands so; what is above p, too. -/
structure LiftOk (n : Nat) (S : CS) (x p : Nat) (above : Int) : Prop where
  hx : x < n
  hp : p < n
  ne : x ≠ p
  up : S.u x = p
  ab : S.u p = above
  mem : (x : Int) ∈ S.k p
  kx : ∀ k, k ∈ S.k x → 0 ≤ k ∧ k < n
  kp : ∀ k, k ∈ S.k p → 0 ≤ k ∧ k < n
  top : above = -1 ∨ ∃ q : Nat, above = q ∧ q < n ∧ q ≠ x ∧ q ≠ p ∧ (p : Int) ∈ S.k q

theorem ForestAt.lift {w w5 : World} {bt ba lo n : Nat} {S : CS} (h : ForestAt w bt ba lo n S) {x p : Nat} {above : Int} (ok : LiftOk n S x p above) (hN : NodesAt w5 bt ba n (nodeCell (liftS S x p above))) (hs : w.heap.size ≤ w5.heap.size)
    (ho : ∀ y, y < n → w5.ownsRow lo 3 1 ((liftS S x p above).v y) ((liftS S x p above).k y).length (intsZ ((liftS S x p above).k y))) : ForestAt w5 bt ba lo n (liftS S x p above) := by
  have hx := ok.hx
  have hp := ok.hp
  have hne := ok.ne
  refine ⟨hN.head, hN.row, ho, fun y z hy hz hyz g hg => ?_, h.ne, h.lt1, h.lt2, Nat.le_trans h.low hs, h.le, fun y hy => ?_⟩
  · unfold liftS at hg ⊢
    simp only at hg ⊢
    have key : ∀ a b, a < n → b < n → a ≠ b → (S.v a).ownBlock = some g → (S.v b).ownBlock ≠ some g := fun a b ha hb hab => h.sep a b ha hb hab g
    by_cases h1 : y = x
    · rw [if_pos h1] at hg
      rw [if_neg (fun e => hyz (by omega))]
      by_cases h2 : z = p
      · rw [if_pos h2]; exact key p x hp hx (Ne.symm hne) hg
      · rw [if_neg h2]; exact key p z hp hz (Ne.symm h2) hg
    · rw [if_neg h1] at hg
      by_cases h2 : y = p
      · rw [if_pos h2] at hg
        by_cases h3 : z = x
        · rw [if_pos h3]; exact key x p hx hp hne hg
        · rw [if_neg h3, if_neg (fun e => hyz (by omega))]; exact key x z hx hz (Ne.symm h3) hg
      · rw [if_neg h2] at hg
        by_cases h3 : z = x
        · rw [if_pos h3]; exact key y p hy hp h2 hg
        · rw [if_neg h3]
          by_cases h4 : z = p
          · rw [if_pos h4]; exact key y x hy hx h1 hg
          · rw [if_neg h4]; exact key y z hy hz hyz hg
  · unfold liftS
    simp only
    split
    · rw [setAt_len]; exact h.len p hp
    · split
      · exact h.len x hx
      · split
        · rw [setAt_len]; exact h.len y hy
        · exact h.len y hy

set_option maxRecDepth 100000 in
set_option maxHeartbeats 2000000 in
theorem lift_yes (bt ba lo n : Nat) (S : CS) (x p : Nat) (above : Int) (w : World) (h : ForestAt w bt ba lo n S) (ok : LiftOk n S x p above) :
    Calls Try.prog 17 #[.pointer (some ⟨bt, 0, none⟩), .int .i64 (x : Int)] w fun e w' => e = .returned (.bool true) ∧ ForestAt w' bt ba lo n (liftS S x p above) ∧ Upd (ba :: S.blk n) w w' := by
  have hx := ok.hx
  have hp := ok.hp
  have hle := h.le
  have hne := h.ne
  have hl1 := h.lt1
  have hl2 := h.lt2
  have k1 := up_any bt ba lo n S x w h
  have hup : upO n S x = some (p : Int) := by unfold upO; rw [if_pos (by omega), show ((x : Int)).toNat = x by omega, ok.up, if_neg (by omega)]
  rw [hup, show ov (some (p : Int)) = (p : Int) from rfl, show ob (some (p : Int)) = true from rfl] at k1
  obtain ⟨ax, cx, hvx, _⟩ := own_slice (h.own x hx)
  obtain ⟨i, hil, hidx, hi⟩ := idx_mem _ _ ok.mem
  obtain ⟨gp, cp, hvp, hg1, hg2, hgc, hgm, hgx, hgf⟩ := own_shape (h.own p hp) (by omega)
  have c0 := h.head.cell 0 (by omega)
  have d0 := h.row.cellAt (x * 2) (by omega) ((nodeCell0 S x).trans hvx)
  have d1 := h.row.cellAt (p * 2) (by omega) ((nodeCell0 S p).trans hvp)
  have d2 := h.row.cellAt (p * 2 + 1) (by omega) ((nodeCell1 S p).trans (by rw [ok.ab]))
  have hab : above ≠ -1 → (above != -1) = true := fun h => by simpa using h
  clear hup
  go_enter Try.func17, Try.ntmps17
  go_wp2_with ((go_at_call 11; (with_reducible refine (k1).mono ?_); rintro e w9 ⟨rfl, hw9⟩; rw [hw9]; clear hw9 w9))
  go_quiet (fail)
  have h0 : ForestAt (w.drewN nq) bt ba lo n S := h.upd0 ((Upd.refl _ _).drewN _)
  have hu0 : Upd (ba :: S.blk n) w (w.drewN nq) := (Upd.refl _ _).drewN _
  generalize w.drewN nq = W at *
  clear h c0 d0 d1 d2 hgx hgf k1 hg1 hg2
  have hop := h0.own p hp
  have hox := h0.own x hx
  rw [hvp] at hop
  have hgp := hop.lt gp rfl
  have kI := index_any W lo _ (S.k p) x (LstAt.of_owns hop)
  rw [hidx] at kI
  have ci : W.cell? ⟨gp, i, none⟩ = some (.int .i64 (x : Int)) := by rw [hop.cellAt i (by omega)]; unfold intsZ; rw [List.getElem?_map, hi]; rfl
  have fi := hop.frozenAt i
  have hset : (S.k p).set i p = setAt (S.k p) x p := by unfold setAt; rw [hidx]; rfl
  have own1 := own_set hop i (.int .i64 (p : Int))
  rw [← intsZ_set, hset] at own1
  have hu1 : Upd [gp] W (W.setCell ⟨gp, i, none⟩ (.int .i64 (p : Int))) := (Upd.refl _ _).setCell (Or.inl (by simp)) _
  have hN1 := h0.nodes.upd hu1 (by simp; omega) (by simp; omega)
  have hsl := setAt_len (S.k p) x p
  have kA1 := adopt_any bt ba n lo x (nodeCell S) _ (setAt (S.k p) x p) _ hN1 (by have := LstAt.of_owns own1; rw [hsl]; exact this) hx hl2 (fun k hk => by
    rw [← hset] at hk
    rcases List.mem_or_eq_of_mem_set hk with h | h
    · exact ok.kp k h
    · omega)
  have hxg : (S.v x).ownBlock ≠ some gp := h0.sep p x hp hx (Ne.symm ok.ne) gp (by rw [hvp]; rfl)
  have hox1 := owns_upd hox hu1 (fun k hk hm => by simp at hm; subst hm; exact hxg hk)
  have kA2 := fun w2 (hN2 : NodesAt w2 bt ba n (upsF (putF (nodeCell S) (x * 2) (.slice (some ⟨gp, 0, none⟩) (S.k p).length cp)) x (setAt (S.k p) x p))) (hu2 : Upd [ba] (W.setCell ⟨gp, i, none⟩ (.int .i64 (p : Int))) w2) =>
    adopt_any bt ba n lo p _ (S.v x) (S.k x) w2 hN2 (LstAt.of_owns (owns_upd hox1 hu2 (fun k hk hm => by have := (hox.lt k hk).1; simp at hm; omega))) hp hl2 ok.kx
  rw [hvx] at kA2
  have hmemb : ∀ y, y < n → ∀ g, (S.v y).ownBlock = some g → g ∈ S.blk n := fun y hy g hg => (S.mem_blk n g).2 ⟨y, hy, hg⟩
  have hgpb : gp ∈ S.blk n := hmemb p hp gp (by rw [hvp]; rfl)
  have hall : ∀ y, y < n → y ≠ p → (S.v y).ownBlock ≠ some gp := fun y hy hyp => h0.sep p y hp hy (Ne.symm hyp) gp (by rw [hvp]; rfl)
  have hun1 : ∀ y, y < n → y ≠ p → ∀ w4, Upd [ba] (W.setCell ⟨gp, i, none⟩ (.int .i64 (p : Int))) w4 → w4.ownsRow lo 3 1 (S.v y) (S.k y).length (intsZ (S.k y)) := fun y hy hyp w4 hw =>
    owns_upd (owns_upd (h0.own y hy) hu1 (fun k hk hm => by simp at hm; subst hm; exact hall y hy hyp hk)) hw (fun k hk hm => by have := ((h0.own y hy).lt k hk).1; simp at hm; omega)
  have hun2 : ∀ w4, Upd [ba] (W.setCell ⟨gp, i, none⟩ (.int .i64 (p : Int))) w4 → w4.ownsRow lo 3 1 (S.v p) (setAt (S.k p) x p).length (intsZ (setAt (S.k p) x p)) := fun w4 hw => by
    rw [hsl, hvp]
    exact owns_upd own1 hw (fun k hk hm => by simp [Value.ownBlock] at hk; simp at hm; omega)
  have HALL := Lib.hid hall
  have HUN1 := Lib.hid hun1
  have HUN2 := Lib.hid hun2
  have HM := Lib.hid hmemb
  have H0 := Lib.hid h0
  have OK := Lib.hid ok
  have HVX := Lib.hid hvx
  have HVP := Lib.hid hvp
  have HSET := Lib.hid hset
  have HSL := Lib.hid hsl
  have htop := ok.top
  clear hset hsl ok h0 hvx hvp hidx hi hall hun1 hun2 hmemb
  rcases htop with rfl | ⟨q, rfl, hq, hqx, hqp, hqm⟩
  · go_wp2_with (first
      | (go_at_call 40; (with_reducible refine (kI).mono ?_); rintro e w9 ⟨rfl, hw9⟩; rw [hw9]; clear hw9 w9)
      | ((go_at_call 41; (with_reducible refine (kA1).mono ?_)); rintro e w2 ⟨rfl, hN2, hu2⟩)
      | ((go_at_call 41; (with_reducible refine (kA2 _ hN2 hu2).mono ?_)); rintro e w3 ⟨rfl, hN3, hu3⟩; have c3 := hN3.head.cell 0 (by omega); have d3 := hN3.row.cell (x * 2 + 1) (by omega); have e3 := hN3.row.free (x * 2 + 1)))
    go_ret
    have hw4 := (hu2.trans hu3).setCell (p := ⟨ba, x * 2 + 1, none⟩) (Or.inl (by simp)) (.int .i64 (-1))
    have hN4 : NodesAt (w3.setCell ⟨ba, x * 2 + 1, none⟩ (.int .i64 (-1))) bt ba n (nodeCell (liftS S x p (-1))) := (hN3.set (x * 2 + 1) (.int .i64 (-1))).ext (fun j hj => by
      rw [← lift_cell S x p (-1) OK.out.ne j]
      unfold liftF
      rw [HVX.out, HVP.out]; rfl)
    refine ⟨rfl, H0.out.lift OK.out hN4 (Nat.le_trans hu1.size hw4.size) (fun y hy => ?_), (hu0.trans (hu1.mono (by simp; exact Or.inr hgpb))).trans (hw4.mono (by simp))⟩
    unfold liftS
    simp only
    by_cases hyx : y = x
    · rw [if_pos hyx, if_pos hyx]; exact HUN2.out _ hw4
    · rw [if_neg hyx, if_neg hyx]
      by_cases hyp : y = p
      · rw [if_pos hyp, if_pos hyp]; exact HUN1.out x hx OK.out.ne _ hw4
      · rw [if_neg hyp, if_neg hyp, if_neg (by omega)]; exact HUN1.out y hy hyp _ hw4
  · obtain ⟨j, hjl, hjdx, hj⟩ := idx_mem _ _ hqm
    have hoq := H0.out.own q hq
    obtain ⟨gq, cq, hvq, hq1, hq2, hqc, hqm2, hqx2, hqf⟩ := own_shape hoq (by omega)
    have b4 : ((q : Int) != -1) = true := by rw [bne_iff_ne]; omega
    have hoq4 := HUN1.out q hq hqp
    rw [hvq] at hoq4
    have kI2 := fun W4 h4 => index_any W4 lo _ (S.k q) p (LstAt.of_owns (hoq4 W4 h4))
    rw [hjdx] at kI2
    have HJ := Lib.hid hjdx
    have HJ2 := Lib.hid hj
    have HVQ := Lib.hid hvq
    have hz1 := nodeCell0 S q
    rw [hvq] at hz1
    have HZ := Lib.hid hz1
    clear hjdx hj hvq hz1 hoq hqx2 hqf hab
    go_wp2_with (first
      | (go_at_call 40; (with_reducible refine (kI).mono ?_); rintro e w9 ⟨rfl, hw9⟩; rw [hw9]; clear hw9 w9)
      | ((go_at_call 41; (with_reducible refine (kA1).mono ?_)); rintro e w2 ⟨rfl, hN2, hu2⟩)
      | ((go_at_call 41; (with_reducible refine (kA2 _ hN2 hu2).mono ?_)); rintro e w3 ⟨rfl, hN3, hu3⟩; have c3 := hN3.head.cell 0 (by omega); have d3 := hN3.row.cell (x * 2 + 1) (by omega); have e3 := hN3.row.free (x * 2 + 1); have hN4 := hN3.set (x * 2 + 1) (.int .i64 (q : Int)); have hw4 := (hu2.trans hu3).setCell (p := ⟨ba, x * 2 + 1, none⟩) (Or.inl (by simp)) (.int .i64 (q : Int)); have c4 := hN4.head.cell 0 (by omega); have d4 := hN4.row.cellAt (q * 2) (by omega) (v := .slice (some ⟨gq, 0, none⟩) (S.k q).length cq) (by
          rw [if_neg (by omega), upsF_even _ _ _ _ (by omega), putF_ne _ _ _ _ (by omega), upsF_even _ _ _ _ (by omega), putF_ne _ _ _ _ (by omega)]; exact HZ.out); have o4 := hoq4 _ hw4; have d5 := o4.cellAt j (by omega); have e5 := o4.frozenAt j; rw [show (intsZ (S.k q))[j]? = some (.int .i64 (p : Int)) by unfold intsZ; rw [List.getElem?_map, HJ2.out]; rfl] at d5; have kI3 := kI2 _ hw4; clear hoq4 kI2)
      | (go_at_call 40; (with_reducible refine (kI3).mono ?_); rintro e w9 ⟨rfl, hw9⟩; rw [hw9]; clear hw9 w9))
    go_ret
    have hN5 : NodesAt (w3.setCell ⟨ba, x * 2 + 1, none⟩ (.int .i64 (q : Int))) bt ba n (nodeCell (liftS S x p q)) := (hN3.set (x * 2 + 1) (.int .i64 (q : Int))).ext (fun j hj => by
      rw [← lift_cell S x p q OK.out.ne j]
      unfold liftF
      rw [HVX.out, HVP.out]; rfl)
    have hw5 : Upd [gq] (w3.setCell ⟨ba, x * 2 + 1, none⟩ (.int .i64 (q : Int))) ((w3.setCell ⟨ba, x * 2 + 1, none⟩ (.int .i64 (q : Int))).setCell ⟨gq, j, none⟩ (.int .i64 (x : Int))) := (Upd.refl _ _).setCell (Or.inl (by simp)) _
    have hgq : (S.v q).ownBlock = some gq := by rw [HVQ.out]; rfl
    have hqall : ∀ y, y < n → y ≠ q → ∀ k, (S.v y).ownBlock = some k → k ∉ [gq] := fun y hy hyq k hk hm => by
      simp at hm; subst hm
      exact H0.out.sep y q hy hq hyq k hk hgq
    refine ⟨rfl, H0.out.lift OK.out (hN5.upd hw5 (by simp; omega) (by simp; omega)) (Nat.le_trans (Nat.le_trans hu1.size hw4.size) hw5.size) (fun y hy => ?_), ((hu0.trans (hu1.mono (by simp; exact Or.inr hgpb))).trans (hw4.mono (by simp))).trans (hw5.mono (by simp; exact Or.inr (HM.out q hq gq hgq)))⟩
    unfold liftS
    simp only
    by_cases hyx : y = x
    · rw [if_pos hyx, if_pos hyx]; exact owns_upd (HUN2.out _ hw4) hw5 (hqall p hp (Ne.symm hqp))
    · rw [if_neg hyx, if_neg hyx]
      by_cases hyp : y = p
      · rw [if_pos hyp, if_pos hyp]; exact owns_upd (HUN1.out x hx OK.out.ne _ hw4) hw5 (hqall x hx (Ne.symm hqx))
      · rw [if_neg hyp, if_neg hyp]
        by_cases hyq : y = q
        · subst hyq
          rw [if_pos rfl, setAt_len, HVQ.out]
          have := own_set o4 j (.int .i64 (x : Int))
          rw [← intsZ_set] at this
          unfold setAt
          rw [HJ.out]
          exact this
        · rw [if_neg (by omega)]; exact owns_upd (HUN1.out y hy hyp _ hw4) hw5 (hqall y hy hyq)
end Go.Proofs.Ytdgohhkgmfjhaaa
