/-
  Lemmas for RankNames: Lf4, Bt2, Lf5, Bt3. Conditions: those of each lemma.
-/
import Derived.IntWalk
import Derived.WalkKit
import Derived.WalkSpells
import Derived.WalkLawsBesides
import Derived.BigQuiet
import Derived.Deep.RegionHeld3
import Derived.ProofKit
import Derived.OpenShut
import Derived.Lib.Hide
import Derived.Test.YtklibcncmbofpaaGreatProg
import Derived.Maps.AppendAt
import Derived.StillTailTactics
import Derived.Maps.OwnSet
import Derived.Maps.OwnOps
import Derived.Maps.RangeWalk
import Derived.Test.YtklibcncmbofpaaGreatP01
import Derived.Test.YtklibcncmbofpaaGreatP02
import Derived.Test.YtklibcncmbofpaaGreatP03
import Derived.Test.YtklibcncmbofpaaGreatP05
import Derived.Test.YtklibcncmbofpaaGreatP06
set_option linter.unusedVariables false
set_option linter.unusedSimpArgs false
namespace Go.Proofs.YtklibcncmbofpaaGreat
open Go Go.RowKit
theorem Upw.turn {up : Nat → BT → BT → BT} {S0 S2 S3 : TS} {X : List Nat} {t m l : BT} {x : Nat} {W : List (Nat × BT)} (U : Upw up S0 X t S2 (W ++ [(x, l)]) m) (K : UpOk up) (hX : X.Nodup)
  (hT : IsT S3 (-1) x (up x l m)) (hfar : ∀ y, y ≠ x → y ∉ l.nodes → y ∉ m.nodes → S2.at S3 y) : Upw up S0 X t S3 W (up x l m) := by
 have hp := U.perm
 rw [wayN_snoc, List.append_assoc] at hp
 have hnd := hp.nodup_iff.2 hX
 rw [List.nodup_append] at hnd
 obtain ⟨n1, n2, n3⟩ := hnd
 refine ⟨by rw [K.root]; exact hT, fun p hpW => ?_, fun y hy => ?_, ?_, by rw [U.res, zipUp_snoc]⟩
 ·have hw := way_mem hpW
  refine (U.way p (List.mem_append_left _ hpW)).frame (fun y hy => ?_)
  have hyw : y ∈ wayN W := by
   simp only [BT.nodes, List.append_nil, List.mem_cons] at hy
   rcases hy with rfl | hy
   ·exact hw.1
   ·exact hw.2 y hy
  exact hfar y (fun e => n3 y hyw x (by simp) e) (fun hm => n3 y hyw y (by simp [hm]) rfl) (fun hm => n3 y hyw y (by simp [hm]) rfl)
 ·have h1 := U.far y hy
  have h2 := hfar y (fun e => hy (hp.mem_iff.1 (by rw [e]; simp))) (fun hm => hy (hp.mem_iff.1 (by simp [hm]))) (fun hm => hy (hp.mem_iff.1 (by simp [hm])))
  exact ⟨h2.1.trans h1.1, h2.2.1.trans h1.2.1, h2.2.2.trans h1.2.2⟩
 ·refine List.Perm.trans (List.Perm.append_left _ (K.nodes x l m)) ?_
  simpa using hp
theorem Upw.len {up : Nat → BT → BT → BT} {S0 S : TS} {X : List Nat} {t m : BT} {W : List (Nat × BT)} (U : Upw up S0 X t S W m) : W.length ≤ X.length := by
 have := U.perm.length_eq
 rw [List.length_append] at this
 have h2 : W.length ≤ (wayN W).length := by
  clear this U
  induction W with
  | nil => simp
  | cons p t ih => unfold wayN at *; simp only [List.flatMap_cons, List.length_append, List.length_cons]; omega
 omega
theorem Down.len {up : Nat → BT → BT → BT} {A : NS} {S0 S : TS} {ta tb a b : BT} {W : List (Nat × BT)} (U : Down up A S0 ta tb S W a b) : W.length + a.nodes.length + b.nodes.length ≤ (ta.nodes ++ tb.nodes).length := by
 have := U.perm.length_eq
 rw [List.length_append, List.length_append] at this
 have h2 : W.length ≤ (wayN W).length := by
  clear this U
  induction W with
  | nil => simp
  | cons p t ih => unfold wayN at *; simp only [List.flatMap_cons, List.length_append, List.length_cons]; omega
 omega
theorem lf_way_rk {S0 S2 : TS} {X : List Nat} {t m l : BT} {x : Nat} {W : List (Nat × BT)} {rk2 rk3 : Nat → Nat} {up : Nat → BT → BT → BT} (U : Upw up S0 X t S2 (W ++ [(x, l)]) m) (hX : X.Nodup)
  (hk : ∀ y, y ≠ x → rk3 y = rk2 y) (hr : ∀ p, p ∈ W → RkOk rk2 p.2) : ∀ p, p ∈ W → RkOk rk3 p.2 := fun p hp => by
 have hpx := U.perm
 rw [wayN_snoc, List.append_assoc] at hpx
 have hnd := hpx.nodup_iff.2 hX
 rw [List.nodup_append] at hnd
 exact (hr p hp).frame (fun y hy => hk y (fun e => hnd.2.2 y ((way_mem hp).2 y hy) x (by simp) e))
section
variable {w : World} {B : LB} {F : List Nat} {gt ct : Nat} {A : NS} {st : Nat} {S : TS} {rk : Nat → Nat} {tops : List Int}
theorem lcutR_any (h : LfM w B F gt ct A st S rk tops) {p : Int} {x : Nat} {l r : BT} (hT : IsT S p x (.node x l r)) (hx : x < A.cs.length) (hr : ∀ y, y ∈ r.nodes → y < A.cs.length) :
  Calls Tryz.prog 244 #[.pointer (some ⟨B.bt, 0, none⟩), .int .i64 r.root] w fun e w' => (∃ v, e = .returned v) ∧ LfM w' B F gt ct A st (cutR S x r) rk tops ∧ Upd [B.ba] w w' := by
 cases r with
 | nil =>
  refine (cut_no B.bt B.ba A.cs.length S (-1) w h.trees (by unfold upOf; simp)).mono ?_
  rintro e w' ⟨rfl, rfl⟩
  exact ⟨⟨_, rfl⟩, h, Upd.refl _ _⟩
 | node y a b =>
  obtain ⟨_, _, _, hr'⟩ := hT
  have e1 : S.r x = y := hr'.1
  have e2 : S.u y = x := hr'.2.1
  refine (cut_yes B.bt B.ba A.cs.length S x y w h.trees hx (hr y (by simp [BT.nodes])) e2).mono ?_
  rintro e w' ⟨rfl, hT, hu⟩
  exact ⟨⟨_, rfl⟩, h.setT hu hT, hu⟩
theorem lright_any (h : LfM w B F gt ct A st S rk tops) {p : Int} {x : Nat} {l r : BT} (hT : IsT S p x (.node x l r)) (hx : x < A.cs.length) :
  Calls Tryz.prog 249 #[.pointer (some ⟨B.bt, 0, none⟩), .int .i64 (x : Int)] w fun e w' => e = .returned (.tuple #[.int .i64 (tv r.root), .bool (tb r.root)]) ∧ Upd [] w w' := by
 have e : kidOf A.cs.length S (x : Int) true = r.root := by
  unfold kidOf TS.kid; rw [if_pos (by omega)]; simp only [if_true, Int.toNat_natCast]
  exact hT.2.2.2.root
 refine (right_any B.bt B.ba A.cs.length S (x : Int) w h.trees).mono ?_
 rw [e]
 rintro e w' ⟨rfl, k, rfl⟩
 exact ⟨rfl, (Upd.refl _ _).drewN k⟩
def wayV (W : List (Nat × BT)) : List Value := intsZ (W.map fun p => (p.1 : Int))
theorem wayV_snoc (W : List (Nat × BT)) (x : Nat) (l : BT) : wayV (W ++ [(x, l)]) = wayV W ++ [.int .i64 (x : Int)] := by unfold wayV intsZ; simp
set_option maxHeartbeats 8000000 in
theorem lmerge_any (h : LfM w B F gt ct A st S rk tops) {ta tb : BT} (ha : IsT S (-1) ta.root ta) (hb : IsT S (-1) tb.root tb) (hX : (ta.nodes ++ tb.nodes).Nodup) (hin : ∀ y, y ∈ ta.nodes ++ tb.nodes → inN A (y : Int) = true) (ra : RkOk rk ta) (rb : RkOk rk tb) :
  Calls Tryz.prog 246 #[.pointer (some ⟨B.n0, 0, none⟩), .int .i64 ta.root, .int .i64 tb.root] w fun e w' => e = .returned (.int .i64 (mergeT settleT A ta tb).1.root) ∧ Upd [B.c, B.ba, B.br] w w' ∧
   ∃ S' rk', LfM w' B F gt ct A (satS st (mergeT settleT A ta tb).2) S' rk' tops ∧ IsT S' (-1) (mergeT settleT A ta tb).1.root (mergeT settleT A ta tb).1 ∧ RkOk rk' (mergeT settleT A ta tb).1 ∧ ∀ y, y ∉ ta.nodes ++ tb.nodes → S.at S' y ∧ rk' y = rk y := by
 have hblk := h.lt
 have hcF := h.cF
 have hbl0 := hblk B.n0 (by simp [LB.blk])
 have hbl1 := hblk B.bt (by simp [LB.blk])
 have hbl2 := hblk B.ba (by simp [LB.blk])
 have hbl3 := hblk B.br (by simp [LB.blk])
 have hbl4 := hblk B.c (by simp [LB.blk, hcF])
 have hs := Lib.hid h.sep
 have hA := h.cells.ok.c1
 have hlt : Hid (∀ y, y ∈ ta.nodes ++ tb.nodes → y < A.cs.length) := fun y hy => ((inN_nat A y).1 (hin y hy)).1
 have hXl : (ta.nodes ++ tb.nodes).length ≤ A.cs.length := nodup_natlen hX hlt.out
 have HM0 := Lib.hid h
 have HBL := Lib.hid hblk
 have D0 := Lib.hid (Down.start settleT A ha hb)
 have HIN := Lib.hid hin
 have HX := Lib.hid hX
 have RA := Lib.hid (And.intro ra rb)
 have hst := h.cells.st62
 clear h ha hb hblk hcF hin hX ra rb
 go_enter Tryz.func246, Tryz.ntmps246
 go_wp2
 go_loopw [1, 2, 7] (fun a b way wr => ∃ (S1 : TS) (W : List (Nat × BT)) (a1 b1 : BT), a = .int .i64 a1.root ∧ b = .int .i64 b1.root ∧ wr.ownsRow w.heap.size 3 1 way W.length (wayV W) ∧ LfM wr B F gt ct A (satS st W.length) S1 rk tops ∧ Down settleT A S ta tb S1 W a1 b1 ∧ RkOk rk a1 ∧ RkOk rk b1 ∧ (∀ p, p ∈ W → RkOk rk p.2) ∧ Upd [B.c, B.ba] w wr) (fun _ _ way _ => (ta.nodes ++ tb.nodes).length - lenOf way)
 case atStart =>
  exact ⟨S, [], ta, tb, rfl, rfl, ⟨by simp [wayV, intsZ], Or.inl ⟨rfl, rfl⟩⟩, by rw [List.length_nil, satS_zero hst]; exact HM0.out.upd0 (by (repeat (first | assumption | exact Upd.refl _ _ | refine Upd.alloc ?_ _ | refine Upd.drew ?_ | refine Upd.drewN ?_ _ | refine Upd.setCell ?_ ?_ _ | focus (left; simp; done) | focus (right; simp; done) | focus (right; simp; omega)))), D0.out, RA.out.1, RA.out.2, (fun p hp => by cases hp), by (repeat (first | assumption | exact Upd.refl _ _ | refine Upd.alloc ?_ _ | refine Upd.drew ?_ | refine Upd.drewN ?_ _ | refine Upd.setCell ?_ ?_ _ | focus (left; simp; done) | focus (right; simp; done) | focus (right; simp; omega)))⟩
 case round =>
  obtain ⟨S1, W, a1, b1, rfl, rfl, ho, hM, hD, r1, r2, r3, hu⟩ := hrel
  have HM := Lib.hid hM
  have HD := Lib.hid hD
  have HR := Lib.hid (And.intro r1 (And.intro r2 r3))
  have HO := Lib.hid ho
  have hlen := hD.len
  have h0 := hM.h0
  have h1 := hM.h1
  clear hM hD r1 r2 r3
  obtain ⟨a5, c5, rfl, hc5⟩ := own_slice ho
  have hob : ∀ g, (Value.slice a5 W.length c5).ownBlock = some g → w.heap.size ≤ g := fun g hg => (ho.lt g hg).1
  have HOB := Lib.hid hob
  clear ho hob
  by_cases hne : a1 = .nil ∨ b1 = .nil
  ·obtain ⟨m0, e0, U0, hcnt, hor⟩ := HD.out.turn hne
   have hm0 : RkOk rk m0 := by rcases hor with rfl | rfl; exact HR.out.1; exact HR.out.2.1
   have hz : a1.root = -1 ∨ (a1.root ≠ -1 ∧ b1.root = -1) := by
    rcases hne with rfl | rfl
    ·exact Or.inl rfl
    ·by_cases e : a1.root = -1
     ·exact Or.inl e
     ·exact Or.inr ⟨e, rfl⟩
   have HU := Lib.hid (And.intro U0 (And.intro hm0 (And.intro hcnt HR.out.2.2)))
   have hWl := U0.len
   have HUP := Lib.hid hu
   rw [← hcnt] at HM
   clear hne hor U0 hm0 HR HD hcnt hu hlen h0
   generalize a1.root = za at *
   generalize b1.root = zb at *
   have HEX : Hid (∃ W2 U2 : List (Nat × BT), W = W2 ++ U2) := ⟨W, [], by simp⟩
   have e9 : ∃ z9, m0.root = z9 := ⟨_, rfl⟩
   obtain ⟨z9, e9⟩ := e9
   rw [e9] at e0
   generalize hn0 : W.length = n0 at *
   have HN0 := Lib.hid hn0
   clear hn0
   rcases hz with rfl | ⟨hz1, rfl⟩
   all_goals
    first | rw [if_pos rfl] at e0 | rw [if_neg hz1] at e0
    subst e0
    try (have hz2 : (z9 != -1) = true := by simpa using hz1)
    try (have hz3 : (z9 == -1) = false := by simpa using hz1)
    go_wp2
    go_loopw [9, 10] (fun top i w5 => ∃ (S2 : TS) (W2 U2 : List (Nat × BT)) (m : BT) (rk2 : Nat → Nat), W = W2 ++ U2 ∧ top = .int .i64 m.root ∧ i = .int .i64 ((W2.length : Int) - 1) ∧ LfM w5 B F gt ct A (satS st (mergeT settleT A ta tb).2) S2 rk2 tops ∧ Upw settleT S (ta.nodes ++ tb.nodes) (mergeT settleT A ta tb).1 S2 W2 m ∧ RkOk rk2 m ∧ (∀ p, p ∈ W2 → RkOk rk2 p.2) ∧ (∀ y, y ∉ ta.nodes ++ tb.nodes → rk2 y = rk y) ∧ Upd [B.ba, B.br] wr w5) (fun _ i _ => (intOf i + 1).toNat)
    case atStart => exact ⟨S1, W, [], m0, rk, by simp, by rw [e9], by rw [HN0.out], HM.out, HU.out.1, HU.out.2.1, HU.out.2.2.2, fun _ _ => rfl, Upd.refl _ _⟩
    case round =>
     obtain ⟨S2, W2, U2, m, rk2, rfl, rfl, rfl, hM, hU, r1, r2, r3, hu⟩ := hrel
     rename World => w5
     rcases List.eq_nil_or_concat W2 with rfl | ⟨W3, ⟨x, l⟩, rfl⟩
     ·have e0 := hU.res
      simp only [zipUp] at e0
      simp only [List.length_nil]
      go_wp2
      go_ret
      rw [e0]
      exact ⟨rfl, (HUP.out.mono (by simp)).trans (hu.mono (by simp)), S2, rk2, hM, hU.isM, r1, fun y hy => ⟨hU.far y hy, r3 y hy⟩⟩
     ·have hpx := hU.perm
      simp only [List.concat_eq_append] at *
      rw [wayN_snoc, List.append_assoc] at hpx
      have hin3 : ∀ q, q ∈ (x :: l.nodes) ++ m.nodes → q < A.cs.length := fun q hq => hlt.out q (hpx.mem_iff.1 (List.mem_append_right _ hq))
      have hnd : ((x :: l.nodes) ++ m.nodes).Nodup := (List.nodup_append.1 (hpx.nodup_iff.2 HX.out)).2.1
      have hxA := hin3 x (by simp)
      obtain ⟨g, cap, ee, hI, hg⟩ := IZ.of_own (l := (W3 ++ [(x, l)] ++ U2).map fun p => (p.1 : Int)) (by rw [List.length_map, HN0.out]; exact owns_upd HO.out hu (fun k hk => by have := HOB.out k hk; simp; omega)) (by simp; omega)
      rw [List.length_map, HN0.out] at ee
      injection ee with ee1 ee2 ee3
      subst ee1 ee3
      have dz := hI.cell W3.length (by simp)
      rw [show (((W3 ++ [(x, l)] ++ U2).map fun p => (p.1 : Int)).getD W3.length 0) = (x : Int) by simp [List.getD_eq_getElem?_getD]] at dz
      have h0 := hM.h0
      have h1 := hM.h1
      have HM5 := Lib.hid hM
      have HU5 := Lib.hid hU
      have HR5 := Lib.hid (And.intro r1 (And.intro r2 r3))
      have HN5 := Lib.hid (And.intro hin3 hnd)
      have hTx := hU.way (x, l) (by simp)
      have HTX := Lib.hid hTx
      have HPX := Lib.hid hpx
      have hil : ((W3 ++ [(x, l)]).length : Int) - 1 = W3.length := by simp
      rw [hil]
      have hi0 : ((W3.length : Int) ≥ 0) := by omega
      have hWn : W3.length + 1 + U2.length = n0 := by have := HN0.out; simp at this; omega
      have hW3 : W3.length ≤ 65536 := by omega
      clear hM hU r1 r2 r3 hin3 hnd hTx hpx hil hI ee2
      by_cases hm : m = .nil
      ·subst hm
       simp only [BT.root]
       go_wp2_with fail
       have hT2 : IsT S2 (-1) x (.node x l .nil) := HTX.out
       refine (lsettle_tree HM5.out hT2 (HR5.out.2.1 (x, l) (by simp)) HR5.out.1 (by simpa [BT.nodes] using HN5.out.2) (fun q hq => HN5.out.1 q (by simpa [BT.nodes] using hq))).mono ?_
       rintro e w7 ⟨rfl, hu7, S3, rk3, hM7, hT7, hr7, hs7, _, hk7⟩
       have HM7 := Lib.hid hM7
       have HQ7 := Lib.hid (And.intro hT7 (And.intro hr7 (And.intro hs7 hk7)))
       have HU7 := Lib.hid (hu.trans hu7)
       clear hM7 hT7 hr7 hs7 hk7 hu hu7 HTX h0 h1 dz
       go_wp2
       go_roundw
       case rel =>
        refine ⟨S3, W3, (x, l) :: U2, settleT x l .nil, rk3, by simp, congrArg (Value.int .i64) (settle_root x l .nil).symm, by go_num, HM7.out, HU5.out.turn settle_ok HX.out HQ7.out.1 (fun y h1 _ _ => HQ7.out.2.2.1 y h1), HQ7.out.2.1, ?_, ?_, HU7.out⟩
        ·exact lf_way_rk HU5.out HX.out HQ7.out.2.2.2 (fun p hp => HR5.out.2.1 p (List.mem_append_left _ hp))
        ·exact fun y hy => (HQ7.out.2.2.2 y (fun e => hy (by rw [e]; exact HPX.out.mem_iff.1 (by simp)))).trans (HR5.out.2.2 y hy)
       case measure => simp [intOf]
      ·obtain ⟨mr, hmr⟩ : ∃ mr : Nat, m.root = mr := ⟨_, BT.root_cast hm⟩
       have hmm := (root_mem hm).1
       rw [hmr, Int.toNat_natCast] at hmm
       have hT2 : IsT S2 (-1) x (.node x l .nil) := HTX.out
       have hTm := HU5.out.isM
       have hur : S2.u mr = -1 := by
        cases m with
        | nil => exact absurd rfl hm
        | node q a b =>
         have e : q = mr := by have e' : (q : Int) = mr := hmr; omega
         subst e
         exact hTm.2.1
       have hnd := HN5.out.2
       have hxm : x ≠ mr := fun e => by
        rw [List.nodup_append] at hnd
        exact hnd.2.2 x (by simp) mr hmm e
       obtain ⟨hT3, hS3⟩ := hang_tree (m := m) hT2 hTm hm (by simpa [BT.nodes] using hnd)
       rw [hmr] at hT3 hS3
       have HT3 := Lib.hid (And.intro hT3 (And.intro hm hS3))
       have kh := fun W (hW : Upd [] w5 W) => hang_yes B.bt B.ba A.cs.length S2 x mr true W ((HM5.out.upd0 hW).trees) hxA (HN5.out.1 mr (List.mem_append_right _ hmm)) hxm hur hT2.2.2.2
       have HMR := Lib.hid hmr
       rw [hmr]
       have hz4 : ((mr : Int) != -1) = true := by simp
       have rr1 : ∀ W, Upd [B.ba] w5 W → W.cell? ⟨B.n0, 1, none⟩ = some (.pointer (some ⟨B.bt, 0, none⟩)) := fun W hW => hW.kept h1 (by have := hs.out; simp; omega)
       have rr2 : ∀ W, Upd [B.ba] w5 W → W.cell? ⟨g, W3.length, none⟩ = some (.int .i64 (x : Int)) := fun W hW => hW.kept dz (by simp; omega)
       clear hT2 hTm hur hnd hT3 hS3 hm hmr h0 h1 dz hmm
       go_wp2_with fail
       have hib1 : (0 : Int) ≤ (W3.length : Int) := by omega
       have hib2 : (W3.length : Int) < (n0 : Int) := by omega
       go_region_held3 (Upd [B.ba] w5) (repeat (first | assumption | exact Upd.refl _ _ | refine Upd.drew ?_ | refine Upd.alloc ?_ _ | refine Upd.setCell ?_ ?_ _ | focus (left; simp; done) | focus (right; simp; done) | focus (right; simp; omega) | (apply Upd.trans; rotate_left; assumption)))
        ((go_at_call 251; (with_reducible refine (kh _ (by (repeat (first | assumption | exact Upd.refl _ _ | refine Upd.alloc ?_ _ | refine Upd.drew ?_ | refine Upd.drewN ?_ _ | refine Upd.setCell ?_ ?_ _ | focus (left; simp; done) | focus (right; simp; done) | focus (right; simp; omega))))).mono ?_); rintro e w6 ⟨rfl, hT6, hu6⟩; (have hu56 : Upd [B.ba] w5 w6 := by (repeat (first | assumption | exact Upd.refl _ _ | refine Upd.drew ?_ | refine Upd.alloc ?_ _ | refine Upd.setCell ?_ ?_ _ | focus (left; simp; done) | focus (right; simp; done) | focus (right; simp; omega) | (apply Upd.trans; rotate_left; assumption))))))
       have dz6 := rr2 w6 hu56
       have HM6 := Lib.hid (HM5.out.setT hu56 hT6)
       clear rr1 rr2 kh hu6 hT6
       go_wp2_with fail
       refine (lsettle_tree HM6.out HT3.out.1 (HR5.out.2.1 (x, l) (by simp)) HR5.out.1 (by simpa [BT.nodes] using HN5.out.2) (fun q hq => HN5.out.1 q (by simpa [BT.nodes] using hq))).mono ?_
       rintro e w7 ⟨rfl, hu7, S3, rk3, hM7, hT7, hr7, hs7, _, hk7⟩
       have HM7 := Lib.hid hM7
       have HQ7 := Lib.hid (And.intro hT7 (And.intro hr7 (And.intro hs7 hk7)))
       have HU7 := Lib.hid (hu.trans ((hu56.mono (by simp)).trans hu7))
       clear hM7 hT7 hr7 hs7 hk7 hu hu7 HTX dz6 hu56
       go_wp2
       go_roundw
       case rel =>
        refine ⟨S3, W3, (x, l) :: U2, settleT x l m, rk3, by simp, by rw [settle_root], by go_num, HM7.out, HU5.out.turn settle_ok HX.out HQ7.out.1 (fun y h1 _ h3 => ?_), HQ7.out.2.1, ?_, ?_, HU7.out⟩
        ·have a1 := HT3.out.2.2 y h1 h3
         have a2 := HQ7.out.2.2.1 y h1
         exact ⟨a2.1.trans a1.1, a2.2.1.trans a1.2.1, a2.2.2.trans a1.2.2⟩
        ·exact lf_way_rk HU5.out HX.out HQ7.out.2.2.2 (fun p hp => HR5.out.2.1 p (List.mem_append_left _ hp))
        ·exact fun y hy => (HQ7.out.2.2.2 y (fun e => hy (by rw [e]; exact HPX.out.mem_iff.1 (by simp)))).trans (HR5.out.2.2 y hy)
       case measure => simp [intOf]
  ·obtain ⟨x, l, r, rfl⟩ : ∃ x l r, a1 = .node x l r := by
    cases a1 with
    | nil => exact absurd (Or.inl rfl) hne
    | node x l r => exact ⟨x, l, r, rfl⟩
   obtain ⟨y, l', r', rfl⟩ : ∃ x l r, b1 = .node x l r := by
    cases b1 with
    | nil => exact absurd (Or.inr rfl) hne
    | node x l r => exact ⟨x, l, r, rfl⟩
   clear hne
   have hmx : ∀ z, z ∈ (BT.node x l r).nodes ++ (BT.node y l' r').nodes → z ∈ ta.nodes ++ tb.nodes := fun z hz => HD.out.perm.mem_iff.1 (List.mem_append_right _ hz)
   have hxm := hmx x (by simp [BT.nodes])
   have hym := hmx y (by simp [BT.nodes])
   have hWl : W.length + 2 ≤ (ta.nodes ++ tb.nodes).length := by simp only [BT.nodes, List.length_cons, List.length_append] at hlen ⊢; omega
   have HMX := Lib.hid hmx
   have hxb : ((x : Int) != -1) = true := by simp
   have hyb : ((y : Int) != -1) = true := by simp
   clear hmx hlen
   have kA := cahead_yes HM.out.cells y x (HIN.out y hym) (HIN.out x hxm)
   obtain ⟨sw, hsw⟩ : ∃ sw, decide (lt3 A y x) = sw := ⟨_, rfl⟩
   rw [hsw] at kA
   have KEY : ∃ (z : Nat) (lz rz o : BT), z = (if sw then y else x) ∧ Down settleT A S ta tb (cutR S1 z rz) (W ++ [(z, lz)]) rz o ∧ IsT S1 (-1) z (.node z lz rz) ∧ RkOk rk lz ∧ RkOk rk rz ∧ RkOk rk o ∧ z < A.cs.length ∧ (∀ q, q ∈ rz.nodes → q < A.cs.length) ∧ o.root = (if sw then (x : Int) else (y : Int)) := by
    cases sw with
    | true =>
     exact ⟨y, l', r', .node x l r, rfl, HD.out.takeB HX.out (of_decide_eq_true hsw), HD.out.isB, HR.out.2.1.2.1, HR.out.2.1.2.2, HR.out.1, hlt.out y hym, fun q hq => hlt.out q (HMX.out q (by simp [BT.nodes, hq])), rfl⟩
    | false =>
     exact ⟨x, l, r, .node y l' r', rfl, HD.out.takeA HX.out (of_decide_eq_false hsw), HD.out.isA, HR.out.1.2.1, HR.out.1.2.2, HR.out.2.1, hlt.out x hxm, fun q hq => hlt.out q (HMX.out q (by simp [BT.nodes, hq])), rfl⟩
   obtain ⟨z, lz, rz, o, ez, hD2, hTz, q1, q2, q3, hz, hrz, eo⟩ := KEY
   have HD2 := Lib.hid hD2
   have HT := Lib.hid hTz
   have HQ := Lib.hid (And.intro q1 (And.intro q2 (And.intro q3 hrz)))
   clear hD2 hTz q1 q2 q3 hrz hsw
   simp only [BT.root]
   cases sw
   all_goals
    simp only [if_true, if_false, Bool.false_eq_true] at ez eo
    subst ez
    go_wp2_with fail
    refine kA.mono ?_
    rintro e w1 ⟨rfl, hC1, hu1⟩
    have hM1 := Lib.hid (HM.out.setC (hu1.mono (by simp [HM.out.cF])) hC1 (fun x hx => Or.inl hx) rfl rfl)
    have hss : satS (satS st W.length) 1 = satS st (W.length + 1) := satS_add _ _ _
    rw [hss] at hM1
    have ho1 := owns_upd HO.out hu1 (fun k hk => by have := HOB.out k hk; simp; omega)
    have h01 := hM1.out.h0
    have h11 := hM1.out.h1
    clear h0 h1 kA hss
    have HUW := Lib.hid (And.intro hu hu1)
    clear hu hu1 hC1
    have HGB : Hid (∀ g, g ∈ (Value.slice a5 W.length c5).ownBlock.toList → g ∉ B.blk F gt) := fun g hg hb => by
     have h1 := HOB.out g (Option.mem_toList.1 hg)
     have h2 := HBL.out g hb
     omega
    have hsz1 : w.heap.size ≤ w1.heap.size := (HUW.out.1.trans (HUW.out.2.mono (by simp))).size
    go_wp2_with (first
     | ((at_builtin; refine wpList_append_sep rfl _ _ 26 rfl w.heap.size 3 (.int .i64 0) 1 8 Tryz.underlying26 intInfo rfl (by decide) _ _ _ rfl (ho1) [.int .i64 (z : Int)] rfl (by simp [Value.oneCell']) (by first | rfl | (rw [World.size_alloc]; rfl)) (by unfold maxLen; omega) (by omega) ((by omega)) ?_; intro v2 w2 ho2 hu2 hsep2); (have hM2 := Lib.hid (hM1.out.upd hu2 HGB.out)); (have k12 := hM2.out.h1); (have kr := lright_any hM2.out HT.out hz))
     | (go_at_call 249; (with_reducible refine (kr).mono ?_); rintro e w3 ⟨rfl, hu3⟩; (have k13 := hu3.was k12); (have hM3 := Lib.hid (hM2.out.upd0 hu3)); (have kc := lcutR_any hM3.out HT.out hz HQ.out.2.2.2))
     | (go_at_call 247; (with_reducible refine (lkid_any _ _).mono ?_); rintro e w9 ⟨rfl, hw9⟩; rw [hw9]; clear hw9 w9)
     | (go_at_call 244; (with_reducible refine (kc).mono ?_); rintro e w4 ⟨⟨v4, rfl⟩, hM4, hu4⟩)
     | fail)
    obtain ⟨a6, c6, rfl, hc6⟩ := own_slice ho2
    have hob2 : ∀ k, (Value.slice a6 (W.length + 1) c6).ownBlock = some k → w.heap.size ≤ k := fun k hk => (ho2.lt k hk).1
    refine ⟨⟨_, W ++ [(z, lz)], rz, o, rfl, congrArg (Value.int .i64) eo.symm, ?_, ?_, HD2.out, HQ.out.2.1, HQ.out.2.2.1, ?_, ?_⟩, ?_⟩
    ·rw [wayV_snoc, List.length_append, List.length_singleton]
     exact owns_upd (owns_upd ho2 hu3 (by simp)) hu4 (fun k hk => by have := hob2 k hk; simp; omega)
    ·rw [List.length_append, List.length_singleton]; exact hM4
    ·intro p hp
     rcases List.mem_append.1 hp with hp | hp
     ·exact HR.out.2.2 p hp
     ·simp only [List.mem_singleton] at hp
      subst hp
      exact HQ.out.1
    ·have v1 : Upd [B.c, B.ba] w w1 := HUW.out.1.trans (HUW.out.2.mono (by simp))
     have v2 : Upd [B.c, B.ba] w w2 := v1.joined hu2 (fun g hg => Or.inr (HOB.out g (Option.mem_toList.1 hg)))
     exact (v2.trans (hu3.mono (by simp))).trans (hu4.mono (by simp))
    ·show (ta.nodes ++ tb.nodes).length - (W.length + 1) < (ta.nodes ++ tb.nodes).length - W.length
     omega
end
end Go.Proofs.YtklibcncmbofpaaGreat
namespace Go.Proofs.YtklibcncmbofpaaGreat
abbrev Fr := Nat × Bool × BT
def plug1 (f : Fr) (t : BT) : BT := if f.2.1 then .node f.1 f.2.2 t else .node f.1 t f.2.2
def plug : List Fr → BT → BT
 | [], t => t
 | f :: P, t => plug P (plug1 f t)
def upP : List Fr → Int | [] => -1 | f :: _ => f.1
def ctxN : List Fr → List Nat | [] => [] | f :: P => f.1 :: (f.2.2.nodes ++ ctxN P)
def IsP (S : TS) : List Fr → Int → Prop
 | [], _ => True
 | f :: P, z => S.kid f.2.1 f.1 = z ∧ IsT S f.1 (S.kid (!f.2.1) f.1) f.2.2 ∧ S.u f.1 = upP P ∧ IsP S P f.1
theorem plug1_root (f : Fr) (t : BT) : (plug1 f t).root = f.1 := by unfold plug1; split <;> rfl
theorem plug1_nodes (f : Fr) (t : BT) : (plug1 f t).nodes.Perm (f.1 :: (t.nodes ++ f.2.2.nodes)) := by
 unfold plug1; split
 ·simp only [BT.nodes]; exact List.Perm.cons _ List.perm_append_comm
 ·exact List.Perm.refl _
theorem plug_nodes : ∀ (P : List Fr) (t : BT), (plug P t).nodes.Perm (t.nodes ++ ctxN P)
 | [], t => by simp [plug, ctxN]
 | f :: P, t => by
  refine (plug_nodes P (plug1 f t)).trans ?_
  refine ((plug1_nodes f t).append_right (ctxN P)).trans ?_
  simp only [ctxN, List.cons_append, List.append_assoc]
  exact (List.perm_middle (a := f.1) (l₁ := t.nodes) (l₂ := f.2.2.nodes ++ ctxN P)).symm
theorem plug_root2 : ∀ (P : List Fr) (t t' : BT), t.root = t'.root → (plug P t).root = (plug P t').root
 | [], t, t', h => h
 | f :: P, t, t', h => plug_root2 P _ _ (by rw [plug1_root, plug1_root])
theorem plug_rootc (f : Fr) (P : List Fr) (t t' : BT) : (plug (f :: P) t).root = (plug (f :: P) t').root := plug_root2 P _ _ (by rw [plug1_root, plug1_root])
theorem plug_append : ∀ (P Q : List Fr) (t : BT), plug (P ++ Q) t = plug Q (plug P t)
 | [], _, _ => rfl
 | f :: P, Q, t => plug_append P Q (plug1 f t)
theorem find_node : ∀ {t : BT} {x : Nat}, x ∈ t.nodes → ∃ P l r, t = plug P (.node x l r)
 | .nil, _, h => by cases h
 | .node y a b, x, h => by
  simp only [BT.nodes, List.mem_cons, List.mem_append] at h
  rcases h with rfl | h | h
  ·exact ⟨[], a, b, rfl⟩
  ·obtain ⟨P, l, r, e⟩ := find_node h
   exact ⟨P ++ [(y, false, b)], l, r, by rw [plug_append, ← e]; rfl⟩
  ·obtain ⟨P, l, r, e⟩ := find_node h
   exact ⟨P ++ [(y, true, a)], l, r, by rw [plug_append, ← e]; rfl⟩
theorem isT_plug1 {S : TS} {p : Int} (f : Fr) (t : BT) : IsT S p f.1 (plug1 f t) ↔ IsT S f.1 t.root t ∧ S.kid f.2.1 f.1 = t.root ∧ IsT S f.1 (S.kid (!f.2.1) f.1) f.2.2 ∧ S.u f.1 = p := by
 obtain ⟨x, s, o⟩ := f
 cases s
 ·simp only [plug1, Bool.false_eq_true, if_false, IsT, TS.kid, Bool.not_false, if_true]
  constructor
  ·rintro ⟨_, h2, h3, h4⟩
   have e := h3.root
   exact ⟨by rw [← e]; exact h3, e, h4, h2⟩
  ·rintro ⟨h1, h2, h3, h4⟩
   exact ⟨trivial, h4, by rw [h2]; exact h1, h3⟩
 ·simp only [plug1, if_true, IsT, TS.kid, Bool.not_true, Bool.false_eq_true, if_false]
  constructor
  ·rintro ⟨_, h2, h3, h4⟩
   have e := h4.root
   exact ⟨by rw [← e]; exact h4, e, h3, h2⟩
  ·rintro ⟨h1, h2, h3, h4⟩
   exact ⟨trivial, h4, h3, by rw [h2]; exact h1⟩
theorem isT_plug {S : TS} : ∀ (P : List Fr) (t : BT), IsT S (-1) (plug P t).root (plug P t) ↔ IsT S (upP P) t.root t ∧ IsP S P t.root
 | [], t => by simp [plug, upP, IsP]
 | f :: P, t => by
  have h := isT_plug (S := S) P (plug1 f t)
  rw [plug1_root] at h
  show IsT S (-1) (plug P (plug1 f t)).root (plug P (plug1 f t)) ↔ _
  rw [h, isT_plug1]
  simp only [upP, IsP]
  constructor
  ·rintro ⟨⟨h1, h2, h3, h4⟩, h5⟩
   exact ⟨h1, h2, h3, h4, h5⟩
  ·rintro ⟨h1, h2, h3, h4, h5⟩
   exact ⟨⟨h1, h2, h3, h4⟩, h5⟩
theorem IsP.frame {S S' : TS} : ∀ {P : List Fr} {z : Int}, IsP S P z → (∀ y, y ∈ ctxN P → S.at S' y) → IsP S' P z
 | [], _, _, _ => trivial
 | f :: P, z, h, hs => by
  obtain ⟨h1, h2, h3, h4⟩ := h
  have hf := hs f.1 (by simp [ctxN])
  have hk : ∀ s, S'.kid s f.1 = S.kid s f.1 := fun s => by unfold TS.kid; rw [hf.1, hf.2.1]
  exact ⟨by rw [hk]; exact h1, by rw [hk]; exact h2.frame (fun y hy => hs y (by simp [ctxN, hy])), by rw [hf.2.2]; exact h3, h4.frame (fun y hy => hs y (by simp [ctxN, hy]))⟩
theorem IsP.other {S S' : TS} {f : Fr} {P : List Fr} {z z' : Int} (h : IsP S (f :: P) z) (hn : (ctxN (f :: P)).Nodup) (h1 : S'.kid f.2.1 f.1 = z') (h2 : S'.kid (!f.2.1) f.1 = S.kid (!f.2.1) f.1) (h3 : S'.u f.1 = S.u f.1)
  (hs : ∀ y, y ≠ f.1 → y ∈ ctxN (f :: P) → S.at S' y) : IsP S' (f :: P) z' := by
 obtain ⟨_, g2, g3, g4⟩ := h
 simp only [ctxN, List.nodup_cons, List.mem_append, not_or] at hn
 exact ⟨h1, by rw [h2]; exact g2.frame (fun y hy => hs y (fun e => hn.1.1 (by rw [← e]; exact hy)) (by simp [ctxN, hy])), by rw [h3]; exact g3, g4.frame (fun y hy => hs y (fun e => hn.1.2 (by rw [← e]; exact hy)) (by simp [ctxN, hy]))⟩
theorem cutS_at {S : TS} {i j : Nat} {y : Nat} (h1 : y ≠ i) (h2 : y ≠ j) : S.at (cutS S i j) y := by
 unfold cutS TS.setKid TS.setUp TS.at
 refine ⟨?_, ?_, ?_⟩
 ·cases decide (S.r i = (j : Int)) <;> simp [h1]
 ·cases decide (S.r i = (j : Int)) <;> simp [h1]
 ·cases decide (S.r i = (j : Int)) <;> simp [h2]
theorem kid_u {S : TS} {i : Nat} {s : Bool} {v : Int} : ∀ y, (S.setKid i s v).u y = S.u y := fun y => by unfold TS.setKid; cases s <;> rfl
theorem cut_plug {S : TS} {f : Fr} {P : List Fr} {t : BT} (h : IsT S (-1) (plug (f :: P) t).root (plug (f :: P) t)) (ht : t ≠ .nil) (hn : (plug (f :: P) t).nodes.Nodup) :
  IsT (cutS S f.1 t.root.toNat) (-1) t.root t ∧ IsT (cutS S f.1 t.root.toNat) (-1) (plug (f :: P) .nil).root (plug (f :: P) .nil) ∧ ∀ y, y ≠ f.1 → y ≠ t.root.toNat → S.at (cutS S f.1 t.root.toNat) y := by
 obtain ⟨h1, h2⟩ := (isT_plug _ _).1 h
 have hnp := (plug_nodes (f :: P) t).nodup_iff.1 hn
 rw [List.nodup_append] at hnp
 obtain ⟨n1, n2, n3⟩ := hnp
 obtain ⟨rm, rc⟩ := root_mem ht
 generalize hx : t.root.toNat = x at *
 have hfx : f.1 ≠ x := fun e => n3 x rm f.1 (by simp [ctxN]) e.symm
 have hat : ∀ y, y ≠ f.1 → y ≠ x → S.at (cutS S f.1 x) y := fun y h1 h2 => cutS_at h1 h2
 have hk : S.kid f.2.1 f.1 = x := by rw [h2.1, rc]
 have hside : decide (S.r f.1 = (x : Int)) = f.2.1 := by
  cases hs : f.2.1 with
  | true => rw [hs] at hk; exact decide_eq_true (by simpa [TS.kid] using hk)
  | false =>
   refine decide_eq_false (fun e => ?_)
   have h3 := h2.2.1
   rw [hs] at h3
   have h4 := h3.root
   have h5 : f.2.2.root = (x : Int) := by rw [← h4]; simpa [TS.kid] using e
   have h6 : f.2.2 ≠ .nil := fun e => by rw [e] at h5; simp [BT.root] at h5
   have h7 := (root_mem h6).1
   rw [h5, Int.toNat_natCast] at h7
   exact n3 x rm x (by simp [ctxN, h7]) rfl
 have hkid : ∀ s, (cutS S f.1 x).kid s f.1 = if s = f.2.1 then -1 else S.kid s f.1 := fun s => by
  unfold cutS
  rw [hside]
  unfold TS.setKid TS.setUp TS.kid
  cases s <;> cases f.2.1 <;> simp
 have hu : ∀ y, (cutS S f.1 x).u y = if y = x then -1 else S.u y := fun y => by
  unfold cutS TS.setUp
  simp only [kid_u]
 refine ⟨h1.hung n1 (fun y hy => ?_) (fun _ => ?_), (isT_plug _ _).2 ⟨rfl, h2.other n2 ?_ ?_ ?_ (fun y g1 g2 => hat y g1 (fun e => n3 x rm y g2 e.symm))⟩, hat⟩
 ·have hyf : y ≠ f.1 := fun e => n3 y hy f.1 (by simp [ctxN]) e
  refine ⟨?_, ?_, fun hr => ?_⟩
  ·unfold cutS TS.setKid TS.setUp; cases decide (S.r f.1 = (x : Int)) <;> simp [hyf]
  ·unfold cutS TS.setKid TS.setUp; cases decide (S.r f.1 = (x : Int)) <;> simp [hyf]
  ·rw [hu, if_neg (by rw [hx] at hr; exact hr)]
 ·rw [hu, hx, if_pos rfl]
 ·rw [hkid, if_pos rfl]; rfl
 ·rw [hkid, if_neg (by cases f.2.1 <;> simp)]
 ·rw [hu, if_neg hfx]
theorem hang_plug {S : TS} {f : Fr} {P : List Fr} {m : BT} (h : IsT S (-1) (plug (f :: P) .nil).root (plug (f :: P) .nil)) (hM : IsT S (-1) m.root m) (hm : m ≠ .nil) (hn : (m.nodes ++ ctxN (f :: P)).Nodup) :
  IsT (hangS S f.1 m.root f.2.1) (-1) (plug (f :: P) m).root (plug (f :: P) m) ∧ ∀ y, y ≠ f.1 → y ≠ m.root.toNat → S.at (hangS S f.1 m.root f.2.1) y := by
 obtain ⟨_, h2⟩ := (isT_plug _ _).1 h
 rw [List.nodup_append] at hn
 obtain ⟨n1, n2, n3⟩ := hn
 obtain ⟨rm, rc⟩ := root_mem hm
 have hfx : f.1 ≠ m.root.toNat := fun e => n3 _ rm f.1 (by simp [ctxN]) e.symm
 have hkid : ∀ s, (hangS S f.1 m.root f.2.1).kid s f.1 = if s = f.2.1 then m.root else S.kid s f.1 := fun s => by
  unfold hangS TS.setKid TS.setUp TS.kid
  cases s <;> cases f.2.1 <;> simp
 have hu : ∀ y, (hangS S f.1 m.root f.2.1).u y = if y = m.root.toNat then (f.1 : Int) else S.u y := fun y => by
  unfold hangS TS.setUp
  simp only [kid_u]
 have hl : ∀ y, y ≠ f.1 → (hangS S f.1 m.root f.2.1).l y = S.l y ∧ (hangS S f.1 m.root f.2.1).r y = S.r y := fun y hy => by
  unfold hangS TS.setKid TS.setUp; cases f.2.1 <;> simp [hy]
 have hat : ∀ y, y ≠ f.1 → y ≠ m.root.toNat → S.at (hangS S f.1 m.root f.2.1) y := fun y g1 g2 => ⟨(hl y g1).1, (hl y g1).2, by rw [hu, if_neg g2]⟩
 refine ⟨(isT_plug _ _).2 ⟨hM.hung n1 (fun y hy => ?_) (fun _ => by rw [hu, if_pos rfl]; rfl), h2.other n2 ?_ ?_ ?_ (fun y g1 g2 => hat y g1 (fun e => n3 _ rm y g2 e.symm))⟩, hat⟩
 ·have hyf : y ≠ f.1 := fun e => n3 y hy f.1 (by simp [ctxN]) e
  exact ⟨(hl y hyf).1, (hl y hyf).2, fun hr => by rw [hu, if_neg hr]⟩
 ·rw [hkid, if_pos rfl]
 ·rw [hkid, if_neg (by cases f.2.1 <;> simp)]
 ·rw [hu, if_neg hfx]
/-! ### heaps, ranks -/
theorem heap_plug1 {A : NS} {f : Fr} {t : BT} : Heap A (plug1 f t) ↔ (∀ y, y ∈ t.nodes → lt3 A f.1 y) ∧ (∀ y, y ∈ f.2.2.nodes → lt3 A f.1 y) ∧ Heap A t ∧ Heap A f.2.2 := by
 unfold plug1
 split
 ·simp only [Heap]; constructor
  ·rintro ⟨a, b, c, d⟩; exact ⟨b, a, d, c⟩
  ·rintro ⟨a, b, c, d⟩; exact ⟨b, a, d, c⟩
 ·simp only [Heap]
theorem heap_sub {A : NS} : ∀ {P : List Fr} {t : BT}, Heap A (plug P t) → Heap A t
 | [], _, h => h
 | f :: P, t, h => (heap_plug1.1 (heap_sub (P := P) h)).2.2.1
theorem heap_plug {A : NS} : ∀ {P : List Fr} {t t' : BT}, Heap A (plug P t) → Heap A t' → (∀ y, y ∈ t'.nodes → y ∈ t.nodes) → Heap A (plug P t')
 | [], _, _, _, h, _ => h
 | f :: P, t, t', h, h', hs => by
  have h1 := heap_plug1.1 (heap_sub (P := P) h)
  refine heap_plug (P := P) h (heap_plug1.2 ⟨fun y hy => h1.1 y (hs y hy), h1.2.1, h', h1.2.2.2⟩) (fun y hy => ?_)
  have hy' := (plug1_nodes f t').mem_iff.1 hy
  refine (plug1_nodes f t).mem_iff.2 ?_
  simp only [List.mem_cons, List.mem_append] at hy' ⊢
  rcases hy' with h | h | h
  ·exact Or.inl h
  ·exact Or.inr (Or.inl (hs y h))
  ·exact Or.inr (Or.inr h)
def upRank (f : Fr) (n : Nat) : Nat := (if f.2.1 then n else f.2.2.rank) + 1
theorem plug1_rank (f : Fr) (t : BT) : (plug1 f t).rank = upRank f t.rank := by unfold plug1 upRank; split <;> rfl
def RkP (rk : Nat → Nat) : List Fr → Nat → Prop
 | [], _ => True
 | f :: P, n => RkOk rk f.2.2 ∧ rk f.1 = upRank f n ∧ RkP rk P (upRank f n)
theorem rk_plug1 {rk : Nat → Nat} {f : Fr} {t : BT} : RkOk rk (plug1 f t) ↔ RkOk rk t ∧ RkOk rk f.2.2 ∧ rk f.1 = upRank f t.rank := by
 unfold plug1 upRank
 split
 ·simp only [RkOk]; constructor
  ·rintro ⟨a, b, c⟩; exact ⟨c, b, a⟩
  ·rintro ⟨a, b, c⟩; exact ⟨c, b, a⟩
 ·simp only [RkOk]; constructor
  ·rintro ⟨a, b, c⟩; exact ⟨b, c, a⟩
  ·rintro ⟨a, b, c⟩; exact ⟨c, a, b⟩
theorem rk_plug {rk : Nat → Nat} : ∀ (P : List Fr) (t : BT), RkOk rk (plug P t) ↔ RkOk rk t ∧ RkP rk P t.rank
 | [], t => by simp [plug, RkP]
 | f :: P, t => by
  show RkOk rk (plug P (plug1 f t)) ↔ _
  rw [rk_plug P, rk_plug1, plug1_rank]
  simp only [RkP]
  constructor
  ·rintro ⟨⟨a, b, c⟩, d⟩; exact ⟨a, b, c, d⟩
  ·rintro ⟨a, b, c, d⟩; exact ⟨⟨a, b, c⟩, d⟩
theorem RkP.frame {rk rk' : Nat → Nat} : ∀ {P : List Fr} {n : Nat}, RkP rk P n → (∀ y, y ∈ ctxN P → rk' y = rk y) → RkP rk' P n
 | [], _, _, _ => trivial
 | f :: P, n, h, hs => ⟨h.1.frame (fun y hy => hs y (by simp [ctxN, hy])), by rw [hs f.1 (by simp [ctxN])]; exact h.2.1, h.2.2.frame (fun y hy => hs y (by simp [ctxN, hy]))⟩
def LeanP : List Fr → Nat → Prop
 | [], _ => True
 | f :: P, n => Lean f.2.2 ∧ (if f.2.1 then n ≤ f.2.2.rank else f.2.2.rank ≤ n) ∧ LeanP P (upRank f n)
theorem lean_plug1 {f : Fr} {t : BT} : Lean (plug1 f t) ↔ Lean t ∧ Lean f.2.2 ∧ (if f.2.1 then t.rank ≤ f.2.2.rank else f.2.2.rank ≤ t.rank) := by
 unfold plug1
 split
 ·simp only [Lean]; constructor
  ·rintro ⟨a, b, c⟩; exact ⟨c, b, a⟩
  ·rintro ⟨a, b, c⟩; exact ⟨c, b, a⟩
 ·simp only [Lean]; constructor
  ·rintro ⟨a, b, c⟩; exact ⟨b, c, a⟩
  ·rintro ⟨a, b, c⟩; exact ⟨c, a, b⟩
theorem lean_plug : ∀ (P : List Fr) (t : BT), Lean (plug P t) ↔ Lean t ∧ LeanP P t.rank
 | [], t => by simp [plug, LeanP]
 | f :: P, t => by
  show Lean (plug P (plug1 f t)) ↔ _
  rw [lean_plug P, lean_plug1, plug1_rank]
  simp only [LeanP]
  constructor
  ·rintro ⟨⟨a, b, c⟩, d⟩; exact ⟨a, b, c, d⟩
  ·rintro ⟨a, b, c, d⟩; exact ⟨⟨a, b, c⟩, d⟩
def mendT : List Fr → Nat → Nat → BT → BT → BT
 | [], _, x, l, r => settleT x l r
 | f :: P, was, x, l, r =>
  if (settleT x l r).rank = was then plug (f :: P) (settleT x l r)
  else if f.2.1 then mendT P (upRank f was) f.1 f.2.2 (settleT x l r) else mendT P (upRank f was) f.1 (settleT x l r) f.2.2
theorem mend_nodes : ∀ (P : List Fr) (was x : Nat) (l r : BT), (mendT P was x l r).nodes.Perm (plug P (.node x l r)).nodes
 | [], was, x, l, r => settle_nodes x l r
 | f :: P, was, x, l, r => by
  have h0 : (plug1 f (settleT x l r)).nodes.Perm (plug1 f (.node x l r)).nodes :=
   (plug1_nodes f _).trans ((List.Perm.cons _ ((settle_nodes x l r).append_right _)).trans (plug1_nodes f (.node x l r)).symm)
  have h1 : (plug P (plug1 f (settleT x l r))).nodes.Perm (plug P (plug1 f (.node x l r))).nodes :=
   (plug_nodes P _).trans ((h0.append_right _).trans (plug_nodes P _).symm)
  unfold mendT
  split
  ·exact h1
  ·split
   ·rename_i hs
    have e : plug1 f (settleT x l r) = .node f.1 f.2.2 (settleT x l r) := by unfold plug1; rw [if_pos hs]
    rw [e] at h1
    exact (mend_nodes P _ _ _ _).trans h1
   ·rename_i hs
    have e : plug1 f (settleT x l r) = .node f.1 (settleT x l r) f.2.2 := by unfold plug1; rw [if_neg hs]
    rw [e] at h1
    exact (mend_nodes P _ _ _ _).trans h1
theorem mend_root : ∀ (P : List Fr) (was x : Nat) (l r : BT), (mendT P was x l r).root = (plug P (.node x l r)).root
 | [], was, x, l, r => settle_root x l r
 | f :: P, was, x, l, r => by
  have h1 := plug_rootc f P (settleT x l r) (.node x l r)
  unfold mendT
  split
  ·exact h1
  ·split
   ·rename_i hs
    have e : plug1 f (settleT x l r) = .node f.1 f.2.2 (settleT x l r) := by unfold plug1; rw [if_pos hs]
    unfold plug at h1
    rw [e] at h1
    exact (mend_root P _ _ _ _).trans h1
   ·rename_i hs
    have e : plug1 f (settleT x l r) = .node f.1 (settleT x l r) f.2.2 := by unfold plug1; rw [if_neg hs]
    unfold plug at h1
    rw [e] at h1
    exact (mend_root P _ _ _ _).trans h1
theorem mend_heap {A : NS} : ∀ (P : List Fr) (was x : Nat) (l r : BT), Heap A (plug P (.node x l r)) → Heap A (mendT P was x l r)
 | [], was, x, l, r, h => settle_heap h.1 h.2.1 h.2.2.1 h.2.2.2
 | f :: P, was, x, l, r, h => by
  have h0 := heap_sub h
  have h1 : Heap A (plug (f :: P) (settleT x l r)) := heap_plug h (settle_heap h0.1 h0.2.1 h0.2.2.1 h0.2.2.2) (fun y hy => (settle_nodes x l r).mem_iff.1 hy)
  unfold mendT
  split
  ·exact h1
  ·split
   ·rename_i hs
    have e : plug1 f (settleT x l r) = .node f.1 f.2.2 (settleT x l r) := by unfold plug1; rw [if_pos hs]
    unfold plug at h1
    rw [e] at h1
    exact mend_heap P _ _ _ _ h1
   ·rename_i hs
    have e : plug1 f (settleT x l r) = .node f.1 (settleT x l r) f.2.2 := by unfold plug1; rw [if_neg hs]
    unfold plug at h1
    rw [e] at h1
    exact mend_heap P _ _ _ _ h1
theorem mend_lean : ∀ (P : List Fr) (was x : Nat) (l r : BT), Lean l → Lean r → LeanP P was → Lean (mendT P was x l r)
 | [], was, x, l, r, hl, hr, _ => settle_lean hl hr
 | f :: P, was, x, l, r, hl, hr, h => by
  unfold mendT
  split
  ·rename_i e
   exact (lean_plug _ _).2 ⟨settle_lean hl hr, by rw [e]; exact h⟩
  ·split
   ·exact mend_lean P _ _ _ _ h.1 (settle_lean hl hr) h.2.2
   ·exact mend_lean P _ _ _ _ (settle_lean hl hr) h.1 h.2.2
end Go.Proofs.YtklibcncmbofpaaGreat
namespace Go.Proofs.YtklibcncmbofpaaGreat
open Go Go.RowKit
structure Mend (S0 : TS) (rk0 : Nat → Nat) (T : BT) (X : List Nat) (S : TS) (rk : Nat → Nat) (P : List Fr) (was x : Nat) (l r : BT) : Prop where
 isT : IsT S (-1) (plug P (.node x l r)).root (plug P (.node x l r))
 perm : (plug P (.node x l r)).nodes.Perm X
 rl : RkOk rk l
 rr : RkOk rk r
 rx : rk x = was
 rP : RkP rk P was
 far : ∀ y, y ∉ X → S0.at S y ∧ rk y = rk0 y
 res : mendT P was x l r = T
structure MendEnd (S0 : TS) (rk0 : Nat → Nat) (T : BT) (X : List Nat) (S : TS) (rk : Nat → Nat) : Prop where
 isT : IsT S (-1) T.root T
 isR : RkOk rk T
 far : ∀ y, y ∉ X → S0.at S y ∧ rk y = rk0 y
section
variable {S0 S S2 : TS} {rk0 rk rk2 : Nat → Nat} {T : BT} {X : List Nat} {P : List Fr} {was x : Nat} {l r : BT}
theorem Mend.parts (h : Mend S0 rk0 T X S rk P was x l r) (hX : X.Nodup) : x ∈ X ∧ (BT.node x l r).nodes.Nodup ∧ (∀ y, y ∈ (BT.node x l r).nodes → y ∈ X) ∧ (∀ y, y ∈ ctxN P → y ≠ x ∧ y ∈ X) ∧ (ctxN P).Nodup := by
 have hp := (plug_nodes P (.node x l r)).symm.trans h.perm
 have hn := hp.nodup_iff.2 hX
 rw [List.nodup_append] at hn
 refine ⟨hp.mem_iff.1 (by simp [BT.nodes]), hn.1, fun y hy => hp.mem_iff.1 (List.mem_append_left _ hy), fun y hy => ⟨fun e => hn.2.2 x (by simp [BT.nodes]) y hy e.symm, hp.mem_iff.1 (List.mem_append_right _ hy)⟩, hn.2.1⟩
theorem Mend.settled (h : Mend S0 rk0 T X S rk P was x l r) (hX : X.Nodup) (hT2 : IsT S2 (upP P) x (settleT x l r)) (hs : ∀ y, y ≠ x → S.at S2 y) (hk : ∀ y, y ≠ x → rk2 y = rk y) :
  IsT S2 (-1) (plug P (settleT x l r)).root (plug P (settleT x l r)) ∧ RkP rk2 P was ∧ (∀ y, y ∉ X → S0.at S2 y ∧ rk2 y = rk0 y) ∧ (plug P (settleT x l r)).nodes.Perm X := by
 obtain ⟨p1, p2, p3, p4, p5⟩ := h.parts hX
 refine ⟨(isT_plug _ _).2 ⟨by rw [settle_root]; exact hT2, ?_⟩, h.rP.frame (fun y hy => hk y (p4 y hy).1), fun y hy => ?_, ?_⟩
 ·have := ((isT_plug _ _).1 h.isT).2
  rw [settle_root]
  exact this.frame (fun y hy => hs y (p4 y hy).1)
 ·have hne : y ≠ x := fun e => hy (by rw [e]; exact p1)
  have a1 := h.far y hy
  have a2 := hs y hne
  exact ⟨⟨a2.1.trans a1.1.1, a2.2.1.trans a1.1.2.1, a2.2.2.trans a1.1.2.2⟩, (hk y hne).trans a1.2⟩
 ·exact (plug_nodes P _).trans (((settle_nodes x l r).append_right _).trans ((plug_nodes P (.node x l r)).symm.trans h.perm))
theorem Mend.stay (h : Mend S0 rk0 T X S rk P was x l r) (hX : X.Nodup) (hT2 : IsT S2 (upP P) x (settleT x l r)) (hr2 : RkOk rk2 (settleT x l r)) (hs : ∀ y, y ≠ x → S.at S2 y) (hk : ∀ y, y ≠ x → rk2 y = rk y)
  (e : (settleT x l r).rank = was) : MendEnd S0 rk0 T X S2 rk2 := by
 obtain ⟨a1, a2, a3, a4⟩ := h.settled hX hT2 hs hk
 have hT : T = plug P (settleT x l r) := by
  rw [← h.res]
  cases P with
  | nil => rfl
  | cons f P => unfold mendT; rw [if_pos e]
 rw [hT]
 exact ⟨a1, (rk_plug _ _).2 ⟨hr2, by rw [e]; exact a2⟩, a3⟩
theorem Mend.top (h : Mend S0 rk0 T X S rk [] was x l r) (hX : X.Nodup) (hT2 : IsT S2 (upP []) x (settleT x l r)) (hr2 : RkOk rk2 (settleT x l r)) (hs : ∀ y, y ≠ x → S.at S2 y) (hk : ∀ y, y ≠ x → rk2 y = rk y) :
  MendEnd S0 rk0 T X S2 rk2 := by
 obtain ⟨a1, a2, a3, a4⟩ := h.settled hX hT2 hs hk
 have hT : T = plug [] (settleT x l r) := by rw [← h.res]; rfl
 rw [hT]
 exact ⟨a1, hr2, a3⟩
theorem Mend.up {f : Fr} (h : Mend S0 rk0 T X S rk (f :: P) was x l r) (hX : X.Nodup) (hT2 : IsT S2 (upP (f :: P)) x (settleT x l r)) (hr2 : RkOk rk2 (settleT x l r)) (hs : ∀ y, y ≠ x → S.at S2 y) (hk : ∀ y, y ≠ x → rk2 y = rk y)
  (e : (settleT x l r).rank ≠ was) : ∃ l' r', Mend S0 rk0 T X S2 rk2 P (upRank f was) f.1 l' r' := by
 obtain ⟨a1, a2, a3, a4⟩ := h.settled hX hT2 hs hk
 have hres := h.res
 unfold mendT at hres
 rw [if_neg e] at hres
 unfold plug at a1 a4
 by_cases hsd : f.2.1 = true
 ·rw [if_pos hsd] at hres
  have e1 : plug1 f (settleT x l r) = .node f.1 f.2.2 (settleT x l r) := by unfold plug1; rw [if_pos hsd]
  rw [e1] at a1 a4
  exact ⟨_, _, a1, a4, a2.1, hr2, a2.2.1, a2.2.2, a3, hres⟩
 ·rw [if_neg hsd] at hres
  have e1 : plug1 f (settleT x l r) = .node f.1 (settleT x l r) f.2.2 := by unfold plug1; rw [if_neg hsd]
  rw [e1] at a1 a4
  exact ⟨_, _, a1, a4, hr2, a2.1, a2.2.1, a2.2.2, a3, hres⟩
end
theorem ctx_fst : ∀ {P : List Fr}, (ctxN P).Nodup → (P.map (·.1)).Nodup ∧ ∀ y, y ∈ P.map (·.1) → y ∈ ctxN P
 | [], _ => ⟨List.nodup_nil, fun y hy => by cases hy⟩
 | f :: P, h => by
  simp only [ctxN, List.nodup_cons, List.mem_append, not_or, List.nodup_append] at h
  obtain ⟨h1, h2⟩ := ctx_fst (P := P) h.2.2.1
  refine ⟨List.nodup_cons.2 ⟨fun hm => h.1.2 (h2 _ hm), h1⟩, fun y hy => ?_⟩
  simp only [List.map_cons, List.mem_cons] at hy
  rcases hy with rfl | hy
  ·simp [ctxN]
  ·simp [ctxN, h2 y hy]
theorem idx_at {L done rest : List Nat} {x : Nat} (hL : L.Nodup) (e : L = done ++ x :: rest) : L.idxOf x = done.length ∧ done.length < L.length := by
 subst e
 have hx : x ∉ done := fun hm => by
  rw [List.nodup_append] at hL
  exact hL.2.2 x hm x (by simp) rfl
 refine ⟨by rw [List.idxOf_append, if_neg hx]; simp, by simp⟩
section
variable {w : World} {B : LB} {F : List Nat} {gt ct : Nat} {A : NS} {st : Nat} {S : TS} {rk : Nat → Nat} {tops : List Int}
set_option maxHeartbeats 8000000 in
theorem lmend_any (h : LfM w B F gt ct A st S rk tops) {P : List Fr} {was x : Nat} {l r : BT} (hM : Mend S rk (mendT P was x l r) (plug P (.node x l r)).nodes S rk P was x l r) (hX : (plug P (.node x l r)).nodes.Nodup)
  (hlt : ∀ y, y ∈ (plug P (.node x l r)).nodes → y < A.cs.length) :
  Calls Tryz.prog 245 #[.pointer (some ⟨B.n0, 0, none⟩), .int .i64 (x : Int)] w fun e w' => e = .returned (.tuple #[]) ∧ Upd [B.ba, B.br] w w' ∧
   ∃ S' rk', LfM w' B F gt ct A st S' rk' tops ∧ MendEnd S rk (mendT P was x l r) (plug P (.node x l r)).nodes S' rk' := by
 generalize hT : mendT P was x l r = T at *
 generalize hXX : (plug P (.node x l r)).nodes = X at *
 have hL : (x :: P.map (·.1)).Nodup := by
  obtain ⟨p1, p2, p3, p4, p5⟩ := hM.parts hX
  obtain ⟨q1, q2⟩ := ctx_fst p5
  exact List.nodup_cons.2 ⟨fun hm => (p4 x (q2 x hm)).1 rfl, q1⟩
 generalize hLL : x :: P.map (·.1) = L at *
 have hblk := h.lt
 have hcF := h.cF
 have hs := Lib.hid h.sep
 have hA := h.cells.ok.c1
 have HM0 := Lib.hid h
 have MM := Lib.hid hM
 have HX := Lib.hid hX
 have HL := Lib.hid hL
 have HLL := Lib.hid hLL
 have HLT := Lib.hid hlt
 clear h hM hX hL hlt hT hXX hblk hLL
 go_enter Tryz.func245, Tryz.ntmps245
 go_wp2
 go_loopw [1] (fun a wr => ∃ (S1 : TS) (rk1 : Nat → Nat), LfM wr B F gt ct A st S1 rk1 tops ∧ Upd [B.ba, B.br] w wr ∧ ((∃ (P1 : List Fr) (was1 x1 : Nat) (l1 r1 : BT) (dn : List Nat), a = .int .i64 (x1 : Int) ∧ L = dn ++ x1 :: P1.map (·.1) ∧ Mend S rk T X S1 rk1 P1 was1 x1 l1 r1) ∨ (a = .int .i64 (-1) ∧ MendEnd S rk T X S1 rk1))) (fun a _ => if intOf a = -1 then 0 else L.length - L.idxOf (intOf a).toNat)
 case atStart => exact ⟨S, rk, HM0.out, Upd.refl _ _, Or.inl ⟨P, was, x, l, r, [], rfl, HLL.out.symm, MM.out⟩⟩
 case round =>
  obtain ⟨S1, rk1, hM, hu, hor⟩ := hrel
  rename World => w5
  rcases hor with ⟨P1, was1, x1, l1, r1, dn, rfl, hLe, hMe⟩ | ⟨rfl, hE⟩
  ·have hxb : ((x1 : Int) != -1) = true := by simp
   obtain ⟨p1, p2, p3, p4, p5⟩ := hMe.parts HX.out
   have hx1 := HLT.out x1 p1
   have h0 := hM.h0
   have h2 := hM.h2
   have d0 := hM.ranks.cell x1 hx1
   have ex := hMe.rx
   rw [ex] at d0
   have hT1 := ((isT_plug _ _).1 hMe.isT).1
   have ks := lsettle_tree hM (p := upP P1) hT1 hMe.rl hMe.rr p2 (fun y hy => HLT.out y (p3 y hy))
   have ME := Lib.hid hMe
   have HLe := Lib.hid hLe
   have hu1 : S1.u x1 = upP P1 := hT1.2.1
   have HPU := Lib.hid hu1
   clear hMe p1 p2 p3 p4 p5 hT1 hM ex hLe hu1
   go_wp2_with fail
   refine ks.mono ?_
   rintro e w7 ⟨rfl, hu7, S3, rk3, hM7, hT7, hr7, hs7, hsu, hk7⟩
   have e7 : rk3 x1 = (settleT x1 l1 r1).rank := by
    have := hr7.root (by unfold settleT; split <;> simp)
    rw [settle_root] at this
    simpa using this
   have g2 := hM7.h2
   have g1 := hM7.h1
   have d7 := hM7.ranks.cell x1 hx1
   rw [e7] at d7
   have hsu2 : S3.u x1 = upP P1 := hsu.trans HPU.out
   have ku := up_any B.bt B.ba A.cs.length S3 (x1 : Int) w7 hM7.trees
   rw [show upOf A.cs.length S3 (x1 : Int) = upP P1 by unfold upOf; rw [if_pos (by omega)]; simpa using hsu2] at ku
   have HM7 := Lib.hid hM7
   have HQ7 := Lib.hid (And.intro hT7 (And.intro hr7 (And.intro hs7 hk7)))
   have HU7 := Lib.hid (hu.trans hu7)
   have hrk : ∃ k3, (settleT x1 l1 r1).rank = k3 := ⟨_, rfl⟩
   obtain ⟨k3, hrk⟩ := hrk
   rw [hrk] at d7
   have HRK := Lib.hid hrk
   clear hM7 hT7 hr7 hs7 hk7 hu hu7 hsu hsu2 e7 ks h0 h2 d0 hrk HPU
   by_cases he : k3 = was1
   ·have hb : ((k3 : Int) == (was1 : Int)) = true := by rw [he]; simp
    go_wp2
    exact bodyPost_ret (v := .tuple #[]) (by simp [results, Tryz.results245, go_sem]) rfl ⟨rfl, HU7.out, S3, rk3, HM7.out, ME.out.stay HX.out HQ7.out.1 HQ7.out.2.1 HQ7.out.2.2.1 HQ7.out.2.2.2 (HRK.out.trans he)⟩
   ·have hb : ((k3 : Int) == (was1 : Int)) = false := by simp; omega
    have HNE := Lib.hid (show (settleT x1 l1 r1).rank ≠ was1 from fun e => he (HRK.out.symm.trans e))
    generalize hz : upP P1 = z at *
    clear he
    go_wp2_with (first
     | (go_at_call 250; (with_reducible refine (ku).mono ?_); rintro e w8 ⟨rfl, kk, rfl⟩)
     | (go_at_call 247; (with_reducible refine (lkid_any _ _).mono ?_); rintro e w9 ⟨rfl, hw9⟩; rw [hw9]; clear hw9 w9)
     | fail)
    cases P1 with
    | nil =>
     subst hz
     refine ⟨⟨S3, rk3, HM7.out.upd0 ((Upd.refl _ _).drewN kk), HU7.out.drewN kk, Or.inr ⟨rfl, ME.out.top HX.out HQ7.out.1 HQ7.out.2.1 HQ7.out.2.2.1 HQ7.out.2.2.2⟩⟩, ?_⟩
     have hi := idx_at HL.out HLe.out
     show (if ((-1 : Int)) = -1 then 0 else _) < (if ((x1 : Int)) = -1 then 0 else L.length - L.idxOf ((x1 : Int)).toNat)
     rw [if_pos rfl, if_neg (by omega), Int.toNat_natCast, hi.1]
     omega
    | cons f P2 =>
     subst hz
     obtain ⟨l2, r2, hM2⟩ := ME.out.up HX.out HQ7.out.1 HQ7.out.2.1 HQ7.out.2.2.1 HQ7.out.2.2.2 HNE.out
     refine ⟨⟨S3, rk3, HM7.out.upd0 ((Upd.refl _ _).drewN kk), HU7.out.drewN kk, Or.inl ⟨P2, _, f.1, l2, r2, dn ++ [x1], rfl, by rw [HLe.out]; simp, hM2⟩⟩, ?_⟩
     have hi := idx_at HL.out HLe.out
     have hi2 := idx_at (done := dn ++ [x1]) (x := f.1) (rest := P2.map (·.1)) HL.out (by rw [HLe.out]; simp)
     show (if ((f.1 : Int)) = -1 then 0 else L.length - L.idxOf ((f.1 : Int)).toNat) < (if ((x1 : Int)) = -1 then 0 else L.length - L.idxOf ((x1 : Int)).toNat)
     rw [if_neg (by omega), if_neg (by omega), Int.toNat_natCast, Int.toNat_natCast, hi.1, hi2.1]
     rw [List.length_append, List.length_singleton] at hi2 ⊢
     omega
  ·go_wp2
   (first | go_end0 | go_ret)
   exact ⟨rfl, hu, S1, rk1, hM, hE⟩
end
end Go.Proofs.YtklibcncmbofpaaGreat
namespace Go.Proofs.YtklibcncmbofpaaGreat
theorem Heap.frame {A A' : NS} : ∀ {t : BT}, Heap A t → (∀ x, x ∈ t.nodes → A'.c x = A.c x) → Heap A' t
 | .nil, _, _ => trivial
 | .node x l r, h, hs => by
  have hx := hs x (by simp [BT.nodes])
  refine ⟨fun y hy => (lt3_same hx (hs y (by simp [BT.nodes, hy]))).2 (h.1 y hy), fun y hy => (lt3_same hx (hs y (by simp [BT.nodes, hy]))).2 (h.2.1 y hy), h.2.2.1.frame (fun y hy => hs y (by simp [BT.nodes, hy])), h.2.2.2.frame (fun y hy => hs y (by simp [BT.nodes, hy]))⟩
structure HpK where
 H : NS → BT → Prop
 frame : ∀ {A A' : NS} {t : BT}, H A t → (∀ x, x ∈ t.nodes → A'.c x = A.c x) → H A' t
 nil : ∀ A, H A .nil
abbrev heapK : HpK := ⟨Heap, Heap.frame, fun _ => trivial⟩
structure TrG (K : HpK) (A : NS) (S : TS) (tops : List Int) (tr : Nat → BT) : Prop where
 top : ∀ h, h < A.hs.length → tops.getD h 0 = (tr h).root
 isT : ∀ h, IsT S (-1) (tr h).root (tr h)
 mem : ∀ h x, x ∈ (tr h).nodes ↔ 0 < h ∧ x < A.cs.length ∧ (A.c x).i = h
 nd : ∀ h, (tr h).nodes.Nodup
 heap : ∀ h, K.H A (tr h)
 free : ∀ x, x < A.cs.length → (A.c x).i = 0 → S.l x = -1 ∧ S.r x = -1 ∧ S.u x = -1
abbrev TrI := TrG heapK
theorem TrG.next {K : HpK} {A A' : NS} {S S' : TS} {tops tops' : List Int} {tr tr' : Nat → BT} (h : TrG K A S tops tr) (hc : A'.cs.length = A.cs.length) (keep : Nat → Prop)
  (k1 : ∀ g, keep g → tr' g = tr g ∧ ∀ x, x ∈ (tr g).nodes → S.at S' x ∧ A'.c x = A.c x)
  (k2 : ∀ g, keep g → ∀ x, x < A.cs.length → 0 < g → ((A'.c x).i = g ↔ (A.c x).i = g))
  (n1 : ∀ g, ¬ keep g → IsT S' (-1) (tr' g).root (tr' g) ∧ (tr' g).nodes.Nodup ∧ K.H A' (tr' g) ∧ ∀ x, x ∈ (tr' g).nodes ↔ 0 < g ∧ x < A.cs.length ∧ (A'.c x).i = g)
  (tp : ∀ g, g < A'.hs.length → tops'.getD g 0 = (tr' g).root)
  (fr : ∀ x, x < A.cs.length → (A'.c x).i = 0 → S'.l x = -1 ∧ S'.r x = -1 ∧ S'.u x = -1) : TrG K A' S' tops' tr' := by
 refine ⟨tp, fun g => ?_, fun g x => ?_, fun g => ?_, fun g => ?_, fun x hx => fr x (by omega)⟩
 ·by_cases hk : keep g
  ·obtain ⟨e, hs⟩ := k1 g hk
   rw [e]; exact (h.isT g).frame (fun y hy => (hs y hy).1)
  ·exact (n1 g hk).1
 ·rw [hc]
  by_cases hk : keep g
  ·rw [(k1 g hk).1, h.mem g x]
   constructor
   ·rintro ⟨a, b, c⟩; exact ⟨a, b, (k2 g hk x b a).2 c⟩
   ·rintro ⟨a, b, c⟩; exact ⟨a, b, (k2 g hk x b a).1 c⟩
  ·exact (n1 g hk).2.2.2 x
 ·by_cases hk : keep g
  ·rw [(k1 g hk).1]; exact h.nd g
  ·exact (n1 g hk).2.1
 ·by_cases hk : keep g
  ·obtain ⟨e, hs⟩ := k1 g hk
   rw [e]; exact K.frame (h.heap g) (fun y hy => (hs y hy).2)
  ·exact (n1 g hk).2.2.1
def single (x : Nat) : BT := .node x .nil .nil
theorem single_isT {S : TS} {x : Nat} (h : S.l x = -1 ∧ S.r x = -1 ∧ S.u x = -1) : IsT S (-1) (single x).root (single x) := ⟨rfl, h.2.2, h.1, h.2.1⟩
theorem TrG.out {K : HpK} {A : NS} {S : TS} {tops : List Int} {tr : Nat → BT} (h : TrG K A S tops tr) {x g : Nat} (hx : (A.c x).i = 0) : x ∉ (tr g).nodes := fun hm => by
 have := (h.mem g x).1 hm
 omega
theorem TrG.put {K : HpK} {A : NS} {S S' : TS} {tops : List Int} {tr : Nat → BT} (h : TrG K A S tops tr) (ok : A.Ok) (hn : tops.length = A.hs.length) {g x : Nat} {k s : Int} (hB : putB A g x = true) {t' : BT}
  (hT : IsT S' (-1) t'.root t') (hp : t'.nodes.Perm ((tr g).nodes ++ [x])) (hH : K.H (putN A g x k s) t') (hs : ∀ y, y ∉ (tr g).nodes ++ [x] → S.at S' y) :
  TrG K (putN A g x k s) S' (tops.set g t'.root) (fun q => if q = g then t' else tr q) := by
 obtain ⟨b1, b2, b3⟩ := (putB_iff _ _ _).1 hB
 have b4 := (hasN_iff _ _).1 b1
 have hx : x < A.cs.length := by have := (slotN_iff _ _).1 b2; omega
 have h0 : (A.c x).i = 0 := by
  have := (ok.nat x hx).1
  have h3 : ¬ (0 < (A.c x).i) := fun h' => by rw [(inN_nat A x).2 ⟨hx, h'⟩] at b3; cases b3
  omega
 have hc : ∀ y, (putN A g x k s).c y = if y = x then ⟨g, k, s⟩ else A.c y := fun y => by
  unfold putN; rw [if_pos hB, Int.toNat_natCast, c_with]
  by_cases e : y = x
  ·rw [if_pos ⟨e, hx⟩, if_pos e]
  ·rw [if_neg (fun h => e h.1), if_neg e]
 have hl : (putN A g x k s).cs.length = A.cs.length := by unfold putN; rw [if_pos hB, len_with]
 have hh : (putN A g x k s).hs = A.hs := by unfold putN; rw [if_pos hB]; rfl
 have hgn : g < A.hs.length := by omega
 refine h.next hl (fun q => q ≠ g) (fun q hq => ⟨if_neg hq, fun y hy => ?_⟩) (fun q hq y hy hq0 => ?_) (fun q hq => ?_) (fun q hq => ?_) (fun y hy hy0 => ?_)
 ·have hyx : y ≠ x := fun e => h.out (g := q) h0 (by rw [← e]; exact hy)
  have hyg : y ∉ (tr g).nodes := fun hm => by
   have a1 := (h.mem g y).1 hm
   have a2 := (h.mem q y).1 hy
   omega
  exact ⟨hs y (by simp [hyx, hyg]), by rw [hc, if_neg hyx]⟩
 ·rw [hc]
  by_cases e : y = x
  ·rw [if_pos e, e]; simp only; omega
  ·rw [if_neg e]
 ·have hq' : q = g := Classical.not_not.1 hq
  subst hq'
  rw [if_pos rfl]
  refine ⟨hT, hp.nodup_iff.2 ?_, hH, fun y => ?_⟩
  ·rw [List.nodup_append]
   refine ⟨h.nd q, by simp, fun a ha b hb e => ?_⟩
   simp only [List.mem_singleton] at hb
   exact h.out (g := q) h0 (by rw [← hb, ← e]; exact ha)
  ·rw [hp.mem_iff, List.mem_append, List.mem_singleton, h.mem q y, hc]
   by_cases e : y = x
   ·rw [if_pos e]
    simp only [e, or_true, true_iff]
    exact ⟨by omega, hx, trivial⟩
   ·rw [if_neg e]
    simp only [e, or_false]
 ·rw [hh] at hq
  by_cases e : q = g
  ·rw [if_pos e, e, List.getD_eq_getElem?_getD, List.getElem?_set, if_pos rfl, if_pos (by omega)]; rfl
  ·rw [if_neg e, List.getD_eq_getElem?_getD, List.getElem?_set, if_neg (fun h => e h.symm), ← List.getD_eq_getElem?_getD]; exact h.top q hq
 ·rw [hc] at hy0
  by_cases e : y = x
  ·rw [if_pos e] at hy0; simp only at hy0; omega
  ·rw [if_neg e] at hy0
   have hyn : y ∉ (tr g).nodes ++ [x] := by
    simp only [List.mem_append, List.mem_singleton, e, or_false]
    exact h.out hy0
   have a1 := h.free y hy hy0
   have a2 := hs y hyn
   exact ⟨a2.1.trans a1.1, a2.2.1.trans a1.2.1, a2.2.2.trans a1.2.2⟩
theorem trI_new {K : HpK} (n : Nat) : TrG K (NS.new n) TS.none [-1] (fun _ => BT.nil) := by
 refine ⟨fun h hh => ?_, fun h => rfl, fun h x => ?_, fun h => List.nodup_nil, fun h => K.nil _, fun x hx _ => ⟨rfl, rfl, rfl⟩⟩
 ·have : h = 0 := by simp [NS.new] at hh; exact hh
  subst this; rfl
 ·rw [NS.new_c]
  simp only [BT.nodes, List.not_mem_nil, false_iff, Cl.z]
  omega
theorem TrG.make {K : HpK} {A : NS} {S : TS} {tops : List Int} {tr : Nat → BT} (h : TrG K A S tops tr) (ok : A.Ok) (hn : tops.length = A.hs.length) (hl : ¬ 65536 < A.hs.length)   : TrG K (makeN A) S (tops ++ [-1]) tr := by
 have hc : (makeN A).cs = A.cs := by unfold makeN; rw [if_neg hl]
 have hh : (makeN A).hs = A.hs ++ [true] := by unfold makeN; rw [if_neg hl]
 have hcc : ∀ x, (makeN A).c x = A.c x := fun x => by unfold NS.c; rw [hc]
 refine h.next (by rw [hc]) (fun _ => True) (fun g _ => ⟨rfl, fun x _ => ⟨⟨rfl, rfl, rfl⟩, hcc x⟩⟩) (fun g _ x _ _ => by rw [hcc]) (fun g hg => absurd trivial hg) (fun g hg => ?_) (fun x hx h0 => h.free x hx (by rw [hcc] at h0; exact h0))
 rw [hh, List.length_append, List.length_singleton] at hg
 by_cases e : g < A.hs.length
 ·rw [List.getD_eq_getElem?_getD, List.getElem?_append_left (by omega), ← List.getD_eq_getElem?_getD]; exact h.top g e
 ·have e2 : g = tops.length := by omega
  have hnil : tr g = .nil := by
   cases ht : tr g with
   | nil => rfl
   | node x l r =>
    have hm := (h.mem g x).1 (by rw [ht]; simp [BT.nodes])
    have := (ok.nat x hm.2.1).2
    omega
  rw [List.getD_eq_getElem?_getD, e2, List.getElem?_append_right (Nat.le_refl _)]
  rw [← e2, hnil]
  simp [BT.root]
end Go.Proofs.YtklibcncmbofpaaGreat
