/-
  Fibonacci heaps: root, under, raise. Conditions: those of each lemma.
-/
import Derived.Test.YtighgbdijagolaaFb
import Derived.Deep.RegionHeldLaw
import Derived.Deep.RegionLaw
set_option linter.unusedVariables false
set_option linter.unusedSimpArgs false
namespace Go.Proofs.Ytighgbdijagolaa
open Go Go.RowKit

section
variable {w : World} {B : FB} {F : List Nat} {gt ct : Nat} {A : NS} {st : Nat} {G : FG}
theorem topsL_same (R : Nat → List Nat) (m h : Nat) (l : List Nat) (e : hdI l = hdI (R h)) : topsL (putF R h l) m = topsL R m := by
  unfold topsL putF
  refine List.map_congr_left (fun i _ => ?_)
  by_cases hi : i = h
  · rw [if_pos hi, e, hi]
  · rw [if_neg hi]
/-- A heap's first slot is as before, what follows it is not. -/
theorem FbM.setT0 (h : FbM w B F gt ct A st G) (q : Nat) (l : List Nat) (e : hdI l = hdI (G.R q)) : FbM w B F gt ct A st { G with R := putF G.R q l } :=
  ⟨h.head, h.cells, h.rings, h.pl, by rw [topsL_same G.R _ q l e]; exact h.tops, h.d1, h.d2, h.d3⟩
set_option maxHeartbeats 2000000 in
theorem froot_any (M : FbM w B F gt ct A st G) {q x : Nat} (r : List Nat) (hq : q < A.hs.length) (hx : inN A (x : Int) = true) (ht : ∀ t s, G.R q = t :: s → inN A (t : Int) = true) :
    Calls Try.prog 82 #[.pointer (some ⟨B.n0, 0, none⟩), .int .i64 (q : Int), .int .i64 (x : Int)] w fun e w' => e = .returned (.tuple #[]) ∧
      FbM w' B F gt ct A (satS st (rootQ q G)) (rootG (fun a b => decide (lt3 A a b)) q (x :: r) G) ∧ Upd [B.c, B.bn, B.bp, gt] w w' := by
  have hst := M.cells.st62
  have h3 := M.h3
  have ht0 := M.top hq
  have hf0 := M.tops.free q
  have hcap := M.cap
  have hqI : (q : Int) < (A.hs.length : Int) := by omega
  have hqb : q < 65537 := by have := M.cells.ok.h1; omega
  have hlb := M.cells.ok.h1
  cases hR : G.R q with
  | nil =>
    rw [hR] at ht0
    have eq : rootQ q G = 0 := by unfold rootQ; rw [if_pos hR]
    have eg : rootG (fun a b => decide (lt3 A a b)) q (x :: r) G = { G with R := putF G.R q (x :: r) } := by unfold rootG; rw [hR]
    rw [eq, eg, satS_zero hst]
    have HM := Lib.hid (M.setT q (x :: r))
    have hgl := M.lt gt (by simp [FB.blk])
    clear M hR eq eg hx ht
    unfold hdI at ht0
    generalize hhl : A.hs.length = hl at *
    go_enter Try.func82, Try.ntmps82
    go_wp2
    refine bodyPost_ret (v := .tuple #[]) (by simp [results, Try.results82, go_sem]) rfl ?_
    exact ⟨rfl, HM.out, (Upd.refl _ _).setCell (Or.inl (by simp)) _⟩
  | cons t s =>
    have htt := ht t s hR
    obtain ⟨hx1, hx2⟩ := (inN_nat _ _).1 hx
    obtain ⟨ht1, ht2⟩ := (inN_nat _ _).1 htt
    rw [hR] at ht0
    have eq : rootQ q G = 1 := by unfold rootQ; rw [if_neg (by rw [hR]; simp)]
    have eg : rootG (fun a b => decide (lt3 A a b)) q (x :: r) G = { spl G t x with R := putF G.R q (rootL (decide (lt3 A x t)) (t :: s) (x :: r)) } := by unfold rootG; rw [hR]
    rw [eq, eg]
    have ks := fun W (hW : Upd [] w W) => rsplice_any (M.rings.upd0 hW) ht1 hx1
    obtain ⟨g1, g2, g3, g4, g5, g6, g7⟩ := M.d3
    obtain ⟨e1, e2, e3, e4, e5⟩ := M.d2
    have m : ∀ x, x ≠ B.bn → x ≠ B.bp → x ∉ [B.bn, B.bp] := fun x h1 h2 => by simp [h1, h2]
    have r1 : ∀ W, Upd [B.bn, B.bp] w W → W.cell? ⟨B.n0, 1, none⟩ = some (.pointer (some ⟨B.br, 0, none⟩)) := fun W hW => hW.kept M.h1 (m _ e2 e3)
    have r3 : ∀ W, Upd [B.bn, B.bp] w W → W.cell? ⟨B.n0, 3, none⟩ = some (.slice (some ⟨gt, 0, none⟩) A.hs.length ct) := fun W hW => hW.kept M.h3 (m _ e2 e3)
    have rt : ∀ W, Upd [B.bn, B.bp] w W → W.cell? ⟨gt, q, none⟩ = some (.int .i64 (t : Int)) := fun W hW => hW.kept ht0 (m _ g6 g7)
    have ht0' : w.cell? ⟨gt, q, none⟩ = some (.int .i64 (t : Int)) := ht0
    have htn : ((t : Int) == -1) = false := by simp
    have HM := Lib.hid M
    have HR := Lib.hid hR
    clear M hR eq eg ht ht0
    generalize hhl : A.hs.length = hl at *
    go_enter Try.func82, Try.ntmps82
    go_wp2
    go_region_held3 (Upd [B.bn, B.bp] w) (repeat (first | assumption | exact Upd.refl _ _ | refine Upd.drew ?_ | refine Upd.alloc ?_ _ | refine Upd.setCell ?_ ?_ _ | focus (left; simp; done) | focus (right; simp; done) | focus (right; simp; omega) | (apply Upd.trans; rotate_left; assumption)))
      (first
        | ((go_at_call 103; (with_reducible refine (ks _ (by (repeat (first | assumption | exact Upd.refl _ _ | refine Upd.alloc ?_ _ | refine Upd.drew ?_ | refine Upd.drewN ?_ _ | refine Upd.setCell ?_ ?_ _ | focus (left; simp; done) | focus (right; simp; done) | focus (right; simp; omega))))).mono ?_)); rintro e w1 ⟨rfl, hR1, hu1⟩; (have hu2 : Upd [B.bn, B.bp] w w1 := Upd.trans (by (repeat (first | assumption | exact Upd.refl _ _ | refine Upd.drew ?_ | refine Upd.alloc ?_ _ | refine Upd.setCell ?_ ?_ _ | focus (left; simp; done) | focus (right; simp; done) | focus (right; simp; omega) | (apply Upd.trans; rotate_left; assumption)))) hu1)))
    have hM1 := HM.out.setR hu2 hR1
    have kc := fun W (hW : Upd [] w1 W) => cahead_yes (hM1.cells.upd0 hW) x t hx htt
    have c1 := hM1.cn
    have mc : ∀ x, x ≠ B.c → x ∉ [B.c] := fun x h1 => by simp [h1]
    have r0 : ∀ W, Upd [B.c] w1 W → W.cell? ⟨B.n0, 0, none⟩ = some (.pointer (some ⟨B.c, 0, none⟩)) := fun W hW => hW.kept hM1.h0 (mc _ c1.1)
    have r3' : ∀ W, Upd [B.c] w1 W → W.cell? ⟨B.n0, 3, none⟩ = some (.slice (some ⟨gt, 0, none⟩) hl ct) := fun W hW => by rw [← hhl]; exact hW.kept hM1.h3 (mc _ c1.1)
    have rt' : ∀ W, Upd [B.c] w1 W → W.cell? ⟨gt, q, none⟩ = some (.int .i64 (t : Int)) := fun W hW => hW.kept (rt _ hu2) (mc _ c1.2.2.2.2.2)
    have rf' : ∀ W, Upd [B.c] w1 W → W.frozen? ⟨gt, q, none⟩ = false := fun W hW => hW.keptF (rt _ hu2) (mc _ c1.2.2.2.2.2) (hu2.keptF ht0' (m _ g6 g7) hf0)
    have HM1 := Lib.hid (And.intro hM1 hu2)
    clear hM1 ks r1 r3 rt ht0' hu2 hR1 hu1 HM hf0
    obtain ⟨b, hb⟩ : ∃ b, decide (lt3 A x t) = b := ⟨_, rfl⟩
    rw [hb] at kc
    have HBB := Lib.hid hb
    clear hb
    go_wp2
    go_region_held3 (Upd [B.c] w1) (repeat (first | assumption | exact Upd.refl _ _ | refine Upd.drew ?_ | refine Upd.alloc ?_ _ | refine Upd.setCell ?_ ?_ _ | focus (left; simp; done) | focus (right; simp; done) | focus (right; simp; omega) | (apply Upd.trans; rotate_left; assumption)))
      (first
        | ((go_at_call 104; (with_reducible refine (kc _ (by (repeat (first | assumption | exact Upd.refl _ _ | refine Upd.alloc ?_ _ | refine Upd.drew ?_ | refine Upd.drewN ?_ _ | refine Upd.setCell ?_ ?_ _ | focus (left; simp; done) | focus (right; simp; done) | focus (right; simp; omega))))).mono ?_)); rintro e w2 ⟨rfl, hC2, hu3⟩; (have hu4 : Upd [B.c] w1 w2 := Upd.trans (by (repeat (first | assumption | exact Upd.refl _ _ | refine Upd.drew ?_ | refine Upd.alloc ?_ _ | refine Upd.setCell ?_ ?_ _ | focus (left; simp; done) | focus (right; simp; done) | focus (right; simp; omega) | (apply Upd.trans; rotate_left; assumption)))) hu3)))
    have d0 := r0 _ hu4
    have d3 := r3' _ hu4
    have dt := rt' _ hu4
    have df := rf' _ hu4
    have hM2 := HM1.out.1.setSt hu4 hC2
    have hU : Upd [B.c, B.bn, B.bp, gt] w w2 := (HM1.out.2.mono (by simp)).trans (hu4.mono (by simp))
    cases b with
    | false =>
      have HF := Lib.hid (And.intro hM2 hU)
      clear hM2 hU r0 r3' rt' rf' kc hu4 hC2 hu3
      go_wp2
      go_end0
      rw [HBB.out]
      exact ⟨rfl, HF.out.1.setT0 q (t :: r ++ x :: s) (by rw [show ({ G with nx := swapN G.nx t x, pv := swapP G.nx G.pv t x } : FG).R q = t :: s from HR.out]; rfl), HF.out.2⟩
    | true =>
      have HF := Lib.hid (And.intro hM2 hU)
      clear hM2 hU r0 r3' rt' rf' kc hu4 hC2 hu3
      go_wp2
      go_end0
      rw [HBB.out]
      exact ⟨rfl, HF.out.1.setT q (x :: s ++ t :: r), HF.out.2.setCell (Or.inl (by simp)) _⟩
theorem FbM.under (M : FbM w B F gt ct A st G) (x y : Nat) (l : List Nat) (v d : Int) (hv : v = hdI l) (hd : d = (l.length : Int)) :
    FbM ((((w.setCell ⟨B.bl, x * 4 + 1, none⟩ (.int .i64 v)).setCell ⟨B.bl, x * 4 + 2, none⟩ (.int .i64 d)).setCell ⟨B.bl, y * 4, none⟩ (.int .i64 (x : Int))).setCell ⟨B.bl, y * 4 + 3, none⟩ (.bool false)) B F gt ct A st { G with up := putF G.up y x, mr := putF G.mr y false, K := putF G.K x l } := by
  refine M.setP (by (repeat (first | assumption | exact Upd.refl _ _ | refine Upd.drew ?_ | refine Upd.alloc ?_ _ | refine Upd.setCell ?_ ?_ _ | focus (left; simp; done) | focus (right; simp; done) | focus (right; simp; omega) | (apply Upd.trans; rotate_left; assumption)))) ?_
  unfold plCell
  simp only [hd_put, len_put, ← hv, ← hd]
  exact row_set3 (row_set0 (row_set2 (row_set1 M.pl x v) x d) y x) y false
set_option maxHeartbeats 2000000 in
theorem funder_any (M : FbM w B F gt ct A st G) {x y : Nat} (hx : x < A.cs.length) (hy : y < A.cs.length) (hk : ∀ k t, G.K x = k :: t → k < A.cs.length) (hl : (G.K x).length ≤ 65536) :
    Calls Try.prog 105 #[.pointer (some ⟨B.n0, 0, none⟩), .int .i64 (y : Int), .int .i64 (x : Int)] w fun e w' => e = .returned (.tuple #[]) ∧
      FbM w' B F gt ct A st (underG G y x) ∧ Upd [B.bn, B.bp, B.bl] w w' := by
  have hc1 := M.cells.ok.c1
  have h2 := M.h2
  have hxI : (x : Int) < (A.cs.length : Int) := by omega
  have hyI : (y : Int) < (A.cs.length : Int) := by omega
  have px1 := M.p1 hx
  have px2 := M.p2 hx
  have py0 := M.p0 hy
  have py3 := M.p3 hy
  have fx1 := M.pl.free (x * 4 + 1)
  have fx2 := M.pl.free (x * 4 + 2)
  have fy0 := M.pl.free (y * 4)
  have fy3 := M.pl.free (y * 4 + 3)
  have hw1 : IntKind.i64.wrap (((G.K x).length : Int) + 1) = ((G.K x).length : Int) + 1 := IntWalk.i64_in _ (by omega)
  cases hK : G.K x with
  | nil =>
    rw [hK] at px1 px2 hw1
    unfold hdI at px1
    have eg : underG G y x = { G with up := putF G.up y x, mr := putF G.mr y false, K := putF G.K x [y] } := by unfold underG; rw [hK]
    rw [eg]
    have HM := Lib.hid M
    clear M eg hK hk
    generalize hcl : A.cs.length = n at *
    simp only [List.length_nil] at px2 hw1
    go_enter Try.func105, Try.ntmps105
    go_wp2
    go_region
    go_wp2
    go_end0
    exact ⟨rfl, (HM.out.under x y [y] y 1 rfl rfl).drewN 1, by (repeat (first | assumption | exact Upd.refl _ _ | refine Upd.drew ?_ | refine Upd.alloc ?_ _ | refine Upd.setCell ?_ ?_ _ | focus (left; simp; done) | focus (right; simp; done) | focus (right; simp; omega) | (apply Upd.trans; rotate_left; assumption)))⟩
  | cons k t =>
    have hkn := hk k t hK
    rw [hK] at px1 px2 hw1 hl
    simp only [List.length_cons] at px2 hw1 hl
    unfold hdI at px1
    have eg : underG G y x = { spl G k y with up := putF G.up y x, mr := putF G.mr y false, K := putF G.K x (y :: (t ++ [k])) } := by unfold underG; rw [hK]
    rw [eg]
    have ks := fun W (hW : Upd [] w W) => rsplice_any (M.rings.upd0 hW) hkn hy
    obtain ⟨g1, g2, g3, g4, g5, g6, g7⟩ := M.d3
    obtain ⟨e1, e2, e3, e4, e5⟩ := M.d2
    have m : ∀ x, x ≠ B.bn → x ≠ B.bp → x ∉ [B.bn, B.bp] := fun x h1 h2 => by simp [h1, h2]
    have r1 : ∀ W, Upd [B.bn, B.bp] w W → W.cell? ⟨B.n0, 1, none⟩ = some (.pointer (some ⟨B.br, 0, none⟩)) := fun W hW => hW.kept M.h1 (m _ e2 e3)
    have rx : ∀ W, Upd [B.bn, B.bp] w W → W.cell? ⟨B.bl, x * 4 + 1, none⟩ = some (.int .i64 (k : Int)) := fun W hW => hW.kept px1 (m _ g2 g3)
    have hkk : ((k : Int) == -1) = false := by simp
    have HM := Lib.hid M
    have hx2 := fun W (hW : Upd [B.bn, B.bp] w W) => hW.kept px2 (m _ g2 g3)
    have hy0 := fun W (hW : Upd [B.bn, B.bp] w W) => hW.kept py0 (m _ g2 g3)
    have hy3 := fun W (hW : Upd [B.bn, B.bp] w W) => hW.kept py3 (m _ g2 g3)
    have hf1 := fun W (hW : Upd [B.bn, B.bp] w W) => hW.keptF px1 (m _ g2 g3) fx1
    have hf2 := fun W (hW : Upd [B.bn, B.bp] w W) => hW.keptF px2 (m _ g2 g3) fx2
    have hg0 := fun W (hW : Upd [B.bn, B.bp] w W) => hW.keptF py0 (m _ g2 g3) fy0
    have hg3 := fun W (hW : Upd [B.bn, B.bp] w W) => hW.keptF py3 (m _ g2 g3) fy3
    have px1' : w.cell? ⟨B.bl, x * 4 + 1, none⟩ = some (.int .i64 (k : Int)) := px1
    have H2 := Lib.hid (And.intro hx2 (And.intro hy0 (And.intro hy3 (And.intro hf1 (And.intro hf2 (And.intro hg0 hg3))))))
    clear M eg hK hk hx2 hy0 hy3 hf1 hf2 hg0 hg3 px1 px2 py0 py3 fx1 fx2 fy0 fy3
    generalize hcl : A.cs.length = n at *
    generalize htl : t.length = tl at *
    have hdz : ((tl : Int) + 1 + 1) = (((y :: (t ++ [k])).length : Nat) : Int) := by first | (simp [htl]; done) | (simp [htl]; omega)
    have HDZ := Lib.hid hdz
    clear hdz htl
    go_enter Try.func105, Try.ntmps105
    go_wp2
    go_region
    go_wp2
    go_region_held3 (Upd [B.bn, B.bp] w) (repeat (first | assumption | exact Upd.refl _ _ | refine Upd.drew ?_ | refine Upd.alloc ?_ _ | refine Upd.setCell ?_ ?_ _ | focus (left; simp; done) | focus (right; simp; done) | focus (right; simp; omega) | (apply Upd.trans; rotate_left; assumption)))
      (first
        | ((go_at_call 103; (with_reducible refine (ks _ (by (repeat (first | assumption | exact Upd.refl _ _ | refine Upd.alloc ?_ _ | refine Upd.drew ?_ | refine Upd.drewN ?_ _ | refine Upd.setCell ?_ ?_ _ | focus (left; simp; done) | focus (right; simp; done) | focus (right; simp; omega))))).mono ?_)); rintro e w1 ⟨rfl, hR1, hu1⟩; (have hu2 : Upd [B.bn, B.bp] w w1 := Upd.trans (by (repeat (first | assumption | exact Upd.refl _ _ | refine Upd.drew ?_ | refine Upd.alloc ?_ _ | refine Upd.setCell ?_ ?_ _ | focus (left; simp; done) | focus (right; simp; done) | focus (right; simp; omega) | (apply Upd.trans; rotate_left; assumption)))) hu1)))
    have q1 := rx _ hu2
    obtain ⟨q2, q3, q4, q5, q6, q7, q8⟩ := H2.out
    have q2 := q2 _ hu2; have q3 := q3 _ hu2; have q4 := q4 _ hu2; have q5 := q5 _ hu2; have q6 := q6 _ hu2; have q7 := q7 _ hu2; have q8 := q8 _ hu2
    have hR1' : RgM w1 B.br B.bn B.bp A.cs.length (swapN G.nx k y) (swapP G.nx G.pv k y) := by rw [hcl]; exact hR1
    have hM1 := HM.out.setR hu2 hR1'
    have HF := Lib.hid (And.intro hM1 hu2)
    clear hM1 hu2 hR1 hR1' hu1 ks r1 rx px1' HM H2
    go_wp2
    go_end0
    have hU : Upd [B.bn, B.bp, B.bl] w w1 := HF.out.2.mono (fun z hz => by simp at hz; rcases hz with rfl | rfl <;> simp)
    exact ⟨rfl, HF.out.1.under x y (y :: (t ++ [k])) y _ rfl HDZ.out, by (repeat (first | assumption | exact Upd.refl _ _ | refine Upd.drew ?_ | refine Upd.alloc ?_ _ | refine Upd.setCell ?_ ?_ _ | focus (left; simp; done) | focus (right; simp; done) | focus (right; simp; omega) | (apply Upd.trans; rotate_left; assumption)))⟩
theorem FbM.freshP (M : FbM w B F gt ct A st G) (x : Nat) :
    FbM ((((w.setCell ⟨B.bl, x * 4, none⟩ (.int .i64 (-1))).setCell ⟨B.bl, x * 4 + 1, none⟩ (.int .i64 (-1))).setCell ⟨B.bl, x * 4 + 2, none⟩ (.int .i64 0)).setCell ⟨B.bl, x * 4 + 3, none⟩ (.bool false)) B F gt ct A st { G with up := putF G.up x (-1), mr := putF G.mr x false, K := putF G.K x [] } := by
  refine M.setP (by (repeat (first | assumption | exact Upd.refl _ _ | refine Upd.drew ?_ | refine Upd.alloc ?_ _ | refine Upd.setCell ?_ ?_ _ | focus (left; simp; done) | focus (right; simp; done) | focus (right; simp; omega) | (apply Upd.trans; rotate_left; assumption)))) ?_
  unfold plCell
  simp only [hd_put, len_put]
  exact row_set3 (row_set2 (row_set1 (row_set0 M.pl x (-1)) x (-1)) x 0) x false
/-- Some slots are topmost, and not marked. -/
def cutU (l : List Nat) (up : Nat → Int) : Nat → Int := fun z => if z ∈ l then -1 else up z
def cutM (l : List Nat) (mr : Nat → Bool) : Nat → Bool := fun z => if z ∈ l then false else mr z
theorem cutU_add (l : List Nat) (x : Nat) (up : Nat → Int) : putF (cutU l up) x (-1) = cutU (l ++ [x]) up := by
  funext z; unfold putF cutU
  by_cases e : z = x
  · rw [if_pos e, if_pos (by simp [e])]
  · rw [if_neg e]; simp [e]
theorem cutM_add (l : List Nat) (x : Nat) (mr : Nat → Bool) : putF (cutM l mr) x false = cutM (l ++ [x]) mr := by
  funext z; unfold putF cutM
  by_cases e : z = x
  · rw [if_pos e, if_pos (by simp [e])]
  · rw [if_neg e]; simp [e]
theorem cutU_nil (up : Nat → Int) : cutU [] up = up := by funext z; unfold cutU; simp
theorem cutM_nil (mr : Nat → Bool) : cutM [] mr = mr := by funext z; unfold cutM; simp
set_option maxHeartbeats 2000000 in
theorem fraise_any (M : FbM w B F gt ct A st G) {x : Nat} (hx : x < A.cs.length) (hr : Ring G.nx (G.K x)) (hk : ∀ z, z ∈ G.K x → z < A.cs.length) :
    Calls Try.prog 84 #[.pointer (some ⟨B.n0, 0, none⟩), .int .i64 (x : Int)] w fun e w' => e = .returned (.tuple #[]) ∧
      FbM w' B F gt ct A st (raiseG G x) ∧ Upd [B.bn, B.bp, B.bl] w w' := by
  have hc1 := M.cells.ok.c1
  have h2 := M.h2
  have hxI : (x : Int) < (A.cs.length : Int) := by omega
  have px1 := M.p1 hx
  cases hK : G.K x with
  | nil =>
    rw [hK] at px1
    unfold hdI at px1
    have eg : raiseG G x = G := by unfold raiseG; rw [hK]
    rw [eg]
    have HM := Lib.hid M
    clear M eg hK hk hr
    generalize hcl : A.cs.length = n at *
    go_enter Try.func84, Try.ntmps84
    go_wp2
    refine bodyPost_ret (v := .tuple #[]) (by simp [results, Try.results84, go_sem]) rfl ?_
    exact ⟨rfl, HM.out, Upd.refl _ _⟩
  | cons k t =>
    rw [hK] at px1 hr hk
    have px1' : w.cell? ⟨B.bl, x * 4 + 1, none⟩ = some (.int .i64 (k : Int)) := px1
    have eg : raiseG G x = { spl G x k with up := putF (cutU (k :: t) G.up) x (-1), mr := putF (cutM (k :: t) G.mr) x false, K := putF G.K x [] } := by unfold raiseG; rw [hK]; rfl
    rw [eg]
    have hkk : ((k : Int) == -1) = false := by simp
    have h1 := M.h1
    have kall := rall_any M.rings hr hk
    have hlen : (k :: t).length ≤ A.cs.length := nodup_bound A.cs.length (k :: t) hr.nd hk
    have hkn : k < A.cs.length := hk k (by simp)
    have HM := Lib.hid (And.intro M hk)
    clear M eg hK hk px1 hr
    generalize hcl : A.cs.length = n at *
    go_enter Try.func84, Try.ntmps84
    go_wp2_with (first
      | ((go_at_call 65; (with_reducible refine (kall).mono ?_)); rintro e w1 ⟨v1, rfl, ho1, hu1⟩; rw [← natI_len] at ho1; obtain ⟨g, cap, rfl, hZ, hb⟩ := IZ.of_own ho1 (by simp [natI]); rw [natI_len] at *)
      | fail)
    obtain ⟨g1, g2, g3, g4, g5, g6, g7⟩ := HM.out.1.d3
    obtain ⟨e1, e2, e3, e4, e5⟩ := HM.out.1.d2
    have hlt := HM.out.1.lt
    have lbl := hlt B.bl (by simp [FB.blk])
    have hM1 := HM.out.1.upd0 hu1
    have hM1' : FbM w1 B F gt ct A st { G with up := cutU ((k :: t).take 0) G.up, mr := cutM ((k :: t).take 0) G.mr, K := G.K } := by rw [List.take_zero, cutU_nil, cutM_nil]; exact hM1
    have HM1 := Lib.hid (And.intro hM1' (And.intro hu1 hZ))
    have hgl := hZ.lt
    have hgb : g ≠ B.bl := by omega
    clear hM1 hM1' hu1 hZ ho1 hlt kall h1 h2
    have hll : (k :: t).length = t.length + 1 := rfl
    rw [hll] at hlen
    generalize htl : t.length = tl at *
    obtain ⟨len, hlen2⟩ : ∃ len, tl + 1 = len := ⟨_, rfl⟩
    have hlI : (tl : Int) + 1 = (len : Int) := by omega
    rw [hlen2] at hll hlen ⊢
    rw [hlI]
    clear hlI htl hlen2
    go_loopw [24] (fun s24 wr => ∃ j : Nat, j ≤ len ∧ s24 = .int .i64 (j : Int) ∧ FbM wr B F gt ct A st { G with up := cutU ((k :: t).take j) G.up, mr := cutM ((k :: t).take j) G.mr, K := G.K } ∧ IZ wr g cap (natI (k :: t)) ∧ Upd [B.bl] w wr) (fun s24 _ => len - (intOf s24).toNat)
    case atStart => exact ⟨0, by omega, rfl, HM1.out.1, HM1.out.2.2, HM1.out.2.1.mono (by simp)⟩
    case round =>
      obtain ⟨j, hj, rfl, hMr, hZr, hur⟩ := hrel
      rename World => wr
      by_cases hjl : j < len
      · obtain ⟨z, hz⟩ : ∃ z, (k :: t)[j]? = some z := ⟨_, List.getElem?_eq_getElem (by omega)⟩
        have hzn : z < n := hcl ▸ HM.out.2 z (List.mem_of_getElem? hz)
        have hc := hZr.cell j (by rw [natI_len]; omega)
        have hgz : (natI (k :: t)).getD j 0 = (z : Int) := by unfold natI; rw [List.getD_eq_getElem?_getD, List.getElem?_map, hz]; rfl
        rw [hgz] at hc
        have q2 := hMr.h2
        rw [hcl] at q2
        have p0 := hMr.p0 (x := z) (by rw [hcl]; exact hzn)
        have p3 := hMr.p3 (x := z) (by rw [hcl]; exact hzn)
        have f0 := hMr.pl.free (z * 4)
        have f3 := hMr.pl.free (z * 4 + 3)
        have hzI : (z : Int) < (n : Int) := by omega
        have hjI : (j : Int) < (len : Int) := by omega
        have hw1 : IntKind.i64.wrap ((j : Int) + 1) = (j : Int) + 1 := IntWalk.i64_in _ (by omega)
        have et : (k :: t).take (j + 1) = (k :: t).take j ++ [z] := by rw [List.take_add_one, hz]; rfl
        have HR := Lib.hid (And.intro hMr (And.intro hZr (And.intro hur et)))
        clear hMr hZr hur et hz hgz
        go_wp2
        go_region
        go_wp2
        obtain ⟨hMr, hZr, hur, et⟩ := HR.out
        refine ⟨⟨j + 1, by omega, by go_num, ?_, (hZr.upd ((Upd.refl [B.bl] wr).setCell (Or.inl (by simp)) _) (by simpa using hgb)).upd (((Upd.refl [B.bl] _).setCell (Or.inl (by simp)) _).drew) (by simpa using hgb), by (repeat (first | assumption | exact Upd.refl _ _ | refine Upd.drew ?_ | refine Upd.alloc ?_ _ | refine Upd.setCell ?_ ?_ _ | focus (left; simp; done) | focus (right; simp; done) | focus (right; simp; omega) | (apply Upd.trans; rotate_left; assumption)))⟩, by simp [intOf]; omega⟩
        rw [et, ← cutU_add, ← cutM_add]
        refine (hMr.setP (up := putF (cutU ((k :: t).take j) G.up) z (-1)) (mr := putF (cutM ((k :: t).take j) G.mr) z false) (K := G.K) (by (repeat (first | assumption | exact Upd.refl _ _ | refine Upd.drew ?_ | refine Upd.alloc ?_ _ | refine Upd.setCell ?_ ?_ _ | focus (left; simp; done) | focus (right; simp; done) | focus (right; simp; omega) | (apply Upd.trans; rotate_left; assumption)))) ?_).drewN 1
        exact row_set3 (row_set0 hMr.pl z (-1)) z false
      · obtain rfl : j = len := by omega
        have et : (k :: t).take j = k :: t := List.take_of_length_le (by omega)
        rw [et] at hMr
        have ks := fun W (hW : Upd [] wr W) => rsplice_any (hMr.rings.upd0 hW) (x := x) (y := k) (by rw [hcl]; exact hx) (by rw [hcl]; exact hkn)
        have q1 := hMr.h1
        have q2 : ∀ W, Upd [B.bn, B.bp] wr W → W.cell? ⟨B.n0, 2, none⟩ = some (.slice (some ⟨B.bl, 0, none⟩) n n) := fun W hW => by
          have := hW.kept hMr.h2 (by simp; exact ⟨e2, e3⟩)
          rwa [hcl] at this
        have p0 := fun W (hW : Upd [B.bn, B.bp] wr W) => hW.kept (hMr.p0 (x := x) (by rw [hcl]; exact hx)) (by simp; exact ⟨g2, g3⟩)
        have p1 := fun W (hW : Upd [B.bn, B.bp] wr W) => hW.kept (hMr.p1 (x := x) (by rw [hcl]; exact hx)) (by simp; exact ⟨g2, g3⟩)
        have p2 := fun W (hW : Upd [B.bn, B.bp] wr W) => hW.kept (hMr.p2 (x := x) (by rw [hcl]; exact hx)) (by simp; exact ⟨g2, g3⟩)
        have p3 := fun W (hW : Upd [B.bn, B.bp] wr W) => hW.kept (hMr.p3 (x := x) (by rw [hcl]; exact hx)) (by simp; exact ⟨g2, g3⟩)
        have HR := Lib.hid (And.intro hMr (And.intro hur (And.intro p0 (And.intro p1 (And.intro p2 p3)))))
        clear hMr hZr hur et p0 p1 p2 p3 HM HM1
        go_wp2_with (first
          | ((go_at_call 103; (with_reducible refine (ks _ (by (repeat (first | assumption | exact Upd.refl _ _ | refine Upd.alloc ?_ _ | refine Upd.drew ?_ | refine Upd.drewN ?_ _ | refine Upd.setCell ?_ ?_ _ | focus (left; simp; done) | focus (right; simp; done) | focus (right; simp; omega))))).mono ?_)); rintro e w2 ⟨rfl, hR2, hu2⟩; (have q3 := q2 _ hu2))
          | fail)
        obtain ⟨hMr, hur, p0, p1, p2, p3⟩ := HR.out
        have p0 := p0 _ hu2; have p1 := p1 _ hu2; have p2 := p2 _ hu2; have p3 := p3 _ hu2
        have f0 := (hMr.setR hu2 hR2).pl.free (x * 4)
        have f1 := (hMr.setR hu2 hR2).pl.free (x * 4 + 1)
        have f2 := (hMr.setR hu2 hR2).pl.free (x * 4 + 2)
        have f3 := (hMr.setR hu2 hR2).pl.free (x * 4 + 3)
        have hb2 : B.bl < w2.heap.size := (hMr.setR hu2 hR2).lt _ (by simp [FB.blk])
        have HM2 := Lib.hid (hMr.setR hu2 hR2)
        have HU := Lib.hid (And.intro hur hu2)
        clear hMr hR2 hur hu2 ks q1 q2 HR
        go_region_with (first
          | ((go_at_call 64; (with_reducible refine (ffresh_any _).mono ?_)); rintro e w3 ⟨rfl, hu3⟩; (have hv : Upd [] w2 w3 := Upd.trans (by (repeat (first | assumption | exact Upd.refl _ _ | refine Upd.alloc ?_ _ | refine Upd.drew ?_ | refine Upd.drewN ?_ _ | refine Upd.setCell ?_ ?_ _ | focus (left; simp; done) | focus (right; simp; done) | focus (right; simp; omega)))) hu3); (have v0 := hv.was p0); (have v1 := hv.was p1); (have v2 := hv.was p2); (have v3 := hv.was p3); (have v4 := hv.was q3); (have z0 := hv.keptF p0 (by simp) f0); (have z1 := hv.keptF p1 (by simp) f1); (have z2 := hv.keptF p2 (by simp) f2); (have z3 := hv.keptF p3 (by simp) f3))
          | fail)
        all_goals
          go_wp2
          go_end0
          have hU : Upd [B.bn, B.bp, B.bl] w w3 := ((HU.out.1.mono (by simp)).trans (HU.out.2.mono (fun z hz => by simp at hz; rcases hz with rfl | rfl <;> simp))).trans (hv.mono (by simp))
          exact ⟨rfl, (HM2.out.upd0 hv).freshP x, by (repeat (first | assumption | exact Upd.refl _ _ | refine Upd.drew ?_ | refine Upd.alloc ?_ _ | refine Upd.setCell ?_ ?_ _ | focus (left; simp; done) | focus (right; simp; done) | focus (right; simp; omega) | (apply Upd.trans; rotate_left; assumption)))⟩
end
end Go.Proofs.Ytighgbdijagolaa