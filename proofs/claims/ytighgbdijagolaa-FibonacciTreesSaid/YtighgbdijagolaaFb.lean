/-
  Fibonacci heaps: what their memory holds, and what turns of it. Conditions: those of each lemma.
-/
import Derived.Test.YtighgbdijagolaaFbB
import Derived.Test.YtighgbdijagolaaGfa
import Derived.Test.YtighgbdijagolaaNestB
set_option linter.unusedVariables false
set_option linter.unusedSimpArgs false
namespace Go.Proofs.Ytighgbdijagolaa
open Go Go.RowKit

def plC (u k d : Nat → Int) (m : Nat → Bool) (j : Nat) : Value := if j % 4 = 0 then .int .i64 (u (j / 4)) else if j % 4 = 1 then .int .i64 (k (j / 4)) else if j % 4 = 2 then .int .i64 (d (j / 4)) else .bool (m (j / 4))
theorem plC0 (u k d : Nat → Int) (m : Nat → Bool) (x : Nat) : plC u k d m (x * 4) = .int .i64 (u x) := by unfold plC; rw [if_pos (by omega), show x * 4 / 4 = x by omega]
theorem plC1 (u k d : Nat → Int) (m : Nat → Bool) (x : Nat) : plC u k d m (x * 4 + 1) = .int .i64 (k x) := by unfold plC; rw [if_neg (by omega), if_pos (by omega), show (x * 4 + 1) / 4 = x by omega]
theorem plC2 (u k d : Nat → Int) (m : Nat → Bool) (x : Nat) : plC u k d m (x * 4 + 2) = .int .i64 (d x) := by unfold plC; rw [if_neg (by omega), if_neg (by omega), if_pos (by omega), show (x * 4 + 2) / 4 = x by omega]
theorem plC3 (u k d : Nat → Int) (m : Nat → Bool) (x : Nat) : plC u k d m (x * 4 + 3) = .bool (m x) := by unfold plC; rw [if_neg (by omega), if_neg (by omega), if_neg (by omega), show (x * 4 + 3) / 4 = x by omega]
theorem four (j : Nat) : ∃ a, j = a * 4 ∨ j = a * 4 + 1 ∨ j = a * 4 + 2 ∨ j = a * 4 + 3 := ⟨j / 4, by omega⟩
section
variable {w : World} {b m : Nat} {e : TypeId} {u k d : Nat → Int} {mr : Nat → Bool}
theorem row_set0 (h : RowAt w b e m (plC u k d mr)) (x : Nat) (v : Int) : RowAt (w.setCell ⟨b, x * 4, none⟩ (.int .i64 v)) b e m (plC (putF u x v) k d mr) := by
  refine (h.set _ _).ext (fun j _ => ?_)
  obtain ⟨a, rfl | rfl | rfl | rfl⟩ := four j
  · rw [plC0, plC0]; unfold putF
    by_cases e : a = x
    · rw [e, if_pos rfl, if_pos rfl]
    · rw [if_neg (by omega), if_neg e]
  · rw [plC1, plC1, if_neg (by omega)]
  · rw [plC2, plC2, if_neg (by omega)]
  · rw [plC3, plC3, if_neg (by omega)]
theorem row_set1 (h : RowAt w b e m (plC u k d mr)) (x : Nat) (v : Int) : RowAt (w.setCell ⟨b, x * 4 + 1, none⟩ (.int .i64 v)) b e m (plC u (putF k x v) d mr) := by
  refine (h.set _ _).ext (fun j _ => ?_)
  obtain ⟨a, rfl | rfl | rfl | rfl⟩ := four j
  · rw [plC0, plC0, if_neg (by omega)]
  · rw [plC1, plC1]; unfold putF
    by_cases e : a = x
    · rw [e, if_pos rfl, if_pos rfl]
    · rw [if_neg (by omega), if_neg e]
  · rw [plC2, plC2, if_neg (by omega)]
  · rw [plC3, plC3, if_neg (by omega)]
theorem row_set2 (h : RowAt w b e m (plC u k d mr)) (x : Nat) (v : Int) : RowAt (w.setCell ⟨b, x * 4 + 2, none⟩ (.int .i64 v)) b e m (plC u k (putF d x v) mr) := by
  refine (h.set _ _).ext (fun j _ => ?_)
  obtain ⟨a, rfl | rfl | rfl | rfl⟩ := four j
  · rw [plC0, plC0, if_neg (by omega)]
  · rw [plC1, plC1, if_neg (by omega)]
  · rw [plC2, plC2]; unfold putF
    by_cases e : a = x
    · rw [e, if_pos rfl, if_pos rfl]
    · rw [if_neg (by omega), if_neg e]
  · rw [plC3, plC3, if_neg (by omega)]
theorem row_set3 (h : RowAt w b e m (plC u k d mr)) (x : Nat) (v : Bool) : RowAt (w.setCell ⟨b, x * 4 + 3, none⟩ (.bool v)) b e m (plC u k d (putF mr x v)) := by
  refine (h.set _ _).ext (fun j _ => ?_)
  obtain ⟨a, rfl | rfl | rfl | rfl⟩ := four j
  · rw [plC0, plC0, if_neg (by omega)]
  · rw [plC1, plC1, if_neg (by omega)]
  · rw [plC2, plC2, if_neg (by omega)]
  · rw [plC3, plC3]; unfold putF
    by_cases e : a = x
    · rw [e, if_pos rfl, if_pos rfl]
    · rw [if_neg (by omega), if_neg e]
end
theorem hd_put (K : Nat → List Nat) (x : Nat) (l : List Nat) : (fun z => hdI (putF K x l z)) = putF (fun z => hdI (K z)) x (hdI l) := by
  funext z; unfold putF; split <;> rfl
theorem len_put (K : Nat → List Nat) (x : Nat) (l : List Nat) : (fun z => ((putF K x l z).length : Int)) = putF (fun z => ((K z).length : Int)) x (l.length : Int) := by
  funext z; unfold putF; split <;> rfl
def plCell (G : FG) : Nat → Value := plC G.up (fun x => hdI (G.K x)) (fun x => ((G.K x).length : Int)) G.mr
theorem plCell0 (G : FG) (x : Nat) : plCell G (x * 4) = .int .i64 (G.up x) := plC0 _ _ _ _ x
theorem plCell1 (G : FG) (x : Nat) : plCell G (x * 4 + 1) = .int .i64 (hdI (G.K x)) := plC1 _ _ _ _ x
theorem plCell2 (G : FG) (x : Nat) : plCell G (x * 4 + 2) = .int .i64 ((G.K x).length : Int) := plC2 _ _ _ _ x
theorem plCell3 (G : FG) (x : Nat) : plCell G (x * 4 + 3) = .bool (G.mr x) := plC3 _ _ _ _ x
def topsL (R : Nat → List Nat) (m : Nat) : List Int := (List.range m).map (fun h => hdI (R h))
theorem topsL_len (R : Nat → List Nat) (m : Nat) : (topsL R m).length = m := by unfold topsL; simp
theorem topsL_get (R : Nat → List Nat) {m h : Nat} (hh : h < m) : (topsL R m).getD h 0 = hdI (R h) := by unfold topsL; simp [List.getD_eq_getElem?_getD, hh]
theorem topsL_set (R : Nat → List Nat) (m h : Nat) (l : List Nat) : (topsL R m).set h (hdI l) = topsL (putF R h l) m := by
  unfold topsL putF
  apply List.ext_getElem (by simp)
  intro i h1 h2
  simp only [List.getElem_set, List.getElem_map, List.getElem_range]
  by_cases e : h = i
  · subst e; rw [if_pos rfl, if_pos rfl]
  · rw [if_neg e, if_neg (fun e2 => e e2.symm)]
structure FB where
  n0 : Nat
  c : Nat
  br : Nat
  bn : Nat
  bp : Nat
  bl : Nat
/-- The memory of a nest of Fibonacci heaps: the cells, the rings, the places, the first slots. -/
structure FbM (w : World) (B : FB) (F : List Nat) (gt ct : Nat) (A : NS) (st : Nat) (G : FG) : Prop where
  head : RowAt w B.n0 78 4 (fun j => [Value.pointer (some ⟨B.c, 0, none⟩), .pointer (some ⟨B.br, 0, none⟩), .slice (some ⟨B.bl, 0, none⟩) A.cs.length A.cs.length, .slice (some ⟨gt, 0, none⟩) A.hs.length ct].getD j undef)
  cells : CellsAt w B.c F A st
  rings : RgM w B.br B.bn B.bp A.cs.length G.nx G.pv
  pl : RowAt w B.bl 110 (A.cs.length * 4) (plCell G)
  tops : IZ w gt ct (topsL G.R A.hs.length)
  d1 : B.n0 ∉ F ∧ B.br ∉ F ∧ B.bn ∉ F ∧ B.bp ∉ F ∧ B.bl ∉ F ∧ gt ∉ F
  d2 : B.n0 ≠ B.br ∧ B.n0 ≠ B.bn ∧ B.n0 ≠ B.bp ∧ B.n0 ≠ B.bl ∧ B.n0 ≠ gt
  d3 : B.bl ≠ B.br ∧ B.bl ≠ B.bn ∧ B.bl ≠ B.bp ∧ B.bl ≠ gt ∧ gt ≠ B.br ∧ gt ≠ B.bn ∧ gt ≠ B.bp
def FB.blk (B : FB) (F : List Nat) (gt : Nat) : List Nat := B.n0 :: B.br :: B.bn :: B.bp :: B.bl :: gt :: F
section
variable {w : World} {B : FB} {F : List Nat} {gt ct : Nat} {A : NS} {st : Nat} {G : FG}
theorem FbM.lt (h : FbM w B F gt ct A st G) : ∀ x, x ∈ B.blk F gt → x < w.heap.size := by
  intro x hx
  have h1 := h.head.lt
  have h2 := h.rings.lt
  have h3 := h.pl.lt
  have h4 := h.tops.lt
  simp only [FB.blk, List.mem_cons] at hx
  rcases hx with rfl | rfl | rfl | rfl | rfl | rfl | hx
  · exact h1
  · exact h2.1
  · exact h2.2.1
  · exact h2.2.2
  · exact h3
  · exact h4
  · exact h.cells.lt x hx
theorem FbM.h0 (h : FbM w B F gt ct A st G) : w.cell? ⟨B.n0, 0, none⟩ = some (.pointer (some ⟨B.c, 0, none⟩)) := h.head.cellAt 0 (by omega) rfl
theorem FbM.h1 (h : FbM w B F gt ct A st G) : w.cell? ⟨B.n0, 1, none⟩ = some (.pointer (some ⟨B.br, 0, none⟩)) := h.head.cellAt 1 (by omega) rfl
theorem FbM.h2 (h : FbM w B F gt ct A st G) : w.cell? ⟨B.n0, 2, none⟩ = some (.slice (some ⟨B.bl, 0, none⟩) A.cs.length A.cs.length) := h.head.cellAt 2 (by omega) rfl
theorem FbM.h3 (h : FbM w B F gt ct A st G) : w.cell? ⟨B.n0, 3, none⟩ = some (.slice (some ⟨gt, 0, none⟩) A.hs.length ct) := h.head.cellAt 3 (by omega) rfl
theorem FbM.p0 (h : FbM w B F gt ct A st G) {x : Nat} (hx : x < A.cs.length) : w.cell? ⟨B.bl, x * 4, none⟩ = some (.int .i64 (G.up x)) := h.pl.cellAt _ (by omega) (plCell0 G x)
theorem FbM.p1 (h : FbM w B F gt ct A st G) {x : Nat} (hx : x < A.cs.length) : w.cell? ⟨B.bl, x * 4 + 1, none⟩ = some (.int .i64 (hdI (G.K x))) := h.pl.cellAt _ (by omega) (plCell1 G x)
theorem FbM.p2 (h : FbM w B F gt ct A st G) {x : Nat} (hx : x < A.cs.length) : w.cell? ⟨B.bl, x * 4 + 2, none⟩ = some (.int .i64 ((G.K x).length : Int)) := h.pl.cellAt _ (by omega) (plCell2 G x)
theorem FbM.p3 (h : FbM w B F gt ct A st G) {x : Nat} (hx : x < A.cs.length) : w.cell? ⟨B.bl, x * 4 + 3, none⟩ = some (.bool (G.mr x)) := h.pl.cellAt _ (by omega) (plCell3 G x)
theorem FbM.top (h : FbM w B F gt ct A st G) {q : Nat} (hq : q < A.hs.length) : w.cell? ⟨gt, q, none⟩ = some (.int .i64 (hdI (G.R q))) := by
  rw [h.tops.cell q (by rw [topsL_len]; exact hq), topsL_get _ hq]
theorem FbM.cap (h : FbM w B F gt ct A st G) : A.hs.length ≤ ct ∧ ct ≤ 9223372036854775807 := by have := h.tops.cap; rwa [topsL_len] at this
theorem FbM.cn (h : FbM w B F gt ct A st G) : B.n0 ≠ B.c ∧ B.br ≠ B.c ∧ B.bn ≠ B.c ∧ B.bp ≠ B.c ∧ B.bl ≠ B.c ∧ gt ≠ B.c := by
  have hm := h.cells.mem
  exact ⟨fun e => h.d1.1 (e ▸ hm), fun e => h.d1.2.1 (e ▸ hm), fun e => h.d1.2.2.1 (e ▸ hm), fun e => h.d1.2.2.2.1 (e ▸ hm), fun e => h.d1.2.2.2.2.1 (e ▸ hm), fun e => h.d1.2.2.2.2.2 (e ▸ hm)⟩
/-- Whatever turned lies elsewhere. -/
theorem FbM.upd {w' : World} {S : List Nat} (h : FbM w B F gt ct A st G) (hu : Upd S w w') (hS : ∀ x, x ∈ S → x ∉ B.blk F gt) : FbM w' B F gt ct A st G := by
  have k : ∀ x, x ∈ B.blk F gt → x ∉ S := fun x hx hs => hS x hs hx
  exact ⟨h.head.upd hu (k _ (by simp [FB.blk])), h.cells.upd hu (fun x hx hm => hS x hx (by simp [FB.blk, hm])), h.rings.upd hu (k _ (by simp [FB.blk])) (k _ (by simp [FB.blk])) (k _ (by simp [FB.blk])), h.pl.upd hu (k _ (by simp [FB.blk])), h.tops.upd hu (k _ (by simp [FB.blk])), h.d1, h.d2, h.d3⟩
theorem FbM.upd0 {w' : World} (h : FbM w B F gt ct A st G) (hu : Upd [] w w') : FbM w' B F gt ct A st G := h.upd hu (by simp)
/-- The cells turned. -/
theorem FbM.setC {w' : World} {F' : List Nat} {A' : NS} {st' : Nat} (h : FbM w B F gt ct A st G) (hu : Upd F w w') (hC : CellsAt w' B.c F' A' st') (hF : ∀ x, x ∈ F' → x ∈ F ∨ w.heap.size ≤ x) (e1 : A'.cs.length = A.cs.length) (e2 : A'.hs.length = A.hs.length) : FbM w' B F' gt ct A' st' G := by
  have f := h.d1
  have g := h.lt
  have hf : ∀ x, x < w.heap.size → x ∉ F → x ∉ F' := fun x hx hn hm => by rcases hF x hm with h' | h'; exact hn h'; omega
  have l0 := g B.n0 (by simp [FB.blk]); have l1 := g B.br (by simp [FB.blk]); have l2 := g B.bn (by simp [FB.blk]); have l3 := g B.bp (by simp [FB.blk]); have l4 := g B.bl (by simp [FB.blk]); have l5 := g gt (by simp [FB.blk])
  exact ⟨by rw [e1, e2]; exact h.head.upd hu f.1, hC, by rw [e1]; exact h.rings.upd hu f.2.1 f.2.2.1 f.2.2.2.1, by rw [e1]; exact h.pl.upd hu f.2.2.2.2.1, by rw [e2]; exact h.tops.upd hu f.2.2.2.2.2, ⟨hf _ l0 f.1, hf _ l1 f.2.1, hf _ l2 f.2.2.1, hf _ l3 f.2.2.2.1, hf _ l4 f.2.2.2.2.1, hf _ l5 f.2.2.2.2.2⟩, h.d2, h.d3⟩
/-- It was counted. -/
theorem FbM.setSt {w' : World} {st' : Nat} (h : FbM w B F gt ct A st G) (hu : Upd [B.c] w w') (hC : CellsAt w' B.c F A st') : FbM w' B F gt ct A st' G :=
  h.setC (hu.mono (fun x hx => by simp at hx; rw [hx]; exact h.cells.mem)) hC (fun x hx => Or.inl hx) rfl rfl
/-- The rings turned. -/
theorem FbM.setR {w' : World} {nx pv : Nat → Nat} (h : FbM w B F gt ct A st G) (hu : Upd [B.bn, B.bp] w w') (hR : RgM w' B.br B.bn B.bp A.cs.length nx pv) : FbM w' B F gt ct A st { G with nx := nx, pv := pv } := by
  obtain ⟨f1, f2, f3, f4, f5, f6⟩ := h.d1
  obtain ⟨e1, e2, e3, e4, e5⟩ := h.d2
  obtain ⟨g1, g2, g3, g4, g5, g6, g7⟩ := h.d3
  have m : ∀ x, x ≠ B.bn → x ≠ B.bp → x ∉ [B.bn, B.bp] := fun x h1 h2 => by simp [h1, h2]
  exact ⟨h.head.upd hu (m _ e2 e3), h.cells.upd hu (fun x hx hm => by simp at hx; rcases hx with rfl | rfl; exact f3 hm; exact f4 hm), hR, h.pl.upd hu (m _ g2 g3), h.tops.upd hu (m _ g6 g7), h.d1, h.d2, h.d3⟩
/-- The places turned. -/
theorem FbM.setP {w' : World} {up : Nat → Int} {mr : Nat → Bool} {K : Nat → List Nat} (h : FbM w B F gt ct A st G) (hu : Upd [B.bl] w w') (hP : RowAt w' B.bl 110 (A.cs.length * 4) (plCell { G with up := up, mr := mr, K := K })) : FbM w' B F gt ct A st { G with up := up, mr := mr, K := K } := by
  obtain ⟨f1, f2, f3, f4, f5, f6⟩ := h.d1
  obtain ⟨e1, e2, e3, e4, e5⟩ := h.d2
  obtain ⟨g1, g2, g3, g4, g5, g6, g7⟩ := h.d3
  have m : ∀ x, x ≠ B.bl → x ∉ [B.bl] := fun x h1 => by simp [h1]
  exact ⟨h.head.upd hu (m _ e4), h.cells.upd hu (fun x hx hm => by simp at hx; subst hx; exact f5 hm), h.rings.upd hu (m _ (Ne.symm g1)) (m _ (Ne.symm g2)) (m _ (Ne.symm g3)), hP, h.tops.upd hu (m _ (Ne.symm g4)), h.d1, h.d2, h.d3⟩
/-- A heap's first slot turned. -/
theorem FbM.setT (h : FbM w B F gt ct A st G) (q : Nat) (l : List Nat) : FbM (w.setCell ⟨gt, q, none⟩ (.int .i64 (hdI l))) B F gt ct A st { G with R := putF G.R q l } := by
  obtain ⟨f1, f2, f3, f4, f5, f6⟩ := h.d1
  obtain ⟨e1, e2, e3, e4, e5⟩ := h.d2
  obtain ⟨g1, g2, g3, g4, g5, g6, g7⟩ := h.d3
  have hu : Upd [gt] w (w.setCell ⟨gt, q, none⟩ (.int .i64 (hdI l))) := (Upd.refl _ _).setCell (Or.inl (by simp)) _
  have m : ∀ x, x ≠ gt → x ∉ [gt] := fun x h1 => by simp [h1]
  refine ⟨h.head.upd hu (m _ e5), h.cells.upd hu (fun x hx hm => by simp at hx; subst hx; exact f6 hm), h.rings.upd hu (m _ (Ne.symm g5)) (m _ (Ne.symm g6)) (m _ (Ne.symm g7)), h.pl.upd hu (m _ g4), ?_, h.d1, h.d2, h.d3⟩
  have := h.tops.set q (hdI l)
  rwa [topsL_set] at this
theorem FbM.drewN (h : FbM w B F gt ct A st G) (k : Nat) : FbM (w.drewN k) B F gt ct A st G := h.upd0 ((Upd.refl [] w).drewN k)
end
theorem ffresh_any (w : World) : Calls Try.prog 64 #[] w fun e w' => e = .returned (.agg #[.int .i64 (-1), .int .i64 (-1), .int .i64 0, .bool false]) ∧ Upd [] w w' := by
  go_enter Try.func64, Try.ntmps64
  go_wp2
  exact bodyPost_ret (v := .agg #[.int .i64 (-1), .int .i64 (-1), .int .i64 0, .bool false]) (by simp [results, Try.results64, go_sem]) rfl ⟨rfl, (Upd.refl _ _).alloc _⟩
end Go.Proofs.Ytighgbdijagolaa
