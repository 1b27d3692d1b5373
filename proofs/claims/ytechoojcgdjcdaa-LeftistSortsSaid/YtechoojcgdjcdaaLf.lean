/-
  Leftist heaps: what the memory holds; kid, ranked, settle. Conditions: those of each lemma.
-/
import Derived.Test.YtechoojcgdjcdaaBt
import Derived.Test.YtechoojcgdjcdaaCells4
import Derived.IntWalk
set_option linter.unusedVariables false
set_option linter.unusedSimpArgs false
namespace Go.Proofs.Ytechoojcgdjcdaa
open Go Go.RowKit

structure LB where
  n0 : Nat
  c : Nat
  bt : Nat
  ba : Nat
  br : Nat
/-- The memory of a nest of leftist heaps. -/
structure LfM (w : World) (B : LB) (F : List Nat) (gt ct : Nat) (A : NS) (st : Nat) (S : TS) (rk : Nat → Nat) (tops : List Int) : Prop where
  head : RowAt w B.n0 32 4 (fun j => [Value.pointer (some ⟨B.c, 0, none⟩), .pointer (some ⟨B.bt, 0, none⟩), .slice (some ⟨B.br, 0, none⟩) A.cs.length A.cs.length, .slice (some ⟨gt, 0, none⟩) tops.length ct].getD j undef)
  cells : CellsAt w B.c F A st
  trees : TreesAt w B.bt B.ba A.cs.length S
  ranks : RowAt w B.br 3 A.cs.length (fun j => .int .i64 (rk j : Int))
  topI : IZ w gt ct tops
  topn : tops.length = A.hs.length
  sepF : B.n0 ∉ F ∧ B.bt ∉ F ∧ B.ba ∉ F ∧ B.br ∉ F ∧ gt ∉ F
  sep : (B.n0 ≠ B.bt ∧ B.n0 ≠ B.ba ∧ B.n0 ≠ B.br ∧ B.n0 ≠ gt) ∧ (B.bt ≠ B.br ∧ B.bt ≠ gt ∧ B.ba ≠ B.br ∧ B.ba ≠ gt ∧ B.br ≠ gt)
section
variable {w : World} {B : LB} {F : List Nat} {gt ct : Nat} {A : NS} {st : Nat} {S : TS} {rk : Nat → Nat} {tops : List Int}
def LB.blk (B : LB) (F : List Nat) (gt : Nat) : List Nat := B.n0 :: B.bt :: B.ba :: B.br :: gt :: F
theorem LfM.upd {w' : World} {G : List Nat} (h : LfM w B F gt ct A st S rk tops) (hu : Upd G w w') (hG : ∀ x, x ∈ G → x ∉ B.blk F gt) : LfM w' B F gt ct A st S rk tops := by
  have h1 : ∀ x, x ∈ B.blk F gt → x ∉ G := fun x hx hg => hG x hg hx
  exact ⟨h.head.upd hu (h1 _ (by simp [LB.blk])), h.cells.upd hu (fun x hx => fun hm => hG x hx (by simp [LB.blk, hm])), h.trees.upd hu (h1 _ (by simp [LB.blk])) (h1 _ (by simp [LB.blk])), h.ranks.upd hu (h1 _ (by simp [LB.blk])), h.topI.upd hu (h1 _ (by simp [LB.blk])), h.topn, h.sepF, h.sep⟩
theorem LfM.upd0 {w' : World} (h : LfM w B F gt ct A st S rk tops) (hu : Upd [] w w') : LfM w' B F gt ct A st S rk tops := h.upd hu (by simp)
theorem LfM.lt (h : LfM w B F gt ct A st S rk tops) : ∀ x, x ∈ B.blk F gt → x < w.heap.size := by
  intro x hx
  have := h.head.lt; have := h.trees.head.lt; have := h.trees.row.lt; have := h.ranks.lt; have := h.topI.lt
  simp only [LB.blk, List.mem_cons] at hx
  rcases hx with rfl | rfl | rfl | rfl | rfl | hx
  · assumption
  · assumption
  · assumption
  · assumption
  · assumption
  · exact h.cells.lt x hx
theorem LfM.cF (h : LfM w B F gt ct A st S rk tops) : B.c ∈ F := h.cells.mem
theorem LfM.h0 (h : LfM w B F gt ct A st S rk tops) : w.cell? ⟨B.n0, 0, none⟩ = some (.pointer (some ⟨B.c, 0, none⟩)) := h.head.cellAt 0 (by omega) rfl
theorem LfM.h1 (h : LfM w B F gt ct A st S rk tops) : w.cell? ⟨B.n0, 1, none⟩ = some (.pointer (some ⟨B.bt, 0, none⟩)) := h.head.cellAt 1 (by omega) rfl
theorem LfM.h2 (h : LfM w B F gt ct A st S rk tops) : w.cell? ⟨B.n0, 2, none⟩ = some (.slice (some ⟨B.br, 0, none⟩) A.cs.length A.cs.length) := h.head.cellAt 2 (by omega) rfl
theorem LfM.h3 (h : LfM w B F gt ct A st S rk tops) : w.cell? ⟨B.n0, 3, none⟩ = some (.slice (some ⟨gt, 0, none⟩) tops.length ct) := h.head.cellAt 3 (by omega) rfl
/-- The links turned. -/
theorem LfM.setT {w' : World} {S' : TS} (h : LfM w B F gt ct A st S rk tops) (hu : Upd [B.ba] w w') (hT : TreesAt w' B.bt B.ba A.cs.length S') : LfM w' B F gt ct A st S' rk tops := by
  have s := h.sep
  have f := h.sepF
  have hne := h.trees.ne
  exact ⟨h.head.upd hu (by simp; omega), h.cells.upd hu (fun x hx => by simp at hx; rw [hx]; exact f.2.2.1), hT, h.ranks.upd hu (by simp; omega), h.topI.upd hu (by simp; omega), h.topn, f, s⟩
theorem LfM.setR (h : LfM w B F gt ct A st S rk tops) (x : Nat) (k : Nat) : LfM (w.setCell ⟨B.br, x, none⟩ (.int .i64 (k : Int))) B F gt ct A st S (fun y => if y = x then k else rk y) tops := by
  have s := h.sep
  have f := h.sepF
  have hu : Upd [B.br] w (w.setCell ⟨B.br, x, none⟩ (.int .i64 (k : Int))) := by (repeat (first | assumption | exact Upd.refl _ _ | refine Upd.alloc ?_ _ | refine Upd.drew ?_ | refine Upd.drewN ?_ _ | refine Upd.setCell ?_ ?_ _ | focus (left; simp; done) | focus (right; simp; done) | focus (right; simp; omega)))
  refine ⟨h.head.upd hu (by simp; omega), h.cells.upd hu (fun x hx => by simp at hx; rw [hx]; exact f.2.2.2.1), h.trees.upd hu (by simp; omega) (by simp; omega), (h.ranks.set x _).ext (fun j hj => ?_), h.topI.upd hu (by simp; omega), h.topn, f, s⟩
  by_cases e : j = x
  · simp only [e, if_true]
  · simp only [e, if_false]
theorem LfM.setTop (h : LfM w B F gt ct A st S rk tops) (x : Nat) (k : Int) : LfM (w.setCell ⟨gt, x, none⟩ (.int .i64 k)) B F gt ct A st S rk (tops.set x k) := by
  have s := h.sep
  have f := h.sepF
  have hu : Upd [gt] w (w.setCell ⟨gt, x, none⟩ (.int .i64 k)) := by (repeat (first | assumption | exact Upd.refl _ _ | refine Upd.alloc ?_ _ | refine Upd.drew ?_ | refine Upd.drewN ?_ _ | refine Upd.setCell ?_ ?_ _ | focus (left; simp; done) | focus (right; simp; done) | focus (right; simp; omega)))
  refine ⟨by rw [List.length_set]; exact h.head.upd hu (by simp; omega), h.cells.upd hu (fun x hx => by simp at hx; rw [hx]; exact f.2.2.2.2), h.trees.upd hu (by simp; omega) (by simp; omega), h.ranks.upd hu (by simp; omega), h.topI.set x k, by rw [List.length_set]; exact h.topn, f, s⟩
/-- The cells turned. -/
theorem LfM.setC {w' : World} {F' : List Nat} {A' : NS} {st' : Nat} (h : LfM w B F gt ct A st S rk tops) (hu : Upd F w w') (hC : CellsAt w' B.c F' A' st') (hF : ∀ x, x ∈ F' → x ∈ F ∨ w.heap.size ≤ x) (h1 : A'.cs.length = A.cs.length) (h2 : A'.hs.length = A.hs.length) : LfM w' B F' gt ct A' st' S rk tops := by
  have f := h.sepF
  have g := h.lt
  have hf : ∀ x, x < w.heap.size → x ∉ F → x ∉ F' := fun x hx hn hm => by rcases hF x hm with h' | h'; exact hn h'; omega
  have l0 := g B.n0 (by simp [LB.blk]); have l1 := g B.bt (by simp [LB.blk]); have l2 := g B.ba (by simp [LB.blk]); have l3 := g B.br (by simp [LB.blk]); have l4 := g gt (by simp [LB.blk])
  exact ⟨by rw [h1]; exact h.head.upd hu f.1, hC, by rw [h1]; exact h.trees.upd hu f.2.1 f.2.2.1, by rw [h1]; exact h.ranks.upd hu f.2.2.2.1, h.topI.upd hu f.2.2.2.2, by rw [h2]; exact h.topn, ⟨hf _ l0 f.1, hf _ l1 f.2.1, hf _ l2 f.2.2.1, hf _ l3 f.2.2.2.1, hf _ l4 f.2.2.2.2⟩, h.sep⟩
end
theorem lkid_any (z : Int) (w : World) : Calls Try.prog 86 #[.int .i64 (tv z), .bool (tb z)] w fun e w' => e = .returned (.int .i64 z) ∧ w' = w := by
  unfold tv tb
  by_cases h : z = -1
  · subst h
    simp only [if_true, ne_eq, not_true, decide_false]
    go_enter Try.func86, Try.ntmps86
    go_wp2
    go_ret
    exact ⟨rfl, rfl⟩
  · rw [if_neg h, decide_eq_true h]
    go_enter Try.func86, Try.ntmps86
    go_wp2
    go_ret
    exact ⟨rfl, rfl⟩
def rankZ (rk : Nat → Nat) (z : Int) : Int := if z = -1 then 0 else (rk z.toNat : Int)
section
variable {w : World} {B : LB} {F : List Nat} {gt ct : Nat} {A : NS} {st : Nat} {S : TS} {rk : Nat → Nat} {tops : List Int}
theorem lranked_any (h : LfM w B F gt ct A st S rk tops) (z : Int) (hz : z = -1 ∨ (0 ≤ z ∧ z < A.cs.length)) :
    Calls Try.prog 109 #[.pointer (some ⟨B.n0, 0, none⟩), .int .i64 z] w fun e w' => e = .returned (.int .i64 (rankZ rk z)) ∧ w' = w := by
  unfold rankZ
  have h2 := h.h2
  have hA := h.cells.ok.c1
  by_cases e : z = -1
  · subst e
    clear h
    go_enter Try.func109, Try.ntmps109
    go_wp2
    go_ret
    exact ⟨rfl, rfl⟩
  · obtain ⟨i, rfl⟩ : ∃ i : Nat, z = i := ⟨z.toNat, by omega⟩
    have hi : i < A.cs.length := by omega
    have d := h.ranks.cell i hi
    have hb : ((i : Int) == -1) = false := by simp
    rw [if_neg e]
    simp only [Int.toNat_natCast]
    clear h e hz
    go_enter Try.func109, Try.ntmps109
    go_wp2
    go_ret
    exact ⟨rfl, rfl⟩
theorem rankZ_pos (rk : Nat → Nat) (z : Int) : 0 ≤ rankZ rk z := by unfold rankZ; split <;> omega
theorem quiet_ex {P : Program} {f : FuncId} {args : Array Value} {w : World} {v : Value} (h : Calls P f args w fun e w' => e = .returned v ∧ ∃ k, w' = w.drewN k) : Calls P f args w fun e w' => ∃ u n, e = .returned u ∧ u = v ∧ w' = w.drewN n :=
  h.mono fun e w' ⟨he, k, hk⟩ => ⟨v, k, he, rfl, hk⟩
set_option maxHeartbeats 4000000 in
theorem lsettle_turn (h : LfM w B F gt ct A st S rk tops) (x : Nat) (hx : x < A.cs.length) (hl : S.l x = -1 ∨ (0 ≤ S.l x ∧ S.l x < A.cs.length)) (hr : S.r x = -1 ∨ (0 ≤ S.r x ∧ S.r x < A.cs.length)) (hba : rankZ rk (S.l x) ≤ 65536) (hbb : rankZ rk (S.r x) ≤ 65536) (hab : rankZ rk (S.l x) < rankZ rk (S.r x)) :
    Calls Try.prog 90 #[.pointer (some ⟨B.n0, 0, none⟩), .int .i64 (x : Int)] w fun e w' => e = .returned (.tuple #[]) ∧ Upd [B.ba, B.br] w w' ∧ LfM w' B F gt ct A st (turnS S x) (fun y => if y = x then (rankZ rk (S.l x)).toNat + 1 else rk y) tops := by
  have kl := fun d => left_any B.bt B.ba A.cs.length S (x : Int) (w.drewN d) (h.trees.drewN d)
  have kr := fun d => right_any B.bt B.ba A.cs.length S (x : Int) (w.drewN d) (h.trees.drewN d)
  rw [show kidOf A.cs.length S (x : Int) false = S.l x by unfold kidOf TS.kid; rw [if_pos (by omega)]; simp] at kl
  rw [show kidOf A.cs.length S (x : Int) true = S.r x by unfold kidOf TS.kid; rw [if_pos (by omega)]; simp] at kr
  have q1 : ∀ d, (w.drewN d).cell? ⟨B.n0, 1, none⟩ = some (.pointer (some ⟨B.bt, 0, none⟩)) := fun d => h.h1
  have H := Lib.hid h
  have rl := fun d => lranked_any (h.upd0 ((Upd.refl [] w).drewN d)) (S.l x) hl
  have rr := fun d => lranked_any (h.upd0 ((Upd.refl [] w).drewN d)) (S.r x) hr
  have ba1 : 0 ≤ rankZ rk (S.l x) ∧ rankZ rk (S.l x) ≤ 65536 := ⟨rankZ_pos _ _, hba⟩
  have bb1 : 0 ≤ rankZ rk (S.r x) ∧ rankZ rk (S.r x) ≤ 65536 := ⟨rankZ_pos _ _, hbb⟩
  clear hba hbb
  have HL := Lib.hid (And.intro hl hr)
  generalize hzl : S.l x = zl at *
  generalize hzr : S.r x = zr at *
  generalize hra : rankZ rk zl = a at *
  generalize hrb : rankZ rk zr = b at *
  have HZ := Lib.hid (And.intro hzl (And.intro hzr (And.intro hra hrb)))
  have hn0 := h.lt B.n0 (by simp [LB.blk])
  have hbr := h.lt B.br (by simp [LB.blk])
  have hs := h.sep
  have hA := h.cells.ok.c1
  clear h hzl hzr hra hrb hl hr
  go_enter Try.func90, Try.ntmps90
  go_wp2
  go_quiet ((first
    | (go_at_call 102; exact Calls.quiet_of (kl _))
    | (go_at_call 87; exact Calls.quiet_of (kr _))
    | (go_at_call 86; exact Calls.quiet_of_same (lkid_any _ _))))
  have H2 := Lib.hid (H.out.upd0 ((Upd.refl [] w).drewN nq))
  have rln := rl nq
  have rrn := rr nq
  have h1 := q1 nq
  clear kl kr q1 rl rr
  have kt := turn_yes B.bt B.ba A.cs.length S x (w.drewN nq) H2.out.trees hx
  go_wp2_with (first
    | (go_at_call 109; (with_reducible refine (rln).mono ?_); rintro e w9 ⟨rfl, hw9⟩; rw [hw9]; clear hw9 w9)
    | (go_at_call 109; (with_reducible refine (rrn).mono ?_); rintro e w9 ⟨rfl, hw9⟩; rw [hw9]; clear hw9 w9)
    | (go_at_call 101; (with_reducible refine (kt).mono ?_); rintro e w2 ⟨rfl, hT, hu2⟩))
  have h3 := Lib.hid (H2.out.setT hu2 hT)
  have hw2 : Upd [B.ba, B.br] w w2 := ((Upd.refl _ w).drewN nq).trans (hu2.mono (by simp))
  have kq := fun W (hW : Upd [] w2 W) => lranked_any (h3.out.upd0 hW) zl HL.out.1
  rw [HZ.out.2.2.1] at kq
  have r0 : ∀ W, Upd [B.br] w2 W → W.cell? ⟨B.n0, 2, none⟩ = some (.slice (some ⟨B.br, 0, none⟩) A.cs.length A.cs.length) := fun W hW => hW.kept h3.out.h2 (by simp; omega)
  have d0 := h3.out.ranks.cell x hx
  have d1 := h3.out.ranks.free x
  have hwr : IntKind.i64.wrap (a + 1) = a + 1 := IntWalk.i64_in _ (by omega)
  go_region_held3 (Upd [B.br] w2) (repeat (first | assumption | exact Upd.refl _ _ | refine Upd.drew ?_ | refine Upd.alloc ?_ _ | refine Upd.setCell ?_ ?_ _ | focus (left; simp; done) | focus (right; simp; done) | focus (right; simp; omega) | (apply Upd.trans; rotate_left; assumption))) ((go_at_call 109; (with_reducible refine ((kq _ (by (repeat (first | assumption | exact Upd.refl _ _ | refine Upd.alloc ?_ _ | refine Upd.drew ?_ | refine Upd.drewN ?_ _ | refine Upd.setCell ?_ ?_ _ | focus (left; simp; done) | focus (right; simp; done) | focus (right; simp; omega)))))).mono ?_); rintro e w9 ⟨rfl, hw9⟩; rw [hw9]; clear hw9 w9))
  go_wp2
  go_end0
  clear hwr
  obtain ⟨an, rfl⟩ : ∃ an : Nat, a = an := ⟨a.toNat, by omega⟩
  have hR := h3.out.setR x (an + 1)
  rw [show ((an + 1 : Nat) : Int) = (an : Int) + 1 by omega] at hR
  exact ⟨rfl, ((hw2.setCell (Or.inl (by simp)) _)).drew, hR.upd0 ((Upd.refl _ _).drew)⟩
set_option maxHeartbeats 4000000 in
theorem lsettle_stay (h : LfM w B F gt ct A st S rk tops) (x : Nat) (hx : x < A.cs.length) (hl : S.l x = -1 ∨ (0 ≤ S.l x ∧ S.l x < A.cs.length)) (hr : S.r x = -1 ∨ (0 ≤ S.r x ∧ S.r x < A.cs.length)) (hba : rankZ rk (S.l x) ≤ 65536) (hbb : rankZ rk (S.r x) ≤ 65536) (hab : ¬ rankZ rk (S.l x) < rankZ rk (S.r x)) :
    Calls Try.prog 90 #[.pointer (some ⟨B.n0, 0, none⟩), .int .i64 (x : Int)] w fun e w' => e = .returned (.tuple #[]) ∧ Upd [B.ba, B.br] w w' ∧ LfM w' B F gt ct A st S (fun y => if y = x then (rankZ rk (S.r x)).toNat + 1 else rk y) tops := by
  have kl := fun d => left_any B.bt B.ba A.cs.length S (x : Int) (w.drewN d) (h.trees.drewN d)
  have kr := fun d => right_any B.bt B.ba A.cs.length S (x : Int) (w.drewN d) (h.trees.drewN d)
  rw [show kidOf A.cs.length S (x : Int) false = S.l x by unfold kidOf TS.kid; rw [if_pos (by omega)]; simp] at kl
  rw [show kidOf A.cs.length S (x : Int) true = S.r x by unfold kidOf TS.kid; rw [if_pos (by omega)]; simp] at kr
  have q1 : ∀ d, (w.drewN d).cell? ⟨B.n0, 1, none⟩ = some (.pointer (some ⟨B.bt, 0, none⟩)) := fun d => h.h1
  have H := Lib.hid h
  have rl := fun d => lranked_any (h.upd0 ((Upd.refl [] w).drewN d)) (S.l x) hl
  have rr := fun d => lranked_any (h.upd0 ((Upd.refl [] w).drewN d)) (S.r x) hr
  have ba1 : 0 ≤ rankZ rk (S.l x) ∧ rankZ rk (S.l x) ≤ 65536 := ⟨rankZ_pos _ _, hba⟩
  have bb1 : 0 ≤ rankZ rk (S.r x) ∧ rankZ rk (S.r x) ≤ 65536 := ⟨rankZ_pos _ _, hbb⟩
  clear hba hbb
  have HL := Lib.hid (And.intro hl hr)
  generalize hzl : S.l x = zl at *
  generalize hzr : S.r x = zr at *
  generalize hra : rankZ rk zl = a at *
  generalize hrb : rankZ rk zr = b at *
  have HZ := Lib.hid (And.intro hzl (And.intro hzr (And.intro hra hrb)))
  have hn0 := h.lt B.n0 (by simp [LB.blk])
  have hbr := h.lt B.br (by simp [LB.blk])
  have hs := h.sep
  have hA := h.cells.ok.c1
  clear h hzl hzr hra hrb hl hr
  go_enter Try.func90, Try.ntmps90
  go_wp2
  go_quiet ((first
    | (go_at_call 102; exact Calls.quiet_of (kl _))
    | (go_at_call 87; exact Calls.quiet_of (kr _))
    | (go_at_call 86; exact Calls.quiet_of_same (lkid_any _ _))))
  have H2 := Lib.hid (H.out.upd0 ((Upd.refl [] w).drewN nq))
  have rln := rl nq
  have rrn := rr nq
  have h1 := q1 nq
  clear kl kr q1 rl rr
  go_wp2_with (first
    | (go_at_call 109; (with_reducible refine (rln).mono ?_); rintro e w9 ⟨rfl, hw9⟩; rw [hw9]; clear hw9 w9)
    | (go_at_call 109; (with_reducible refine (rrn).mono ?_); rintro e w9 ⟨rfl, hw9⟩; rw [hw9]; clear hw9 w9))
  obtain ⟨w2, hw2⟩ : ∃ w2, w2 = w.drewN nq := ⟨_, rfl⟩
  have hu2 : Upd [B.ba, B.br] w w2 := by rw [hw2]; exact (Upd.refl _ w).drewN nq
  rw [← hw2] at H2 ⊢
  clear hw2 h1 rln rrn
  have kq := fun W (hW : Upd [] w2 W) => lranked_any (H2.out.upd0 hW) zr HL.out.2
  rw [HZ.out.2.2.2] at kq
  have r0 : ∀ W, Upd [B.br] w2 W → W.cell? ⟨B.n0, 2, none⟩ = some (.slice (some ⟨B.br, 0, none⟩) A.cs.length A.cs.length) := fun W hW => hW.kept H2.out.h2 (by simp; omega)
  have d0 := H2.out.ranks.cell x hx
  have d1 := H2.out.ranks.free x
  have hwr : IntKind.i64.wrap (b + 1) = b + 1 := IntWalk.i64_in _ (by omega)
  go_region_held3 (Upd [B.br] w2) (repeat (first | assumption | exact Upd.refl _ _ | refine Upd.drew ?_ | refine Upd.alloc ?_ _ | refine Upd.setCell ?_ ?_ _ | focus (left; simp; done) | focus (right; simp; done) | focus (right; simp; omega) | (apply Upd.trans; rotate_left; assumption))) ((go_at_call 109; (with_reducible refine ((kq _ (by (repeat (first | assumption | exact Upd.refl _ _ | refine Upd.alloc ?_ _ | refine Upd.drew ?_ | refine Upd.drewN ?_ _ | refine Upd.setCell ?_ ?_ _ | focus (left; simp; done) | focus (right; simp; done) | focus (right; simp; omega)))))).mono ?_); rintro e w9 ⟨rfl, hw9⟩; rw [hw9]; clear hw9 w9))
  go_wp2
  go_end0
  clear hwr
  obtain ⟨bn, rfl⟩ : ∃ bn : Nat, b = bn := ⟨b.toNat, by omega⟩
  have hR := H2.out.setR x (bn + 1)
  rw [show ((bn + 1 : Nat) : Int) = (bn : Int) + 1 by omega] at hR
  exact ⟨rfl, ((hu2.setCell (Or.inl (by simp)) _)).drew, hR.upd0 ((Upd.refl _ _).drew)⟩
end
end Go.Proofs.Ytechoojcgdjcdaa
