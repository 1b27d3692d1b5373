/-
  Binomial heaps: Nest.take: a root comes out of its heap. Conditions: those of each lemma.
-/
import Derived.Test.YtighgbdijagolaaBn2
import Derived.Test.YtighgbdijagolaaDel
import Derived.Deep.DeepCutAuto
import Derived.Outline
set_option linter.unusedVariables false
set_option linter.unusedSimpArgs false
namespace Go.Proofs.Ytighgbdijagolaa
open Go Go.RowKit

/-- The memory of binomial heaps, by its blocks FF. -/
def BnAt (w : World) (p : Nat) (FF : List Nat) (A : NS) (st : Nat) (G : BG) : Prop := ∃ B F gr cr lo S vs, p = B.n0 ∧ FF = B.blk F gr A.cs.length S vs ∧ BnM w B F gr cr lo A st S vs G.R ∧ S.f = G.F
theorem split_at {l : List Int} {x : Int} (hn : l.Nodup) (hx : x ∈ l) : ∃ l1 l2, l = l1 ++ x :: l2 ∧ x ∉ l1 ∧ x ∉ l2 ∧ l.filter (fun z => z != x) = l1 ++ l2 := by
  obtain ⟨l1, l2, rfl⟩ := List.append_of_mem hx
  rw [List.nodup_append, List.nodup_cons] at hn
  have h1 : x ∉ l1 := fun h => hn.2.2 x h x (by simp) rfl
  have h2 : x ∉ l2 := hn.2.1.1
  refine ⟨l1, l2, rfl, h1, h2, ?_⟩
  have f : ∀ l : List Int, x ∉ l → l.filter (fun z => z != x) = l := fun l hl => by
    rw [List.filter_eq_self]; intro a ha; simp; intro e; subst e; exact hl ha
  rw [List.filter_append, List.filter_cons_of_neg (by simp), f l1 h1, f l2 h2]
section
variable {w : World} {B : BB} {F : List Nat} {gr cr lo : Nat} {A : NS} {st : Nat} {S : CS} {vs : List Value} {G : BG}
set_option maxHeartbeats 4000000 in
/-- A root comes out of its heap. -/
theorem btake_any (M : BnM w B F gr cr lo A st S vs G.R) (eF : S.f = G.F) {x h : Nat} (X : BnX A G x) (hx : x < A.cs.length) (hr : G.F.u x = -1) (hin : 0 < (A.c x).i) (hh : (A.c x).i = h) (hq : h < vs.length) :
    Calls Try.prog 150 #[.pointer (some ⟨B.n0, 0, none⟩), .int .i64 (h : Int), .int .i64 (x : Int)] w fun e w' => e = .returned (.bool true) ∧
      Goes (B.blk F gr A.cs.length S vs) w w' (fun FF => BnAt w' B.n0 FF (dropN A x) (satS st (takeQ A h x G)) (takeG A h x G)) := by
  have ok := M.cells.ok
  obtain ⟨T1, T2, mx, t1, t2, t3, t4, t5⟩ := take_bn X ok hx hr hin hh
  have nd := (X.rh.row h).nodup
  obtain ⟨l1, l2, eR, n1, n2, eL⟩ := split_at nd mx
  have hrl : (G.R h).length ≤ 65536 := Nat.le_trans (nodup_le A.cs.length _ nd (fun z hz => ⟨((X.rh.row h).1 z hz).1, ((X.rh.row h).1 z hz).2.1⟩)) ok.c1
  obtain ⟨w0, hw0⟩ : ∃ w0, w0 = w.alloc (.cells #[.int .i64 (x : Int)] 3) := ⟨_, rfl⟩
  have hs0 : w.heap.size < w0.heap.size := by rw [hw0]; simp
  have u0 : Upd [] w w0 := by rw [hw0]; exact (Upd.refl _ _).alloc _
  have hb0 : w0.cell? ⟨w.heap.size, 0, none⟩ = some (.int .i64 (x : Int)) := by rw [hw0]; simp
  have hlt := M.lt
  have hbx : ∀ g, (vs.getD h undef).ownBlock = some g → g ≠ w.heap.size := fun g hg e => by have := M.row_lt hq hg; omega
  have kd := fun W (hW : Upd [] w0 W) => delf_any W w.heap.size 0 (vs.getD h undef) l1 l2 x (by rw [← eR]; exact (M.each h hq).upd (u0.trans hW) (by simp)) n1 n2 (hW.was hb0) (fun e => hbx _ e rfl) (by rw [← eR]; omega)
  obtain ⟨a, cap, hv, _⟩ := M.shape hq
  have h2 := M.h2
  have d := M.rowc hq
  rw [hv] at d
  have df := M.rowf h
  have n0 : B.n0 ∉ (vs.getD h undef).ownBlock.toList := fun hm => (M.d4 h _ hq (by simpa using hm)).1 rfl
  have ng : gr ∉ (vs.getD h undef).ownBlock.toList := fun hm => (M.d4 h _ hq (by simpa using hm)).2.2.2.1 rfl
  have nb : w.heap.size ∉ (vs.getD h undef).ownBlock.toList := fun hm => hbx _ (by simpa using hm) rfl
  have r2 : ∀ W, Upd (vs.getD h undef).ownBlock.toList w0 W → W.cell? ⟨B.n0, 2, none⟩ = some (.slice (some ⟨gr, 0, none⟩) vs.length cr) := fun W hW => hW.kept (u0.was h2) n0
  have r3 : ∀ W, Upd (vs.getD h undef).ownBlock.toList w0 W → W.cell? ⟨gr, h, none⟩ = some (.slice a (G.R h).length cap) ∧ W.frozen? ⟨gr, h, none⟩ = false := fun W hW => ⟨hW.kept (u0.was d) ng, hW.keptF (u0.was d) ng (u0.keptF d (by simp) df)⟩
  have r4 : ∀ W, Upd (vs.getD h undef).ownBlock.toList w0 W → W.cell? ⟨w.heap.size, 0, none⟩ = some (.int .i64 (x : Int)) := fun W hW => hW.kept hb0 nb
  have hib1 : (0 : Int) ≤ (h : Int) := by omega
  have hib2 : (h : Int) < (vs.length : Int) := by omega
  have hgl := M.gr_lt
  have hn0l := hlt B.n0 (by simp [BB.blk])
  have HM := Lib.hid M
  have HX := Lib.hid (And.intro T1 (And.intro t1 (And.intro t2 (And.intro t3 (And.intro t4 (And.intro t5 (And.intro eL (And.intro eF X))))))))
  have hvl2 := M.vlen
  rw [hv] at kd r2 r3 r4
  clear M X T1 T2 mx t1 t2 t3 t4 t5 nd eL hbx ok h2 d df n0 ng nb n1 n2 eF hlt
  have HV := Lib.hid hv
  clear eR hrl
  generalize (G.R h).length = rl at *
  go_enter Try.func150, Try.ntmps150
  go_wp2
  rw [← hw0]
  clear hw0 hb0
  go_cut [20] (fun s20 wx => ∃ v1, BnM wx B F gr cr lo A st S (vs.set h v1) (setR G.R h (l1 ++ l2)) ∧ wx.cell? ⟨w.heap.size, 0, none⟩ = some (.int .i64 (x : Int)) ∧ Upd (gr :: (Value.slice a rl cap).ownBlock.toList) w wx ∧ v1.ownBlock = (Value.slice a rl cap).ownBlock)
  case first =>
    have p2 := r2 _ (Upd.refl _ _)
    obtain ⟨p3, p4⟩ := r3 _ (Upd.refl _ _)
    go_region_law
      (first
        | (go_simp; go_at_call 155; (with_reducible refine (kd _ (by (repeat (first | assumption | exact Upd.refl _ _ | refine Upd.alloc ?_ _ | refine Upd.drew ?_ | refine Upd.drewN ?_ _ | refine Upd.setCell ?_ ?_ _ | focus (left; simp; done) | focus (right; simp; done) | focus (right; simp; omega))))).mono ?_); rintro e w1 ⟨v1, rfl, hO1, hb1, hu1a, a1, n1, c1, rfl⟩; (have hu1 : Upd (Value.slice a rl cap).ownBlock.toList w0 w1 := Upd.trans (by (repeat (first | assumption | exact Upd.refl _ _ | refine Upd.alloc ?_ _ | refine Upd.drew ?_ | refine Upd.drewN ?_ _ | refine Upd.setCell ?_ ?_ _ | focus (left; simp; done) | focus (right; simp; done) | focus (right; simp; omega)))) hu1a); (have q2 := r2 _ hu1); obtain ⟨q3, q4⟩ := r3 _ hu1; (have q5 := r4 _ hu1)))
    all_goals
      go_wp2
      go_meet
      have hu2 : Upd (Value.slice a rl cap).ownBlock.toList w w1 := (u0.mono (by simp)).trans hu1
      exact ⟨_, HM.out.setVD h hq (by rw [hv]; exact hu2) _ _ hO1 (by rw [hv]; exact hb1), by go_simp, (hu2.mono (by simp +contextual)).setCell (Or.inl (by simp)) _, hb1⟩
  case rest =>
    obtain ⟨v1, hM2, hb2, hu2, ho2⟩ := hcut
    obtain ⟨T1, t1, t2, t3, t4, t5, eL, eF, X⟩ := HX.out
    have hvs2 : (vs.set h v1).length = vs.length := List.length_set
    have hfs : FOk A.cs.length S.f := by rw [eF]; exact X.fh.f
    have hSk : S.k x = G.F.k x := by rw [← eF]; rfl
    have ksp := fun W (hW : Upd [] wc W) => split_yes B.bt B.ba lo A.cs.length S x W (hM2.cubes.upd0 hW) hx (by unfold rootB; rw [decide_eq_true (by omega)]; have e : S.u x = -1 := (by rw [← hr, ← eF]; rfl); simp [e]) (fun k hk => by have := hfs.rng x hx k hk; omega)
    have h1 := hM2.h1
    have hl2 := hM2.lt
    have hbn : w.heap.size ∉ B.c :: B.ba :: gr :: S.blk A.cs.length := fun hm => by
      have hl := HM.out.lt
      simp only [List.mem_cons] at hm
      rcases hm with e | e | e | e
      · have := HM.out.cells.lt B.c HM.out.cells.mem; omega
      · have := hl B.ba (by simp [BB.blk]); omega
      · omega
      · have := (HM.out.cubes.blk_lo e).2; omega
    have hn0 : B.n0 ∉ B.c :: B.ba :: gr :: S.blk A.cs.length := fun hm => by
      have hcn := HM.out.cn
      simp only [List.mem_cons] at hm
      rcases hm with e | e | e | e
      · exact hcn.1 e
      · exact HM.out.d2.2.1 e
      · exact HM.out.d2.2.2.1 e
      · exact (HM.out.d3 _ e).1 rfl
    have r1 : ∀ W, Upd (B.c :: B.ba :: gr :: S.blk A.cs.length) wc W → W.cell? ⟨B.n0, 1, none⟩ = some (.pointer (some ⟨B.bt, 0, none⟩)) := fun W hW => hW.kept h1 hn0
    have r0 : ∀ W, Upd (B.c :: B.ba :: gr :: S.blk A.cs.length) wc W → W.cell? ⟨w.heap.size, 0, none⟩ = some (.int .i64 (x : Int)) := fun W hW => hW.kept hb2 hbn
    have ka := fun (W : World) (vl : Value) (hM : BnM W B F gr cr lo A st (splitS S x) (vs.set h v1) (setR G.R h (l1 ++ l2))) (hvl : SlI W (B.c :: B.ba :: (splitS S x).blk A.cs.length) vl (G.F.k x)) => badd_any hM (by rw [split_f, eF]; exact X.fh.f.split2 hx hr) h (by rw [hvs2]; exact hq) hvl (by rw [split_f, eF, show setR G.R h (l1 ++ l2) h = l1 ++ l2 by simp [setR], ← eL]; exact t1) (by rw [split_f, eF]; exact t2) (fun z hz => by rw [show setR G.R h (l1 ++ l2) h = l1 ++ l2 by simp [setR], ← eL] at hz; exact t3 z hz) (fun z hz => by rw [show setR G.R h (l1 ++ l2) h = l1 ++ l2 by simp [setR], ← eL] at hz; exact t5 z (by rcases hz with hz | hz; exact Or.inl (List.mem_filter.1 hz).1; exact Or.inr hz))
    have HM2 := Lib.hid hM2
    have HB := Lib.hid (show ∀ W : World, Upd [B.ba] wc W → ForestAt W B.bt B.ba lo A.cs.length (splitS S x) → BnM W B F gr cr lo A st (splitS S x) (vs.set h v1) (setR G.R h (l1 ++ l2)) from fun W hu hF => HM2.out.setF (hu.mono (by simp)) (HM2.out.cells.upd hu (fun y hy hm => by simp at hy; subst hy; exact HM2.out.d1.2.2.1 hm)) hF (fun g hg => Or.inl (splitS_blk S x _ g hg)))
    have HSUB := Lib.hid (show ∀ y, y ∈ B.c :: B.ba :: gr :: (splitS S x).blk A.cs.length → y ∈ B.c :: B.ba :: gr :: S.blk A.cs.length from fun y hy => by
      simp only [List.mem_cons] at hy ⊢
      rcases hy with e | e | e | e
      · exact Or.inl e
      · exact Or.inr (Or.inl e)
      · exact Or.inr (Or.inr (Or.inl e))
      · exact Or.inr (Or.inr (Or.inr (splitS_blk S x _ y e))))
    have HLT := Lib.hid (show ∀ y, y ∈ B.c :: B.ba :: (splitS S x).blk A.cs.length → y < wc.heap.size from fun y hy => by
      simp only [List.mem_cons] at hy
      rcases hy with e | e | e
      · subst e; exact hM2.cells.lt _ hM2.cells.mem
      · subst e; exact hM2.cubes.row.lt
      · exact (hM2.cubes.blk_lo (splitS_blk S x _ y e)).2)
    clear hM2 T1 t1 t2 t3 t4 t5 eL hfs X h1 hb2 eF
    rw [hSk] at ksp
    go_wp2
    go_region_held3 (Upd (B.c :: B.ba :: gr :: S.blk A.cs.length) wc) (repeat (first | assumption | exact Upd.refl _ _ | refine Upd.drew ?_ | refine Upd.alloc ?_ _ | refine Upd.setCell ?_ ?_ _ | focus (left; simp; done) | focus (right; simp; done) | focus (right; simp; omega) | (apply Upd.trans; rotate_left; assumption)))
      (first
        | ((go_at_call 157; (with_reducible refine (ksp _ (by (repeat (first | assumption | exact Upd.refl _ _ | refine Upd.alloc ?_ _ | refine Upd.drew ?_ | refine Upd.drewN ?_ _ | refine Upd.setCell ?_ ?_ _ | focus (left; simp; done) | focus (right; simp; done) | focus (right; simp; omega))))).mono ?_)); rintro e w3 ⟨v3, rfl, hL3, hF3, hu3⟩; (have hu3a : Upd [B.ba] wc w3 := Upd.trans (by (repeat (first | assumption | exact Upd.refl _ _ | refine Upd.alloc ?_ _ | refine Upd.drew ?_ | refine Upd.drewN ?_ _ | refine Upd.setCell ?_ ?_ _ | focus (left; simp; done) | focus (right; simp; done) | focus (right; simp; omega)))) hu3); (have hu3b : Upd (B.c :: B.ba :: gr :: S.blk A.cs.length) wc w3 := hu3a.mono (by simp)); (have hM3 := HB.out _ hu3a hF3); obtain ⟨a3, c3, hv3, hl3, hc3⟩ := (show ∃ a c, v3 = .slice a (G.F.k x).length c ∧ True ∧ True from (by obtain ⟨a, c, e, _⟩ := hL3.open; exact ⟨a, c, e, trivial, trivial⟩)); subst hv3; (have ka3 := fun W (hW : Upd [] w3 W) => ka W _ (hM3.upd0 hW) (SlI.upd (SlI.of_lst (F := B.c :: B.ba :: (splitS S x).blk A.cs.length) hL3 (fun g hg => Nat.lt_of_lt_of_le (HLT.out g hg) (Upd.size (S := []) (w := wc) (by (repeat (first | assumption | exact Upd.refl _ _ | refine Upd.alloc ?_ _ | refine Upd.drew ?_ | refine Upd.drewN ?_ _ | refine Upd.setCell ?_ ?_ _ | focus (left; simp; done) | focus (right; simp; done) | focus (right; simp; omega))))))) hW (by simp))))
        | ((go_at_call 70; (with_reducible refine (ka3 _ (by (repeat (first | assumption | exact Upd.refl _ _ | refine Upd.alloc ?_ _ | refine Upd.drew ?_ | refine Upd.drewN ?_ _ | refine Upd.setCell ?_ ?_ _ | focus (left; simp; done) | focus (right; simp; done) | focus (right; simp; omega))))).mono ?_)); rintro e w4 ⟨S4, vo, rfl, hS4, hM4, hu4, hb4, hx4⟩; (have hu4b : Upd (B.c :: B.ba :: gr :: S.blk A.cs.length) wc w4 := Upd.trans (by (repeat (first | assumption | exact Upd.refl _ _ | refine Upd.drew ?_ | refine Upd.alloc ?_ _ | refine Upd.setCell ?_ ?_ _ | focus (left; simp; done) | focus (right; simp; done) | focus (right; simp; omega) | (apply Upd.trans; rotate_left; assumption)))) (hu4.mono HSUB.out))))
    have h04 := hM4.h0
    have hnF := HM.out.d1.1
    have hbF : w.heap.size ∉ F := fun hm => by have := HM.out.cells.lt _ hm; omega
    have r5 : ∀ W, Upd F w4 W → W.cell? ⟨B.n0, 0, none⟩ = some (.pointer (some ⟨B.c, 0, none⟩)) := fun W hW => hW.kept h04 hnF
    have r6 : ∀ W, Upd F w4 W → W.cell? ⟨w.heap.size, 0, none⟩ = some (.int .i64 (x : Int)) := fun W hW => hW.kept (r0 _ hu4b) hbF
    have kdr := fun W (hW : Upd [] w4 W) => cdrop_yes (hM4.cells.upd0 hW) x ((inN_nat _ _).2 ⟨hx, hin⟩)
    have HM4 := Lib.hid hM4
    clear hM4 h04 r0 r1 ka ksp ka3 hM3 hL3 hF3
    go_wp2
    go_region_held3 (Upd F w4) (repeat (first | assumption | exact Upd.refl _ _ | refine Upd.drew ?_ | refine Upd.alloc ?_ _ | refine Upd.setCell ?_ ?_ _ | focus (left; simp; done) | focus (right; simp; done) | focus (right; simp; omega) | (apply Upd.trans; rotate_left; assumption)))
      (first
        | ((go_at_call 87; (with_reducible refine (kdr _ (by (repeat (first | assumption | exact Upd.refl _ _ | refine Upd.alloc ?_ _ | refine Upd.drew ?_ | refine Upd.drewN ?_ _ | refine Upd.setCell ?_ ?_ _ | focus (left; simp; done) | focus (right; simp; done) | focus (right; simp; omega))))).mono ?_)); rintro e w5 ⟨rfl, hC5, hu5⟩; (have hu5b : Upd F w4 w5 := Upd.trans (by (repeat (first | assumption | exact Upd.refl _ _ | refine Upd.drew ?_ | refine Upd.alloc ?_ _ | refine Upd.setCell ?_ ?_ _ | focus (left; simp; done) | focus (right; simp; done) | focus (right; simp; omega) | (apply Upd.trans; rotate_left; assumption)))) hu5)))
    go_wp2
    go_ret
    obtain ⟨T1, t1, t2, t3, t4, t5, eL, eF, X⟩ := HX.out
    have dl := drop_len A (x : Int)
    have dh := drop_hs A (x : Int)
    have hM5 := HM4.out.setC hu5b hC5 (fun y hy => Or.inl hy) dl (by rw [dh])
    have eR1 : setR G.R h (l1 ++ l2) h = l1 ++ l2 := by simp [setR]
    have eT : (takeB' G h x).R = setR G.R h (l1 ++ l2) := by unfold takeB'; rw [eL]
    have eTF : (takeB' G h x).F = (splitS S x).f := by rw [split_f, eF]; rfl
    have e1 : (takeG A h x G).R = setR (setR G.R h (l1 ++ l2)) h (carC (aheadN A) A.cs.length (splitS S x).f (setR G.R h (l1 ++ l2) h) (G.F.k x)).O := by unfold takeG addG; rw [eT, eTF]
    have e2 : (takeG A h x G).F = S4.f := by rw [hS4]; unfold takeG addG; rw [eT, eTF]
    have e3 : takeQ A h x G = (carC (aheadN A) A.cs.length (splitS S x).f (setR G.R h (l1 ++ l2) h) (G.F.k x)).q := by unfold takeQ; rw [eT, eTF]
    have uw : Upd (B.blk F gr A.cs.length S vs) w w5 := by
      have m1 : ∀ y, y ∈ gr :: (Value.slice a rl cap).ownBlock.toList → y ∈ B.blk F gr A.cs.length S vs := fun y hy => by
        simp only [BB.blk, List.mem_cons, List.mem_append] at hy ⊢
        rcases hy with e | e
        · exact Or.inr (Or.inr (Or.inr (Or.inl e)))
        · exact Or.inr (Or.inr (Or.inr (Or.inr (Or.inr (Or.inr (mem_rblk.2 ⟨h, hq, by rw [HV.out]; simpa using e⟩))))))
      have m2 : ∀ y, y ∈ B.c :: B.ba :: gr :: S.blk A.cs.length → y ∈ B.blk F gr A.cs.length S vs := fun y hy => by
        simp only [BB.blk, List.mem_cons, List.mem_append] at hy ⊢
        rcases hy with e | e | e | e
        · exact Or.inr (Or.inr (Or.inr (Or.inr (Or.inl (by rw [e]; exact HM.out.cells.mem)))))
        · exact Or.inr (Or.inr (Or.inl e))
        · exact Or.inr (Or.inr (Or.inr (Or.inl e)))
        · exact Or.inr (Or.inr (Or.inr (Or.inr (Or.inr (Or.inl e)))))
      have m3 : ∀ y, y ∈ F → y ∈ B.blk F gr A.cs.length S vs := fun y hy => by simp [BB.blk, hy]
      exact ((hu2.mono m1).trans (hu4b.mono m2)).trans (hu5b.mono m3)
    refine ⟨rfl, B.blk F gr (dropN A x).cs.length S4 ((vs.set h v1).set h vo), ⟨B, F, gr, cr, lo, S4, (vs.set h v1).set h vo, rfl, rfl, by rw [e1, e3]; exact hM5, e2.symm⟩, uw, fun y hy => ?_⟩
    have hsz := hu2.size
    rw [dl] at hy
    simp only [BB.blk, List.mem_cons, List.mem_append] at hy ⊢
    rcases hy with e | e | e | e | e | e | e
    · exact Or.inl (Or.inl e)
    · exact Or.inl (Or.inr (Or.inl e))
    · exact Or.inl (Or.inr (Or.inr (Or.inl e)))
    · exact Or.inl (Or.inr (Or.inr (Or.inr (Or.inl e))))
    · exact Or.inl (Or.inr (Or.inr (Or.inr (Or.inr (Or.inl e)))))
    · rcases hb4 y e with h' | h'
      · exact Or.inl (Or.inr (Or.inr (Or.inr (Or.inr (Or.inr (Or.inl (splitS_blk S x _ y h')))))))
      · right
        have := hu3b.size
        omega
    · obtain ⟨k, hk, hk2⟩ := mem_rblk.1 e
      rw [List.length_set, List.length_set] at hk
      rw [getDv_set, getDv_set] at hk2
      by_cases ek : k = h
      · rw [if_pos ⟨ek, by rw [List.length_set]; exact hq⟩] at hk2
        right
        have := hx4 y hk2
        have := hu3b.size
        omega
      · rw [if_neg (fun h => ek h.1), if_neg (fun h => ek h.1)] at hk2
        exact Or.inl (Or.inr (Or.inr (Or.inr (Or.inr (Or.inr (Or.inr (mem_rblk.2 ⟨k, hk, hk2⟩)))))))
end
end Go.Proofs.Ytighgbdijagolaa

set_option linter.unusedVariables false
set_option linter.unusedSimpArgs false
namespace Go.Proofs.Ytighgbdijagolaa
open Go Go.RowKit

section
variable {w : World} {B : BB} {F : List Nat} {gr cr lo : Nat} {A : NS} {st : Nat} {S : CS} {vs : List Value} {G : BG} {R : Nat → List Int}
theorem BnM.setSt {w' : World} {st' : Nat} (h : BnM w B F gr cr lo A st S vs R) (hu : Upd [B.c] w w') (hC : CellsAt w' B.c F A st') : BnM w' B F gr cr lo A st' S vs R :=
  h.setC (hu.mono (fun x hx => by simp at hx; subst hx; exact h.cells.mem)) hC (fun x hx => Or.inl hx) rfl rfl
/-- How often Min asks. -/
def minC (A : NS) (G : BG) (h : Int) : Nat := if hasN A h then (G.R h.toNat).length - 1 else 0
set_option maxHeartbeats 2000000 in
theorem bmin_any (M : BnM w B F gr cr lo A st S vs G.R) (I : BnI A G) (h : Int) :
    Calls Try.prog 145 #[.pointer (some ⟨B.n0, 0, none⟩), .int .i64 h] w fun e w' => e = .returned (.tuple #[.int .i64 (slotV (minN A h)), .bool (minN A h).isSome]) ∧ BnM w' B F gr cr lo A (satS st (minC A G h)) S vs G.R ∧ Upd [B.c] w w' := by
  have hst := M.cells.st62
  cases hh : hasN A h with
  | false =>
    have e : minN A h = none := by
      by_cases h1 : 0 < h
      · exact (minN_none h1).2 (lenN_zero M.cells.ok hh)
      · exact minN_neg h1
    have e2 : minC A G h = 0 := by unfold minC; rw [hh]; rfl
    rw [e, e2, satS_zero hst]
    have kr := brow_no M h hh
    have HM := Lib.hid M
    clear M I hh e e2
    go_enter Try.func145, Try.ntmps145
    go_wp2_with ((go_at_call 56; (with_reducible refine (kr).mono ?_); rintro e w9 ⟨rfl, hw9⟩; rw [hw9]; clear hw9 w9))
    go_ret2
    exact ⟨rfl, HM.out, Upd.refl _ _⟩
  | true =>
    obtain ⟨q, rfl, hq1, hq⟩ := M.hq hh
    have e2 : minC A G (q : Int) = (G.R q).length - 1 := by unfold minC; rw [hh]; simp
    obtain ⟨a, cap, hv, hl1, hl2⟩ := M.shape hq
    have kr := brow_yes M q hh hv
    have hsl : SlI w [B.c] (vs.getD q undef) (G.R q) := (M.each q hq).sl (fun g hg hm => by simp at hm; subst hm; exact (M.d4 q _ hq hg).2.2.2.2.1 M.cells.mem)
    rw [hv] at hsl
    rw [e2]
    cases hR : G.R q with
    | nil =>
      rw [bn_none I hq1 hR]
      rw [hR] at kr hsl
      simp only [List.length_nil] at kr ⊢
      rw [satS_zero hst]
      have HM := Lib.hid M
      clear M I hh hR e2 hv hsl
      go_enter Try.func145, Try.ntmps145
      go_wp2_with ((go_at_call 56; (with_reducible refine (kr).mono ?_); rintro e w9 ⟨rfl, hw9⟩; rw [hw9]; clear hw9 w9))
      go_ret2
      exact ⟨rfl, HM.out, Upd.refl _ _⟩
    | cons x t =>
      obtain ⟨m, hb, hm, _⟩ := bn_min I hq1 hR
      rw [hm]
      rw [hR] at kr hsl hl1
      simp only [List.length_cons] at kr hsl hl1 ⊢
      have hin : ∀ z, z ∈ x :: t → ∃ y : Nat, z = y ∧ inN A z = true := fun z hz => by
        obtain ⟨y, e, _, i, _⟩ := bn_in I (h := q) (z := z) (by rw [hR]; exact hz)
        exact ⟨y, e, i⟩
      obtain ⟨g, off, rfl, hgl, hgF, hc0⟩ := hsl.head
      have hta := (show SlI w [B.c] (.slice (some ⟨g, off, none⟩) (t.length + 1) cap) (x :: t) from hsl).tail
      have hsr := fun W => run_tail W (some ⟨g, off, none⟩) (t.length + 1) cap (by omega) (by omega)
      obtain ⟨a3, hta3⟩ := tail_shape (some ⟨g, off, none⟩) (t.length + 1) cap
      rw [hta3] at hsr hta
      simp only [Nat.add_sub_cancel] at hsr hta ⊢
      have h0 := M.h0
      have hn0 : B.n0 ∉ [B.c] := by simp; exact M.cn.1
      have HM := Lib.hid M
      have HT := Lib.hid hta
      have HI := Lib.hid (And.intro hin hb)
      have hC := M.cells
      have hz : satS st 0 = st := satS_zero hst
      clear M I hh hR e2 hv hsl hta hin hb hm hta3
      generalize htl : t.length = tl at *
      have HTL := Lib.hid htl
      have hne0 : ((tl : Int) + 1 == 0) = false := beq_eq_false_iff_ne.2 (by omega)
      clear htl
      go_enter Try.func145, Try.ntmps145
      go_wp2_with ((go_at_call 56; (with_reducible refine (kr).mono ?_); rintro e w9 ⟨rfl, hw9⟩; rw [hw9]; clear hw9 w9))
      go_loopw [7, 22] (fun s7 s22 wr => ∃ (j : Nat) (b : Int), j ≤ tl ∧ s22 = .int .i64 (j : Int) ∧ s7 = .int .i64 b ∧ best2 (aheadN A) b (t.drop j) = best2 (aheadN A) x t ∧ (∃ y : Nat, b = y ∧ inN A b = true) ∧ CellsAt wr B.c F A (satS st j) ∧ Upd [B.c] w wr) (fun _ s22 _ => tl - (intOf s22).toNat)
      case atStart => exact ⟨0, x, by omega, rfl, rfl, by simp, HI.out.1 x (by simp), by rw [hz]; exact hC, Upd.refl _ _⟩
      case round =>
        obtain ⟨j, b, hj, rfl, rfl, hbb, hib, hCj, hu⟩ := hrel
        rename World => wr
        by_cases hjt : j < tl
        · obtain ⟨y, hyy⟩ : ∃ y, t[j]? = some y := ⟨t[j]'(by rw [HTL.out]; exact hjt), by simp⟩
          have hd : t.drop j = y :: t.drop (j + 1) := by
            obtain ⟨hl, e⟩ := List.getElem?_eq_some_iff.1 hyy
            rw [List.drop_eq_getElem_cons hl, e]
          obtain ⟨a4, c4, e4, _, _, h4⟩ := HT.out
          have ea : a3 = a4 := by injection e4
          subst ea
          obtain ⟨g4, o4, rfl, _, hg4, hc4⟩ := h4 j y hyy
          have hc5 := hu.kept hc4 hg4
          obtain ⟨yn, rfl, hiy⟩ := HI.out.1 y (List.mem_cons_of_mem _ (List.mem_of_getElem? hyy))
          obtain ⟨bn, rfl, hbn⟩ := hib
          have ka := cahead_yes hCj yn bn hiy hbn
          have h05 := hu.kept h0 hn0
          have hjI : (j : Int) < (tl : Int) := by omega
          have hw1 : IntKind.i64.wrap ((j : Int) + 1) = (j : Int) + 1 := IntWalk.i64_in _ (by omega)
          have eah : aheadN A (yn : Int) (bn : Int) = decide (lt3 A yn bn) := by rw [ahead_nat, hiy, hbn]; simp
          have hnx : ∀ b' : Int, b' = (if aheadN A (yn : Int) (bn : Int) then (yn : Int) else (bn : Int)) → best2 (aheadN A) b' (t.drop (j + 1)) = best2 (aheadN A) x t := fun b' e => by rw [← hbb, hd, e]; rfl
          have HN := Lib.hid (And.intro hnx (And.intro hiy hbn))
          have hse : satS (satS st j) 1 = satS st (j + 1) := satS_add st j 1
          rw [← eah] at ka
          clear hCj hbb hd h4 hyy hc4 hiy hbn eah hnx e4
          cases hab : aheadN A (yn : Int) (bn : Int) with
          | true =>
            rw [hab] at ka
            have HAB := Lib.hid hab
            clear hab
            go_wp2_with ((go_at_call 104; (with_reducible refine (ka).mono ?_)); rintro e w2 ⟨rfl, hC2, hu2⟩)
            go_roundw
            case rel => exact ⟨j + 1, yn, by omega, by go_num, rfl, HN.out.1 _ (by rw [HAB.out]; rfl), ⟨yn, rfl, HN.out.2.1⟩, by rw [← hse]; exact hC2, hu.trans hu2⟩
            case measure => simp [intOf]; omega
          | false =>
            rw [hab] at ka
            have HAB := Lib.hid hab
            clear hab
            go_wp2_with ((go_at_call 104; (with_reducible refine (ka).mono ?_)); rintro e w2 ⟨rfl, hC2, hu2⟩)
            go_roundw
            case rel => exact ⟨j + 1, bn, by omega, by go_num, rfl, HN.out.1 _ (by rw [HAB.out]; rfl), ⟨bn, rfl, HN.out.2.2⟩, by rw [← hse]; exact hC2, hu.trans hu2⟩
            case measure => simp [intOf]; omega
        · obtain rfl : j = tl := by omega
          have hbf : b = (m : Int) := by
            rw [List.drop_of_length_le (by rw [HTL.out]; omega)] at hbb
            have e : best2 (aheadN A) b [] = b := rfl
            rw [e, HI.out.2] at hbb
            exact hbb
          have HB := Lib.hid hbf
          have HC := Lib.hid hCj
          clear hbb hib hbf hCj
          go_wp2
          go_ret2
          exact ⟨by rw [HB.out]; rfl, HM.out.setSt hu HC.out, hu⟩
end
end Go.Proofs.Ytighgbdijagolaa

set_option linter.unusedVariables false
set_option linter.unusedSimpArgs false
namespace Go.Proofs.Ytighgbdijagolaa
open Go Go.RowKit

def BnK (w : World) (p : Nat) (FF : List Nat) (A : NS) (st : Nat) (G : BG) : Prop := BnAt w p FF A st G ∧ BnI A G
theorem bn_first {A : NS} {G : BG} (I : BnI A G) (ok : A.Ok) {q : Int} {m : Nat} (hm : minN A q = some m) : ∃ k : Nat, q = k ∧ 1 ≤ k ∧ hasN A q = true ∧ m < A.cs.length ∧ G.F.u m = -1 ∧ (A.c m).i = k := by
  have hq : 0 < q := by
    apply Classical.byContradiction
    intro h
    rw [minN_neg h] at hm; cases hm
  obtain ⟨k, rfl⟩ : ∃ k : Nat, q = k := ⟨q.toNat, by omega⟩
  have hf := (minN_some hq).1 hm
  have hh : hasN A (k : Int) = true := by
    have := inN_has ok ((inN_nat A m).2 ⟨hf.1, by rw [hf.2.1]; omega⟩)
    rw [Int.toNat_natCast, hf.2.1] at this
    exact this
  cases hR : G.R k with
  | nil => rw [bn_none I (by omega) hR] at hm; cases hm
  | cons x t =>
    obtain ⟨m', _, h2, h3, h4, h5⟩ := bn_min I (show 1 ≤ k by omega) hR
    rw [hm] at h2
    cases h2
    exact ⟨k, rfl, by omega, hh, h3, h4, h5⟩
/-- Steps of Extract, and what is behind it. -/
def extC (A : NS) (q : Int) (G : BG) : Nat := minC A G q + (match minN A q with | some m => takeQ A q.toNat m G | none => 0)
def extG (A : NS) (q : Int) (G : BG) : BG := match minN A q with | some m => takeG A q.toNat m G | none => G
section
variable {w : World} {p : Nat} {FF : List Nat} {A : NS} {st : Nat} {G : BG}
theorem bextract_any (h : BnK w p FF A st G) (q : Int) :
    Calls Try.prog 143 #[.pointer (some ⟨p, 0, none⟩), .int .i64 q] w fun e w' => e = .returned (.tuple #[.int .i64 (slotV (minN A q)), .bool (minN A q).isSome]) ∧ Goes FF w w' (fun FF' => BnK w' p FF' (extN A q) (satS st (extC A q G)) (extG A q G)) := by
  obtain ⟨⟨B, F, gr, cr, lo, S, vs, rfl, rfl, M, eF⟩, I⟩ := h
  have km := bmin_any M I q
  have hcF : ∀ y, y ∈ [B.c] → y ∈ B.blk F gr A.cs.length S vs := fun y hy => by
    simp at hy; subst hy
    simp [BB.blk, M.cells.mem]
  have hst := M.cells.st62
  cases hm : minN A q with
  | none =>
    rw [hm] at km
    simp only [slotV, Option.isSome_none] at km ⊢
    have e1 : extC A q G = minC A G q := by unfold extC; rw [hm]; rfl
    have e2 : extG A q G = G := by unfold extG; rw [hm]
    have e3 : extN A q = A := by unfold extN; rw [hm]
    rw [e1, e2, e3]
    have HI := Lib.hid (And.intro I (And.intro eF hcF))
    clear M I hm e1 e2 e3 eF hcF
    go_enter Try.func143, Try.ntmps143
    go_wp2_with ((go_at_call 145; (with_reducible refine (km).mono ?_)); rintro e w1 ⟨rfl, hM1, hu1⟩)
    go_ret2
    exact ⟨rfl, Goes.stay ⟨⟨B, F, gr, cr, lo, S, vs, rfl, rfl, hM1, HI.out.2.1⟩, HI.out.1⟩ (hu1.mono HI.out.2.2)⟩
  | some m =>
    rw [hm] at km
    simp only [slotV, Option.isSome_some] at km ⊢
    obtain ⟨k, rfl, hk1, hh, m1, m2, m3⟩ := bn_first I M.cells.ok hm
    have e1 : extC A (k : Int) G = minC A G (k : Int) + takeQ A k m G := by unfold extC; rw [hm]; simp
    have e2 : extG A (k : Int) G = takeG A k m G := by unfold extG; rw [hm]; simp
    have e3 : extN A (k : Int) = dropN A (m : Int) := by unfold extN; rw [hm]
    rw [e1, e2, e3]
    obtain ⟨k', hk', _, hkv⟩ := M.hq hh
    obtain rfl : k = k' := by omega
    have X := I.x m1
    have kt := fun W (hM : BnM W B F gr cr lo A (satS st (minC A G (k : Int))) S vs G.R) => btake_any hM eF X m1 m2 (by rw [m3]; omega) m3 hkv
    have T := (take_bn X M.cells.ok m1 m2 (by rw [m3]; omega) m3).1
    have HI := Lib.hid (And.intro T hcF)
    clear M I hm e1 e2 e3 eF hcF X T m1 m2 m3 hh hk'
    go_enter Try.func143, Try.ntmps143
    go_wp2_with (first
      | ((go_at_call 145; (with_reducible refine (km).mono ?_)); rintro e w1 ⟨rfl, hM1, hu1⟩; (have kt1 := kt _ hM1); (have hs1 := hu1.size))
      | ((go_at_call 150; (with_reducible refine (kt1).mono ?_)); rintro e w2 ⟨rfl, FF2, hK2, hu2, hf2⟩)
      | fail)
    go_ret2
    rw [satS_add] at hK2
    refine ⟨rfl, FF2, ⟨hK2, HI.out.1⟩, (hu1.mono HI.out.2).trans hu2, fun y hy => ?_⟩
    rcases hf2 y hy with h' | h'
    · exact Or.inl h'
    · exact Or.inr (by omega)
theorem blk_F {B : BB} {F : List Nat} {gr n : Nat} {S : CS} {vs : List Value} : ∀ y, y ∈ F → y ∈ B.blk F gr n S vs := fun y hy => by simp [BB.blk, hy]
/-- What the blocks of a nest are behind an add. -/
theorem setR_swap {R : Nat → List Int} {a b : Nat} (h : a ≠ b) (O X : List Int) : setR (setR R a O) b X = setR (setR R b X) a O := by
  funext k
  unfold setR
  by_cases e : k = b
  · rw [if_pos e, if_neg (fun e2 => h (by omega)), if_pos e]
  · rw [if_neg e]
    by_cases e2 : k = a
    · rw [if_pos e2, if_pos e2]
    · rw [if_neg e2, if_neg e2, if_neg e]
theorem blk_add {w : World} {B : BB} {F F' : List Nat} {gr n : Nat} {S S' : CS} {vs : List Value} {q : Nat} {vo : Value} (hF : ∀ y, y ∈ F' → y ∈ F) (hb : ∀ g, g ∈ S'.blk n → g ∈ S.blk n ∨ w.heap.size ≤ g) (hv : ∀ g, vo.ownBlock = some g → w.heap.size ≤ g) :
    ∀ y, y ∈ B.blk F' gr n S' (vs.set q vo) → y ∈ B.blk F gr n S vs ∨ w.heap.size ≤ y := fun y hy => by
  simp only [BB.blk, List.mem_cons, List.mem_append] at hy ⊢
  rcases hy with e | e | e | e | e | e | e
  · exact Or.inl (Or.inl e)
  · exact Or.inl (Or.inr (Or.inl e))
  · exact Or.inl (Or.inr (Or.inr (Or.inl e)))
  · exact Or.inl (Or.inr (Or.inr (Or.inr (Or.inl e))))
  · exact Or.inl (Or.inr (Or.inr (Or.inr (Or.inr (Or.inl (hF y e))))))
  · rcases hb y e with h' | h'
    · exact Or.inl (Or.inr (Or.inr (Or.inr (Or.inr (Or.inr (Or.inl h'))))))
    · exact Or.inr h'
  · obtain ⟨k, hk, hk2⟩ := mem_rblk.1 e
    rw [List.length_set] at hk
    rw [getDv_set] at hk2
    by_cases ek : k = q ∧ q < vs.length
    · rw [if_pos ek] at hk2
      exact Or.inr (hv y hk2)
    · rw [if_neg ek] at hk2
      exact Or.inl (Or.inr (Or.inr (Or.inr (Or.inr (Or.inr (Or.inr (mem_rblk.2 ⟨k, hk, hk2⟩)))))))
theorem blk_c {w : World} {B : BB} {F : List Nat} {gr cr lo : Nat} {S : CS} {vs : List Value} {R : Nat → List Int} (M : BnM w B F gr cr lo A st S vs R) : ∀ y, y ∈ B.c :: B.ba :: gr :: S.blk A.cs.length → y ∈ B.blk F gr A.cs.length S vs := fun y hy => by
  simp only [BB.blk, List.mem_cons, List.mem_append] at hy ⊢
  rcases hy with e | e | e | e
  · exact Or.inr (Or.inr (Or.inr (Or.inr (Or.inl (by rw [e]; exact M.cells.mem)))))
  · exact Or.inr (Or.inr (Or.inl e))
  · exact Or.inr (Or.inr (Or.inr (Or.inl e)))
  · exact Or.inr (Or.inr (Or.inr (Or.inr (Or.inr (Or.inl e)))))
set_option maxHeartbeats 2000000 in
theorem binsert_yes (h : BnK w p FF A st G) (q x : Nat) (k s : Int) (hk : -9223372036854775808 ≤ k ∧ k ≤ 9223372036854775807 ∧ 0 ≤ s ∧ s ≤ 18446744073709551615) (hB : putB A q x = true) :
    Calls Try.prog 43 #[.pointer (some ⟨p, 0, none⟩), .int .i64 (q : Int), .int .i64 (x : Int), .agg #[.int .i64 k, .int .u64 s]] w fun e w' => e = .returned (.bool true) ∧
      Goes FF w w' (fun FF' => BnK w' p FF' (putN A q x k s) (satS st (putQ (putN A q x k s) q x G)) (putG (putN A q x k s) q x G)) := by
  obtain ⟨⟨B, F, gr, cr, lo, S, vs, rfl, rfl, M, eF⟩, I⟩ := h
  have ok := M.cells.ok
  obtain ⟨I2, _, t2, t3, t4, hcs⟩ := put_bn (h := q) (x := x) k s I ok hB
  have hhs : (putN A q x k s).hs.length = A.hs.length := by unfold putN; split; rfl; rfl
  have hasq := ((putB_iff _ _ _).1 hB).1
  obtain ⟨q', e, hq1, hqv⟩ := M.hq hasq
  obtain rfl : q = q' := by omega
  have u1 : Upd [] w (w.alloc (.cells #[.int .i64 k, .int .u64 s] 57)) := (Upd.refl _ _).alloc _
  have kp := fun W (hW : Upd [] (w.alloc (.cells #[.int .i64 k, .int .u64 s] 57)) W) => cput_yes (M.cells.upd0 (u1.trans hW)) q x k s hk hB
  have h0 := M.h0
  have hbF : B.n0 ∉ F := M.d1.1
  have hsz : w.heap.size ∉ F := fun hm => by have := M.cells.lt _ hm; omega
  have r0 : ∀ W, Upd F (w.alloc (.cells #[.int .i64 k, .int .u64 s] 57)) W → W.cell? ⟨B.n0, 0, none⟩ = some (.pointer (some ⟨B.c, 0, none⟩)) := fun W hW => hW.kept (u1.was h0) hbF
  have r1 : ∀ W, Upd F (w.alloc (.cells #[.int .i64 k, .int .u64 s] 57)) W → W.cell? ⟨w.heap.size, 0, none⟩ = some (.int .i64 k) := fun W h => h.kept (by simp) hsz
  have r2 : ∀ W, Upd F (w.alloc (.cells #[.int .i64 k, .int .u64 s] 57)) W → W.cell? ⟨w.heap.size, 1, none⟩ = some (.int .u64 s) := fun W h => h.kept (by simp) hsz
  have hrow := I.rh.row q
  have ka := fun (W : World) (hM : BnM W B F gr cr lo (putN A q x k s) st S vs G.R) (vl : Value) (hvl : SlI W (B.c :: B.ba :: S.blk (putN A q x k s).cs.length) vl [(x : Int)]) => badd_any hM (by rw [hcs, eF]; exact I.fh.f) q hqv hvl (by rw [hcs, eF]; exact hrow) (by rw [hcs, eF]; exact t2) t3 t4
  have HM := Lib.hid M
  have HI := Lib.hid (And.intro I2 (And.intro eF (And.intro hcs hhs)))
  clear M I ok I2 t2 t3 t4 hcs hhs eF hrow h0 hB
  generalize hA' : putN A q x k s = A' at *
  go_enter Try.func43, Try.ntmps43
  go_wp2
  go_region_held3 (Upd F (w.alloc (.cells #[.int .i64 k, .int .u64 s] 57))) (repeat (first | assumption | exact Upd.refl _ _ | refine Upd.drew ?_ | refine Upd.alloc ?_ _ | refine Upd.setCell ?_ ?_ _ | focus (left; simp; done) | focus (right; simp; done) | focus (right; simp; omega) | (apply Upd.trans; rotate_left; assumption)))
    (first
      | ((go_at_call 69; (with_reducible refine (kp _ (by (repeat (first | assumption | exact Upd.refl _ _ | refine Upd.alloc ?_ _ | refine Upd.drew ?_ | refine Upd.drewN ?_ _ | refine Upd.setCell ?_ ?_ _ | focus (left; simp; done) | focus (right; simp; done) | focus (right; simp; omega))))).mono ?_)); rintro e w1 ⟨rfl, hC1, hu1⟩; (have hu2 : Upd F (w.alloc (.cells #[.int .i64 k, .int .u64 s] 57)) w1 := by (repeat (first | assumption | exact Upd.refl _ _ | refine Upd.drew ?_ | refine Upd.alloc ?_ _ | refine Upd.setCell ?_ ?_ _ | focus (left; simp; done) | focus (right; simp; done) | focus (right; simp; omega) | (apply Upd.trans; rotate_left; assumption))))))
  have uF : Upd F w w1 := (u1.mono (by simp)).trans hu2
  have hM1 := HM.out.setC uF hC1 (fun y hy => Or.inl hy) HI.out.2.2.1 HI.out.2.2.2
  have hsz1 := uF.size
  have hlt1 : ∀ y, y ∈ B.c :: B.ba :: S.blk A'.cs.length → y < w1.heap.size := fun y hy => by
    simp only [List.mem_cons] at hy
    rcases hy with e | e | e
    · subst e; exact hM1.cells.lt _ hM1.cells.mem
    · subst e; exact hM1.cubes.row.lt
    · exact (hM1.cubes.blk_lo e).2
  have ka1 := fun (W : World) (hW : Upd [] w1 W) (vl : Value) => ka W (hM1.upd0 hW) vl
  have HL := Lib.hid hlt1
  clear kp r0 r1 r2 hM1 hlt1 ka
  go_wp2_with (first
    | ((go_at_call 70; (with_reducible refine (ka1 _ (by (repeat (first | assumption | exact Upd.refl _ _ | refine Upd.alloc ?_ _ | refine Upd.drew ?_ | refine Upd.drewN ?_ _ | refine Upd.setCell ?_ ?_ _ | focus (left; simp; done) | focus (right; simp; done) | focus (right; simp; omega)))) _ ((OwnOff.lit w1 0 (x : Int) (Nat.zero_le _)).sl (fun g hg hm => by have := HL.out g hm; simp [Value.ownBlock] at hg; omega))).mono ?_)); rintro e w2 ⟨S2, vo, rfl, hS2, hM2, hu3, hb2, hx2⟩)
    | fail)
  go_ret
  have eF := HI.out.2.1
  have hcs := HI.out.2.2.1
  have uw : Upd (B.blk F gr A.cs.length S vs) w w2 := by
    refine ((uF.mono blk_F).alloc _).trans (hu3.mono (fun y hy => ?_))
    rw [hcs] at hy
    exact blk_c HM.out y hy
  refine ⟨rfl, B.blk F gr A'.cs.length S2 (vs.set q vo), ⟨⟨B, F, gr, cr, lo, S2, _, rfl, rfl, by unfold putQ putG addG; rw [← eF]; exact hM2, by rw [hS2, eF]; rfl⟩, HI.out.1⟩, uw, fun y hy => ?_⟩
  rw [hcs] at hy hb2
  exact blk_add (w := w) (fun _ h => h) (fun g hg => (hb2 g hg).imp id (fun h => by simp at h; omega)) (fun g hg => by have := hx2 g hg; simp at this; omega) y hy
theorem binsert_no (h : BnK w p FF A st G) (q x k s : Int) (hB : putB A q x = false) :
    Calls Try.prog 43 #[.pointer (some ⟨p, 0, none⟩), .int .i64 q, .int .i64 x, .agg #[.int .i64 k, .int .u64 s]] w fun e w' => e = .returned (.bool false) ∧ Upd [] w w' := by
  obtain ⟨⟨B, F, gr, cr, lo, S, vs, rfl, rfl, M, eF⟩, I⟩ := h
  have u1 : Upd [] w (w.alloc (.cells #[.int .i64 k, .int .u64 s] 57)) := (Upd.refl _ _).alloc _
  have kp := fun W (hW : Upd [] (w.alloc (.cells #[.int .i64 k, .int .u64 s] 57)) W) => cput_no (M.cells.upd0 (u1.trans hW)) q x k s hB
  have h0 := M.h0
  have r0 : ∀ W, Upd [] (w.alloc (.cells #[.int .i64 k, .int .u64 s] 57)) W → W.cell? ⟨B.n0, 0, none⟩ = some (.pointer (some ⟨B.c, 0, none⟩)) := fun W hW => hW.was (u1.was h0)
  have r1 : ∀ W, Upd [] (w.alloc (.cells #[.int .i64 k, .int .u64 s] 57)) W → W.cell? ⟨w.heap.size, 0, none⟩ = some (.int .i64 k) := fun W h => h.was (by simp)
  have r2 : ∀ W, Upd [] (w.alloc (.cells #[.int .i64 k, .int .u64 s] 57)) W → W.cell? ⟨w.heap.size, 1, none⟩ = some (.int .u64 s) := fun W h => h.was (by simp)
  clear M I eF hB h0
  go_enter Try.func43, Try.ntmps43
  go_wp2
  go_region_held3 (Upd [] (w.alloc (.cells #[.int .i64 k, .int .u64 s] 57))) (repeat (first | assumption | exact Upd.refl _ _ | refine Upd.drew ?_ | refine Upd.alloc ?_ _ | refine Upd.setCell ?_ ?_ _ | focus (left; simp; done) | focus (right; simp; done) | focus (right; simp; omega) | (apply Upd.trans; rotate_left; assumption)))
    (first
      | ((go_at_call 69; (with_reducible refine (kp _ (by (repeat (first | assumption | exact Upd.refl _ _ | refine Upd.alloc ?_ _ | refine Upd.drew ?_ | refine Upd.drewN ?_ _ | refine Upd.setCell ?_ ?_ _ | focus (left; simp; done) | focus (right; simp; done) | focus (right; simp; omega))))).mono ?_)); rintro e w1 ⟨rfl, hu1⟩; (have hu2 : Upd [] (w.alloc (.cells #[.int .i64 k, .int .u64 s] 57)) w1 := by (repeat (first | assumption | exact Upd.refl _ _ | refine Upd.drew ?_ | refine Upd.alloc ?_ _ | refine Upd.setCell ?_ ?_ _ | focus (left; simp; done) | focus (right; simp; done) | focus (right; simp; omega) | (apply Upd.trans; rotate_left; assumption))))))
  go_wp2
  go_ret
  exact ⟨rfl, u1.trans (by (repeat (first | assumption | exact Upd.refl _ _ | refine Upd.drew ?_ | refine Upd.alloc ?_ _ | refine Upd.setCell ?_ ?_ _ | focus (left; simp; done) | focus (right; simp; done) | focus (right; simp; omega) | (apply Upd.trans; rotate_left; assumption))))⟩
theorem bmeld_no (h : BnK w p FF A st G) (a b : Int) (hB : joinB A a b = false) :
    Calls Try.prog 144 #[.pointer (some ⟨p, 0, none⟩), .int .i64 a, .int .i64 b] w fun e w' => e = .returned (.bool false) ∧ w' = w := by
  obtain ⟨⟨B, F, gr, cr, lo, S, vs, rfl, rfl, M, eF⟩, I⟩ := h
  have kj := cjoin_no M.cells a b hB
  have h0 := M.h0
  clear M I eF hB
  go_enter Try.func144, Try.ntmps144
  go_wp2_with ((go_at_call 151; (with_reducible refine (kj).mono ?_); rintro e w9 ⟨rfl, hw9⟩; rw [hw9]; clear hw9 w9))
  go_ret
  exact ⟨rfl, rfl⟩
set_option maxHeartbeats 2000000 in
theorem bmeld_yes (h : BnK w p FF A st G) (a b : Nat) (hB : joinB A a b = true) :
    Calls Try.prog 144 #[.pointer (some ⟨p, 0, none⟩), .int .i64 (a : Int), .int .i64 (b : Int)] w fun e w' => e = .returned (.bool true) ∧
      Goes FF w w' (fun FF' => BnK w' p FF' (joinN A a b) (satS st (meldQ (joinN A a b) a b G)) (meldG (joinN A a b) a b G)) := by
  obtain ⟨⟨B, F, gr, cr, lo, S, vs, rfl, rfl, M, eF⟩, I⟩ := h
  have ok := M.cells.ok
  obtain ⟨I2, _, t3, t4⟩ := meld_bn I ok hB
  have hcs := joinN_len A (a : Int) (b : Int)
  have hhs : (joinN A (a : Int) (b : Int)).hs.length = A.hs.length := by unfold joinN; split <;> simp
  obtain ⟨j1, j2, j3⟩ := (joinB_iff _ _ _).1 hB
  obtain ⟨a', e, ha1, hav⟩ := M.hq j1
  obtain rfl : a = a' := by omega
  obtain ⟨b', e', hb1, hbv⟩ := M.hq j2
  obtain rfl : b = b' := by omega
  have hab : a ≠ b := fun e => j3 (by rw [e])
  have kj := cjoin_yes M.cells a b hB
  have h0 := M.h0
  obtain ⟨ab, capb, hvb, _⟩ := M.shape hbv
  have hrow := I.rh.row
  have ka := fun (W : World) (hM : BnM W B F gr cr lo (joinN A a b) st S vs G.R) => badd_any hM (by rw [hcs, eF]; exact I.fh.f) a hav (vl := vs.getD b undef) ((hM.each b hbv).sl (fun g hg hm => by
      have := hM.d4 b g hbv hg
      simp only [List.mem_cons] at hm
      rcases hm with e | e | e
      · exact this.2.2.2.2.1 (e ▸ hM.cells.mem)
      · exact this.2.2.1 e
      · exact this.2.2.2.2.2 e)) (by rw [hcs, eF]; exact hrow a) (by rw [hcs, eF]; exact hrow b) t3 t4
  rw [hvb] at ka
  have hvl := M.vlen
  have hbI : (b : Int) < (vs.length : Int) := by omega
  have hb0 : (0 : Int) ≤ (b : Int) := by omega
  have HM := Lib.hid M
  have HI := Lib.hid (And.intro I2 (And.intro eF (And.intro hcs (And.intro hhs hvb))))
  clear M I ok I2 t3 t4 hcs hhs eF hrow hB j1 j2 j3 e e' hvb
  generalize hA' : joinN A (a : Int) (b : Int) = A' at *
  generalize hrb : (G.R b).length = rb at *
  go_enter Try.func144, Try.ntmps144
  go_wp2_with (first
    | ((go_at_call 151; (with_reducible refine (kj).mono ?_)); rintro e w1 ⟨rfl, hC1, hu1⟩; (have hM1 := HM.out.setC hu1 hC1 (fun y hy => Or.inl hy) HI.out.2.2.1 HI.out.2.2.2.1); (have ka1 := ka _ hM1); (have h21 := hM1.h2); (have d1 := hM1.rowc hbv); rw [HI.out.2.2.2.2] at d1; (have HM1 := Lib.hid hM1); clear hM1 ka)
    | ((go_at_call 70; (with_reducible refine (ka1).mono ?_)); rintro e w2 ⟨S2, vo, rfl, hS2, hM2, hu2, hb2, hx2⟩; (have h22 := hM2.h2); rw [List.length_set] at h22; (have f22 := hM2.rowf b); (have d22 := hM2.rowc (q := b) (by rw [List.length_set]; exact hbv)))
    | fail)
  go_ret
  have eF := HI.out.2.1
  have hcs := HI.out.2.2.1
  have hM3 := hM2.setV b (by rw [List.length_set]; exact hbv) (.slice none 0 0) [] (OwnOff.nil _ _) (fun g hg => by cases hg)
  have eR : (meldB G b).R a = G.R a := by unfold meldB setR; simp only [if_neg hab]
  have e1 : setR (setR G.R a (carC (aheadN A') A'.cs.length S.f (G.R a) (G.R b)).O) b [] = (meldG A' a b G).R := by
    unfold meldG addG
    rw [eR, setR_swap hab, eF]
    rfl
  rw [e1] at hM3
  have uw : Upd (B.blk F gr A.cs.length S vs) w w2 := by
    refine (hu1.mono blk_F).trans (hu2.mono (fun y hy => ?_))
    rw [hcs] at hy
    exact blk_c HM.out y hy
  have hsz := hu1.size
  refine ⟨rfl, B.blk F gr A'.cs.length S2 ((vs.set a vo).set b (.slice none 0 0)), ⟨⟨B, F, gr, cr, lo, S2, _, rfl, rfl, by unfold meldQ; rw [← eF]; exact hM3, by rw [hS2, eF]; unfold meldG addG; rw [eR]; rfl⟩, HI.out.1⟩, uw.setCell (Or.inl (by simp [BB.blk])) _, fun y hy => ?_⟩
  rw [hcs] at hy hb2
  rcases blk_add (w := w) (fun _ h => h) (fun g hg => Or.inl hg) (fun g hg => by cases hg) y hy with h' | h'
  · exact blk_add (w := w) (fun _ h => h) (fun g hg => (hb2 g hg).imp id (fun h => by omega)) (fun g hg => by have := hx2 g hg; omega) y h'
  · exact Or.inr h'
end
end Go.Proofs.Ytighgbdijagolaa
