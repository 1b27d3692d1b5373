/-
  Binomial heaps: Nest.take: a root comes out of its heap. Conditions: those of each lemma.
-/
import Derived.Test.YtighgbdijagolaaBn2
import Derived.Test.YtighgbdijagolaaDel
import Derived.Deep.DeepCutAuto
import Derived.Outline
set_option linter.unusedVariables false
set_option linter.unusedSimpArgs false
namespace Go.Proofs.Ytighgbdijagolaa
open Go Go.RowKit

/-- The memory of binomial heaps, by its blocks FF. -/
def BnAt (w : World) (p : Nat) (FF : List Nat) (A : NS) (st : Nat) (G : BG) : Prop := ∃ B F gr cr lo S vs, p = B.n0 ∧ FF = B.blk F gr A.cs.length S vs ∧ BnM w B F gr cr lo A st S vs G.R ∧ S.f = G.F
theorem split_at {l : List Int} {x : Int} (hn : l.Nodup) (hx : x ∈ l) : ∃ l1 l2, l = l1 ++ x :: l2 ∧ x ∉ l1 ∧ x ∉ l2 ∧ l.filter (fun z => z != x) = l1 ++ l2 := by
  obtain ⟨l1, l2, rfl⟩ := List.append_of_mem hx
  rw [List.nodup_append, List.nodup_cons] at hn
  have h1 : x ∉ l1 := fun h => hn.2.2 x h x (by simp) rfl
  have h2 : x ∉ l2 := hn.2.1.1
  refine ⟨l1, l2, rfl, h1, h2, ?_⟩
  have f : ∀ l : List Int, x ∉ l → l.filter (fun z => z != x) = l := fun l hl => by
    rw [List.filter_eq_self]; intro a ha; simp; intro e; subst e; exact hl ha
  rw [List.filter_append, List.filter_cons_of_neg (by simp), f l1 h1, f l2 h2]
section
variable {w : World} {B : BB} {F : List Nat} {gr cr lo : Nat} {A : NS} {st : Nat} {S : CS} {vs : List Value} {G : BG}
set_option maxHeartbeats 4000000 in
/-- A root comes out of its heap. -/
theorem btake_any (M : BnM w B F gr cr lo A st S vs G.R) (eF : S.f = G.F) {x h : Nat} (X : BnX A G x) (hx : x < A.cs.length) (hr : G.F.u x = -1) (hin : 0 < (A.c x).i) (hh : (A.c x).i = h) (hq : h < vs.length) :
    Calls Try.prog 150 #[.pointer (some ⟨B.n0, 0, none⟩), .int .i64 (h : Int), .int .i64 (x : Int)] w fun e w' => e = .returned (.bool true) ∧
      Goes (B.blk F gr A.cs.length S vs) w w' (fun FF => BnAt w' B.n0 FF (dropN A x) (satS st (takeQ A h x G)) (takeG A h x G)) := by
  have ok := M.cells.ok
  obtain ⟨T1, T2, mx, t1, t2, t3, t4, t5⟩ := take_bn X ok hx hr hin hh
  have nd := (X.rh.row h).nodup
  obtain ⟨l1, l2, eR, n1, n2, eL⟩ := split_at nd mx
  have hrl : (G.R h).length ≤ 65536 := Nat.le_trans (nodup_le A.cs.length _ nd (fun z hz => ⟨((X.rh.row h).1 z hz).1, ((X.rh.row h).1 z hz).2.1⟩)) ok.c1
  obtain ⟨w0, hw0⟩ : ∃ w0, w0 = w.alloc (.cells #[.int .i64 (x : Int)] 3) := ⟨_, rfl⟩
  have hs0 : w.heap.size < w0.heap.size := by rw [hw0]; simp
  have u0 : Upd [] w w0 := by rw [hw0]; exact (Upd.refl _ _).alloc _
  have hb0 : w0.cell? ⟨w.heap.size, 0, none⟩ = some (.int .i64 (x : Int)) := by rw [hw0]; simp
  have hlt := M.lt
  have hbx : ∀ g, (vs.getD h undef).ownBlock = some g → g ≠ w.heap.size := fun g hg e => by have := M.row_lt hq hg; omega
  have kd := fun W (hW : Upd [] w0 W) => delf_any W w.heap.size 0 (vs.getD h undef) l1 l2 x (by rw [← eR]; exact (M.each h hq).upd (u0.trans hW) (by simp)) n1 n2 (hW.was hb0) (fun e => hbx _ e rfl) (by rw [← eR]; omega)
  obtain ⟨a, cap, hv, _⟩ := M.shape hq
  have h2 := M.h2
  have d := M.rowc hq
  rw [hv] at d
  have df := M.rowf h
  have n0 : B.n0 ∉ (vs.getD h undef).ownBlock.toList := fun hm => (M.d4 h _ hq (by simpa using hm)).1 rfl
  have ng : gr ∉ (vs.getD h undef).ownBlock.toList := fun hm => (M.d4 h _ hq (by simpa using hm)).2.2.2.1 rfl
  have nb : w.heap.size ∉ (vs.getD h undef).ownBlock.toList := fun hm => hbx _ (by simpa using hm) rfl
  have r2 : ∀ W, Upd (vs.getD h undef).ownBlock.toList w0 W → W.cell? ⟨B.n0, 2, none⟩ = some (.slice (some ⟨gr, 0, none⟩) vs.length cr) := fun W hW => hW.kept (u0.was h2) n0
  have r3 : ∀ W, Upd (vs.getD h undef).ownBlock.toList w0 W → W.cell? ⟨gr, h, none⟩ = some (.slice a (G.R h).length cap) ∧ W.frozen? ⟨gr, h, none⟩ = false := fun W hW => ⟨hW.kept (u0.was d) ng, hW.keptF (u0.was d) ng (u0.keptF d (by simp) df)⟩
  have r4 : ∀ W, Upd (vs.getD h undef).ownBlock.toList w0 W → W.cell? ⟨w.heap.size, 0, none⟩ = some (.int .i64 (x : Int)) := fun W hW => hW.kept hb0 nb
  have hib1 : (0 : Int) ≤ (h : Int) := by omega
  have hib2 : (h : Int) < (vs.length : Int) := by omega
  have hgl := M.gr_lt
  have hn0l := hlt B.n0 (by simp [BB.blk])
  have HM := Lib.hid M
  have HX := Lib.hid (And.intro T1 (And.intro t1 (And.intro t2 (And.intro t3 (And.intro t4 (And.intro t5 (And.intro eL (And.intro eF X))))))))
  have hvl2 := M.vlen
  rw [hv] at kd r2 r3 r4
  clear M X T1 T2 mx t1 t2 t3 t4 t5 nd eL hbx ok h2 d df n0 ng nb n1 n2 eF hlt
  have HV := Lib.hid hv
  clear eR hrl
  generalize (G.R h).length = rl at *
  go_enter Try.func150, Try.ntmps150
  go_wp2
  rw [← hw0]
  clear hw0 hb0
  go_cut [20] (fun s20 wx => ∃ v1, BnM wx B F gr cr lo A st S (vs.set h v1) (setR G.R h (l1 ++ l2)) ∧ wx.cell? ⟨w.heap.size, 0, none⟩ = some (.int .i64 (x : Int)) ∧ Upd (gr :: (Value.slice a rl cap).ownBlock.toList) w wx ∧ v1.ownBlock = (Value.slice a rl cap).ownBlock)
  case first =>
    have p2 := r2 _ (Upd.refl _ _)
    obtain ⟨p3, p4⟩ := r3 _ (Upd.refl _ _)
    go_region_law
      (first
        | (go_simp; go_at_call 155; (with_reducible refine (kd _ (by (repeat (first | assumption | exact Upd.refl _ _ | refine Upd.alloc ?_ _ | refine Upd.drew ?_ | refine Upd.drewN ?_ _ | refine Upd.setCell ?_ ?_ _ | focus (left; simp; done) | focus (right; simp; done) | focus (right; simp; omega))))).mono ?_); rintro e w1 ⟨v1, rfl, hO1, hb1, hu1a, a1, n1, c1, rfl⟩; (have hu1 : Upd (Value.slice a rl cap).ownBlock.toList w0 w1 := Upd.trans (by (repeat (first | assumption | exact Upd.refl _ _ | refine Upd.alloc ?_ _ | refine Upd.drew ?_ | refine Upd.drewN ?_ _ | refine Upd.setCell ?_ ?_ _ | focus (left; simp; done) | focus (right; simp; done) | focus (right; simp; omega)))) hu1a); (have q2 := r2 _ hu1); obtain ⟨q3, q4⟩ := r3 _ hu1; (have q5 := r4 _ hu1)))
    all_goals
      go_wp2
      go_meet
      have hu2 : Upd (Value.slice a rl cap).ownBlock.toList w w1 := (u0.mono (by simp)).trans hu1
      exact ⟨_, HM.out.setVD h hq (by rw [hv]; exact hu2) _ _ hO1 (by rw [hv]; exact hb1), by go_simp, (hu2.mono (by simp +contextual)).setCell (Or.inl (by simp)) _, hb1⟩
  case rest =>
    obtain ⟨v1, hM2, hb2, hu2, ho2⟩ := hcut
    obtain ⟨T1, t1, t2, t3, t4, t5, eL, eF, X⟩ := HX.out
    have hvs2 : (vs.set h v1).length = vs.length := List.length_set
    have hfs : FOk A.cs.length S.f := by rw [eF]; exact X.fh.f
    have hSk : S.k x = G.F.k x := by rw [← eF]; rfl
    have ksp := fun W (hW : Upd [] wc W) => split_yes B.bt B.ba lo A.cs.length S x W (hM2.cubes.upd0 hW) hx (by unfold rootB; rw [decide_eq_true (by omega)]; have e : S.u x = -1 := (by rw [← hr, ← eF]; rfl); simp [e]) (fun k hk => by have := hfs.rng x hx k hk; omega)
    have h1 := hM2.h1
    have hl2 := hM2.lt
    have hbn : w.heap.size ∉ B.c :: B.ba :: gr :: S.blk A.cs.length := fun hm => by
      have hl := HM.out.lt
      simp only [List.mem_cons] at hm
      rcases hm with e | e | e | e
      · have := HM.out.cells.lt B.c HM.out.cells.mem; omega
      · have := hl B.ba (by simp [BB.blk]); omega
      · omega
      · have := (HM.out.cubes.blk_lo e).2; omega
    have hn0 : B.n0 ∉ B.c :: B.ba :: gr :: S.blk A.cs.length := fun hm => by
      have hcn := HM.out.cn
      simp only [List.mem_cons] at hm
      rcases hm with e | e | e | e
      · exact hcn.1 e
      · exact HM.out.d2.2.1 e
      · exact HM.out.d2.2.2.1 e
      · exact (HM.out.d3 _ e).1 rfl
    have r1 : ∀ W, Upd (B.c :: B.ba :: gr :: S.blk A.cs.length) wc W → W.cell? ⟨B.n0, 1, none⟩ = some (.pointer (some ⟨B.bt, 0, none⟩)) := fun W hW => hW.kept h1 hn0
    have r0 : ∀ W, Upd (B.c :: B.ba :: gr :: S.blk A.cs.length) wc W → W.cell? ⟨w.heap.size, 0, none⟩ = some (.int .i64 (x : Int)) := fun W hW => hW.kept hb2 hbn
    have ka := fun (W : World) (vl : Value) (hM : BnM W B F gr cr lo A st (splitS S x) (vs.set h v1) (setR G.R h (l1 ++ l2))) (hvl : SlI W (B.c :: B.ba :: (splitS S x).blk A.cs.length) vl (G.F.k x)) => badd_any hM (by rw [split_f, eF]; exact X.fh.f.split2 hx hr) h (by rw [hvs2]; exact hq) hvl (by rw [split_f, eF, show setR G.R h (l1 ++ l2) h = l1 ++ l2 by simp [setR], ← eL]; exact t1) (by rw [split_f, eF]; exact t2) (fun z hz => by rw [show setR G.R h (l1 ++ l2) h = l1 ++ l2 by simp [setR], ← eL] at hz; exact t3 z hz) (fun z hz => by rw [show setR G.R h (l1 ++ l2) h = l1 ++ l2 by simp [setR], ← eL] at hz; exact t5 z (by rcases hz with hz | hz; exact Or.inl (List.mem_filter.1 hz).1; exact Or.inr hz))
    have HM2 := Lib.hid hM2
    have HB := Lib.hid (show ∀ W : World, Upd [B.ba] wc W → ForestAt W B.bt B.ba lo A.cs.length (splitS S x) → BnM W B F gr cr lo A st (splitS S x) (vs.set h v1) (setR G.R h (l1 ++ l2)) from fun W hu hF => HM2.out.setF (hu.mono (by simp)) (HM2.out.cells.upd hu (fun y hy hm => by simp at hy; subst hy; exact HM2.out.d1.2.2.1 hm)) hF (fun g hg => Or.inl (splitS_blk S x _ g hg)))
    have HSUB := Lib.hid (show ∀ y, y ∈ B.c :: B.ba :: gr :: (splitS S x).blk A.cs.length → y ∈ B.c :: B.ba :: gr :: S.blk A.cs.length from fun y hy => by
      simp only [List.mem_cons] at hy ⊢
      rcases hy with e | e | e | e
      · exact Or.inl e
      · exact Or.inr (Or.inl e)
      · exact Or.inr (Or.inr (Or.inl e))
      · exact Or.inr (Or.inr (Or.inr (splitS_blk S x _ y e))))
    have HLT := Lib.hid (show ∀ y, y ∈ B.c :: B.ba :: (splitS S x).blk A.cs.length → y < wc.heap.size from fun y hy => by
      simp only [List.mem_cons] at hy
      rcases hy with e | e | e
      · subst e; exact hM2.cells.lt _ hM2.cells.mem
      · subst e; exact hM2.cubes.row.lt
      · exact (hM2.cubes.blk_lo (splitS_blk S x _ y e)).2)
    clear hM2 T1 t1 t2 t3 t4 t5 eL hfs X h1 hb2 eF
    rw [hSk] at ksp
    go_wp2
    go_region_held3 (Upd (B.c :: B.ba :: gr :: S.blk A.cs.length) wc) (repeat (first | assumption | exact Upd.refl _ _ | refine Upd.drew ?_ | refine Upd.alloc ?_ _ | refine Upd.setCell ?_ ?_ _ | focus (left; simp; done) | focus (right; simp; done) | focus (right; simp; omega) | (apply Upd.trans; rotate_left; assumption)))
      (first
        | ((go_at_call 157; (with_reducible refine (ksp _ (by (repeat (first | assumption | exact Upd.refl _ _ | refine Upd.alloc ?_ _ | refine Upd.drew ?_ | refine Upd.drewN ?_ _ | refine Upd.setCell ?_ ?_ _ | focus (left; simp; done) | focus (right; simp; done) | focus (right; simp; omega))))).mono ?_)); rintro e w3 ⟨v3, rfl, hL3, hF3, hu3⟩; (have hu3a : Upd [B.ba] wc w3 := Upd.trans (by (repeat (first | assumption | exact Upd.refl _ _ | refine Upd.alloc ?_ _ | refine Upd.drew ?_ | refine Upd.drewN ?_ _ | refine Upd.setCell ?_ ?_ _ | focus (left; simp; done) | focus (right; simp; done) | focus (right; simp; omega)))) hu3); (have hu3b : Upd (B.c :: B.ba :: gr :: S.blk A.cs.length) wc w3 := hu3a.mono (by simp)); (have hM3 := HB.out _ hu3a hF3); obtain ⟨a3, c3, hv3, hl3, hc3⟩ := (show ∃ a c, v3 = .slice a (G.F.k x).length c ∧ True ∧ True from (by obtain ⟨a, c, e, _⟩ := hL3.open; exact ⟨a, c, e, trivial, trivial⟩)); subst hv3; (have ka3 := fun W (hW : Upd [] w3 W) => ka W _ (hM3.upd0 hW) (SlI.upd (SlI.of_lst (F := B.c :: B.ba :: (splitS S x).blk A.cs.length) hL3 (fun g hg => Nat.lt_of_lt_of_le (HLT.out g hg) (Upd.size (S := []) (w := wc) (by (repeat (first | assumption | exact Upd.refl _ _ | refine Upd.alloc ?_ _ | refine Upd.drew ?_ | refine Upd.drewN ?_ _ | refine Upd.setCell ?_ ?_ _ | focus (left; simp; done) | focus (right; simp; done) | focus (right; simp; omega))))))) hW (by simp))))
        | ((go_at_call 70; (with_reducible refine (ka3 _ (by (repeat (first | assumption | exact Upd.refl _ _ | refine Upd.alloc ?_ _ | refine Upd.drew ?_ | refine Upd.drewN ?_ _ | refine Upd.setCell ?_ ?_ _ | focus (left; simp; done) | focus (right; simp; done) | focus (right; simp; omega))))).mono ?_)); rintro e w4 ⟨S4, vo, rfl, hS4, hM4, hu4, hb4, hx4⟩; (have hu4b : Upd (B.c :: B.ba :: gr :: S.blk A.cs.length) wc w4 := Upd.trans (by (repeat (first | assumption | exact Upd.refl _ _ | refine Upd.drew ?_ | refine Upd.alloc ?_ _ | refine Upd.setCell ?_ ?_ _ | focus (left; simp; done) | focus (right; simp; done) | focus (right; simp; omega) | (apply Upd.trans; rotate_left; assumption)))) (hu4.mono HSUB.out))))
    have h04 := hM4.h0
    have hnF := HM.out.d1.1
    have hbF : w.heap.size ∉ F := fun hm => by have := HM.out.cells.lt _ hm; omega
    have r5 : ∀ W, Upd F w4 W → W.cell? ⟨B.n0, 0, none⟩ = some (.pointer (some ⟨B.c, 0, none⟩)) := fun W hW => hW.kept h04 hnF
    have r6 : ∀ W, Upd F w4 W → W.cell? ⟨w.heap.size, 0, none⟩ = some (.int .i64 (x : Int)) := fun W hW => hW.kept (r0 _ hu4b) hbF
    have kdr := fun W (hW : Upd [] w4 W) => cdrop_yes (hM4.cells.upd0 hW) x ((inN_nat _ _).2 ⟨hx, hin⟩)
    have HM4 := Lib.hid hM4
    clear hM4 h04 r0 r1 ka ksp ka3 hM3 hL3 hF3
    go_wp2
    go_region_held3 (Upd F w4) (repeat (first | assumption | exact Upd.refl _ _ | refine Upd.drew ?_ | refine Upd.alloc ?_ _ | refine Upd.setCell ?_ ?_ _ | focus (left; simp; done) | focus (right; simp; done) | focus (right; simp; omega) | (apply Upd.trans; rotate_left; assumption)))
      (first
        | ((go_at_call 87; (with_reducible refine (kdr _ (by (repeat (first | assumption | exact Upd.refl _ _ | refine Upd.alloc ?_ _ | refine Upd.drew ?_ | refine Upd.drewN ?_ _ | refine Upd.setCell ?_ ?_ _ | focus (left; simp; done) | focus (right; simp; done) | focus (right; simp; omega))))).mono ?_)); rintro e w5 ⟨rfl, hC5, hu5⟩; (have hu5b : Upd F w4 w5 := Upd.trans (by (repeat (first | assumption | exact Upd.refl _ _ | refine Upd.drew ?_ | refine Upd.alloc ?_ _ | refine Upd.setCell ?_ ?_ _ | focus (left; simp; done) | focus (right; simp; done) | focus (right; simp; omega) | (apply Upd.trans; rotate_left; assumption)))) hu5)))
    go_wp2
    go_ret
    obtain ⟨T1, t1, t2, t3, t4, t5, eL, eF, X⟩ := HX.out
    have dl := drop_len A (x : Int)
    have dh := drop_hs A (x : Int)
    have hM5 := HM4.out.setC hu5b hC5 (fun y hy => Or.inl hy) dl (by rw [dh])
    have eR1 : setR G.R h (l1 ++ l2) h = l1 ++ l2 := by simp [setR]
    have eT : (takeB' G h x).R = setR G.R h (l1 ++ l2) := by unfold takeB'; rw [eL]
    have eTF : (takeB' G h x).F = (splitS S x).f := by rw [split_f, eF]; rfl
    have e1 : (takeG A h x G).R = setR (setR G.R h (l1 ++ l2)) h (carC (aheadN A) A.cs.length (splitS S x).f (setR G.R h (l1 ++ l2) h) (G.F.k x)).O := by unfold takeG addG; rw [eT, eTF]
    have e2 : (takeG A h x G).F = S4.f := by rw [hS4]; unfold takeG addG; rw [eT, eTF]
    have e3 : takeQ A h x G = (carC (aheadN A) A.cs.length (splitS S x).f (setR G.R h (l1 ++ l2) h) (G.F.k x)).q := by unfold takeQ; rw [eT, eTF]
    have uw : Upd (B.blk F gr A.cs.length S vs) w w5 := by
      have m1 : ∀ y, y ∈ gr :: (Value.slice a rl cap).ownBlock.toList → y ∈ B.blk F gr A.cs.length S vs := fun y hy => by
        simp only [BB.blk, List.mem_cons, List.mem_append] at hy ⊢
        rcases hy with e | e
        · exact Or.inr (Or.inr (Or.inr (Or.inl e)))
        · exact Or.inr (Or.inr (Or.inr (Or.inr (Or.inr (Or.inr (mem_rblk.2 ⟨h, hq, by rw [HV.out]; simpa using e⟩))))))
      have m2 : ∀ y, y ∈ B.c :: B.ba :: gr :: S.blk A.cs.length → y ∈ B.blk F gr A.cs.length S vs := fun y hy => by
        simp only [BB.blk, List.mem_cons, List.mem_append] at hy ⊢
        rcases hy with e | e | e | e
        · exact Or.inr (Or.inr (Or.inr (Or.inr (Or.inl (by rw [e]; exact HM.out.cells.mem)))))
        · exact Or.inr (Or.inr (Or.inl e))
        · exact Or.inr (Or.inr (Or.inr (Or.inl e)))
        · exact Or.inr (Or.inr (Or.inr (Or.inr (Or.inr (Or.inl e)))))
      have m3 : ∀ y, y ∈ F → y ∈ B.blk F gr A.cs.length S vs := fun y hy => by simp [BB.blk, hy]
      exact ((hu2.mono m1).trans (hu4b.mono m2)).trans (hu5b.mono m3)
    refine ⟨rfl, B.blk F gr (dropN A x).cs.length S4 ((vs.set h v1).set h vo), ⟨B, F, gr, cr, lo, S4, (vs.set h v1).set h vo, rfl, rfl, by rw [e1, e3]; exact hM5, e2.symm⟩, uw, fun y hy => ?_⟩
    have hsz := hu2.size
    rw [dl] at hy
    simp only [BB.blk, List.mem_cons, List.mem_append] at hy ⊢
    rcases hy with e | e | e | e | e | e | e
    · exact Or.inl (Or.inl e)
    · exact Or.inl (Or.inr (Or.inl e))
    · exact Or.inl (Or.inr (Or.inr (Or.inl e)))
    · exact Or.inl (Or.inr (Or.inr (Or.inr (Or.inl e))))
    · exact Or.inl (Or.inr (Or.inr (Or.inr (Or.inr (Or.inl e)))))
    · rcases hb4 y e with h' | h'
      · exact Or.inl (Or.inr (Or.inr (Or.inr (Or.inr (Or.inr (Or.inl (splitS_blk S x _ y h')))))))
      · right
        have := hu3b.size
        omega
    · obtain ⟨k, hk, hk2⟩ := mem_rblk.1 e
      rw [List.length_set, List.length_set] at hk
      rw [getDv_set, getDv_set] at hk2
      by_cases ek : k = h
      · rw [if_pos ⟨ek, by rw [List.length_set]; exact hq⟩] at hk2
        right
        have := hx4 y hk2
        have := hu3b.size
        omega
      · rw [if_neg (fun h => ek h.1), if_neg (fun h => ek h.1)] at hk2
        exact Or.inl (Or.inr (Or.inr (Or.inr (Or.inr (Or.inr (Or.inr (mem_rblk.2 ⟨k, hk, hk2⟩)))))))
end
end Go.Proofs.Ytighgbdijagolaa
