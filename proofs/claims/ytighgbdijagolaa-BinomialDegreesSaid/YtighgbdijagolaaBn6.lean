/-
  Binomial heaps: Nest.lift. Conditions: those of each lemma.
-/
import Derived.Test.YtighgbdijagolaaGbm
import Derived.Test.YtighgbdijagolaaGbp
import Derived.Deep.DeepCutAuto
import Derived.Outline
import Derived.Deep.LoopGhost
set_option linter.unusedVariables false
set_option linter.unusedSimpArgs false
namespace Go.Proofs.Ytighgbdijagolaa
open Go Go.RowKit

theorem OwnOff.set {w : World} {base g off n cap : Nat} {xs : List Int} (h : OwnOff w base (.slice (some ⟨g, off, none⟩) n cap) xs) (i : Nat) (hi : i < xs.length) (y : Int) : OwnOff (w.setCell ⟨g, off + i, none⟩ (.int .i64 y)) base (.slice (some ⟨g, off, none⟩) n cap) (xs.set i y) := by
  rcases h with ⟨e, _⟩ | ⟨g', off', cap', cur, e, hb, hg, h1, h2, h3, h4⟩
  · cases e
  · cases e
    refine Or.inr ⟨g, off, cap, cur.setIfInBounds (off + i) (.int .i64 y), by rw [List.length_set], hb, ?_, by rw [List.length_set]; exact h1, h2, by simp; omega, fun j u hj => ?_⟩
    · simp [World.setCell, Array.getElem?_modify, hg]
    · have hjl : j < xs.length := by have := (List.getElem?_eq_some_iff.1 hj).1; simpa using this
      rw [Array.getElem?_setIfInBounds]
      by_cases e : i = j
      · subst e
        rw [List.getElem?_set_self hi] at hj
        cases hj
        rw [if_pos rfl, if_pos (by omega)]
      · rw [if_neg (by omega)]
        rw [List.getElem?_set_ne e] at hj
        exact h4 j u hj
theorem OwnOff.free {w : World} {base : Nat} {v : Value} {xs : List Int} (h : OwnOff w base v xs) {g : Nat} (hg : v.ownBlock = some g) (j : Nat) : w.frozen? ⟨g, j, none⟩ = false := by
  rcases h with ⟨rfl, _⟩ | ⟨g', off', cap', cur, rfl, hb, hh, h1, h2, h3, h4⟩
  · cases hg
  · simp [Value.ownBlock] at hg
    subst hg
    simp [World.frozen?, hh]
theorem liftS_blk {n : Nat} (S : CS) {x p : Nat} (above : Int) (hx : x < n) (hp : p < n) : ∀ g, g ∈ (liftS S x p above).blk n → g ∈ S.blk n := fun g hg => by
  obtain ⟨y, hy, e⟩ := (CS.mem_blk _ n g).1 hg
  have e : (if y = x then S.v p else if y = p then S.v x else S.v y).ownBlock = some g := e
  rw [CS.mem_blk]
  split at e
  · exact ⟨p, hp, e⟩
  · split at e
    · exact ⟨x, hx, e⟩
    · exact ⟨y, hy, e⟩
section
variable {w : World} {B : BB} {F : List Nat} {gr cr lo : Nat} {A : NS} {st : Nat} {S : CS} {vs : List Value} {R : Nat → List Int}
/-- A heap's row turned in place. -/
theorem BnM.setX {w1 : World} (h : BnM w B F gr cr lo A st S vs R) (q : Nat) (hq : q < vs.length) (hu1 : Upd (vs.getD q undef).ownBlock.toList w w1) (X : List Int) (hv : OwnOff w1 0 (vs.getD q undef) X) : BnM w1 B F gr cr lo A st S vs (setR R q X) := by
  have hK : ∀ g, g ∈ (vs.getD q undef).ownBlock.toList → (vs.getD q undef).ownBlock = some g := fun g hg => by simpa using hg
  have kk : ∀ g, g ∈ (vs.getD q undef).ownBlock.toList → g ≠ B.n0 ∧ g ≠ B.bt ∧ g ≠ B.ba ∧ g ≠ gr ∧ g ∉ F ∧ g ∉ S.blk A.cs.length := fun g hg => h.d4 q g hq (hK g hg)
  refine ⟨h.head.upd hu1 (fun hm => (kk _ hm).1 rfl), h.cells.upd hu1 (fun x hx => (kk x hx).2.2.2.2.1),
    h.cubes.upd hu1 (fun hm => (kk _ hm).2.1 rfl) (fun hm => (kk _ hm).2.2.1 rfl) (fun g hg hm => (kk g hm).2.2.2.2.2 hg),
    owns_upd h.rows hu1 (fun g hg hm => by simp [Value.ownBlock] at hg; subst hg; exact (kk _ hm).2.2.2.1 rfl), h.len, fun k hk => ?_, h.d1, h.d2, h.d3, h.d4, h.d5⟩
  unfold setR
  by_cases ek : k = q
  · rw [if_pos ek, ek]; exact hv
  · rw [if_neg ek]
    exact (h.each k hk).upd hu1 (fun g hg2 hm => h.d5 k q g hk hq ek hg2 (hK g hm))
end
/-- What lift asks: whether something holds of what is above. -/
structure HoldK (w : World) (K : List Nat) (B : BB) (F : List Nat) (A : NS) (ct : Nat) (hp : Nat → Bool) (f : FuncId) (caps : Array Value) : Prop where
  enters : Enters f
  calls : ∀ (W : World) (st above : Nat), Upd K w W → W.cell? ⟨B.n0, 0, none⟩ = some (.pointer (some ⟨B.c, 0, none⟩)) → B.n0 ≠ B.c → CellsAt W B.c F A st → inN A (above : Int) = true →
    Calls Try.prog f (#[.int .i64 (above : Int)] ++ caps) W fun e w' => e = .returned (.bool (hp above)) ∧ CellsAt w' B.c F A (satS st ct) ∧ Upd [B.c] W w'
section
variable {w : World} {B : BB} {F : List Nat} {gr cr lo : Nat} {A : NS} {st : Nat} {S : CS} {vs : List Value} {G : BG}
set_option maxHeartbeats 4000000 in
theorem blift_any (M : BnM w B F gr cr lo A st S vs G.R) (eF : S.f = G.F) {x h ct : Nat} {hp : Nat → Bool} {f : FuncId} {caps : Array Value} (X : BnX A G x) (hx : x < A.cs.length) (hin : 0 < (A.c x).i) (hh : (A.c x).i = h) (hq : h < vs.length) (H : HoldK w (B.blk F gr A.cs.length S vs) B F A ct hp f caps) :
    Calls Try.prog 147 #[.pointer (some ⟨B.n0, 0, none⟩), .int .i64 (h : Int), .int .i64 (x : Int), .func (Fn.func f) #[] caps] w fun e w' => e = .returned (.tuple #[]) ∧
      ∃ S', BnM w' B F gr cr lo A (satS st (liftL hp ct x A.cs.length G).2) S' vs (liftL hp ct x A.cs.length G).1.R ∧ S'.f = (liftL hp ct x A.cs.length G).1.F ∧ Upd (B.blk F gr A.cs.length S vs) w w' ∧ ∀ g, g ∈ S'.blk A.cs.length → g ∈ S.blk A.cs.length := by
  have ok := M.cells.ok
  have hn := ok.c1
  have hz := satS_zero M.cells.st62
  have hcl := H.calls
  have hen := H.enters
  unfold Enters at hen
  have HM := Lib.hid M
  have HX := Lib.hid (And.intro X eF)
  have HC := Lib.hid hcl
  have hvl := M.vlen
  clear M X eF hcl ok H
  go_enter Try.func147, Try.ntmps147
  go_wp2
  go_loopg [8, 9, 10, 11] A.cs.length (fun fu _ _ _ _ wr => ∃ (c : Nat) (G' : BG) (S' : CS), BnM wr B F gr cr lo A (satS st c) S' vs G'.R ∧ S'.f = G'.F ∧ BnX A G' x ∧ (∀ g, g ∈ S'.blk A.cs.length → g ∈ S.blk A.cs.length) ∧ Upd (B.blk F gr A.cs.length S vs) w wr ∧ A.cs.length ≤ fu + (G'.F.k x).length ∧ (liftL hp ct x fu G').1 = (liftL hp ct x A.cs.length G).1 ∧ (liftL hp ct x fu G').2 + c = (liftL hp ct x A.cs.length G).2)
  case atStart => exact ⟨0, G, S, by rw [hz]; exact HM.out, HX.out.2, HX.out.1, fun g hg => hg, Upd.refl _ _, by omega, rfl, rfl⟩
  case round =>
    rename Nat => fu
    obtain ⟨c, G', S', hM, eF, X, hSb, hu, hfu, hl1, hl2⟩ := hrel
    rename World => wr
    have hlen := X.fh.f.len hx
    obtain ⟨fv, rfl⟩ : ∃ fv, fu = fv + 1 := ⟨fu - 1, by omega⟩
    have ku := up_any B.bt B.ba lo A.cs.length S' (x : Int) wr hM.cubes
    have h1 := hM.h1
    have eux : S'.u x = G'.F.u x := by rw [← eF]; rfl
    have kb : ∀ y, y ∈ B.blk F gr A.cs.length S' vs → y ∈ B.blk F gr A.cs.length S vs := fun y hy => by
      simp only [BB.blk, List.mem_cons, List.mem_append] at hy ⊢
      rcases hy with e | e | e | e | e | e | e
      · exact Or.inl e
      · exact Or.inr (Or.inl e)
      · exact Or.inr (Or.inr (Or.inl e))
      · exact Or.inr (Or.inr (Or.inr (Or.inl e)))
      · exact Or.inr (Or.inr (Or.inr (Or.inr (Or.inl e))))
      · exact Or.inr (Or.inr (Or.inr (Or.inr (Or.inr (Or.inl (hSb y e))))))
      · exact Or.inr (Or.inr (Or.inr (Or.inr (Or.inr (Or.inr e)))))
    have HR := Lib.hid (And.intro hM (And.intro eF (And.intro X (And.intro hSb (And.intro hu (And.intro hl1 (And.intro hl2 kb)))))))
    rcases X.fh.f.up x hx with e1 | ⟨p, hp1, e1, e2⟩
    · have eu : upO A.cs.length S' (x : Int) = none := by unfold upO; rw [if_pos (by omega), Int.toNat_natCast, eux, if_pos e1]
      rw [eu] at ku
      have E1 := Lib.hid e1
      clear hM X hl1 hl2 eu e1 eux kb hSb hfu
      go_wp2_with ((go_at_call 153; (with_reducible refine (ku).mono ?_); rintro e w9 ⟨rfl, hw9⟩; rw [hw9]; clear hw9 w9))
      refine bodyPost_ret (v := .tuple #[]) (by simp [results, Try.results147, go_sem]) rfl ?_
      obtain ⟨hM, eF, X, hSb, hu, hl1, hl2, kb⟩ := HR.out
      rw [liftL_root E1.out] at hl1 hl2
      refine ⟨rfl, S', ?_, by rw [← hl1]; exact eF, hu, hSb⟩
      rw [← hl1, ← hl2, show (((G', 0) : BG × Nat)).2 + c = c by simp]
      exact hM
    · have eu : upO A.cs.length S' (x : Int) = some (p : Int) := by unfold upO; rw [if_pos (by omega), Int.toNat_natCast, eux, e1, if_neg (by omega)]
      rw [eu] at ku
      simp only [ov, ob, Option.getD_some, Option.isSome_some] at ku
      have hom : (A.c x).i = (A.c p).i := (X.fh.home x p hx e1).1
      have hip : inN A (p : Int) = true := (inN_nat _ _).2 ⟨hp1, by omega⟩
      have kh := HC.out wr (satS st c) p hu hM.h0 hM.cn.1 hM.cells hip
      rw [satS_add] at kh
      cases hhp : hp p with
      | false =>
        rw [hhp] at kh
        have E1 := Lib.hid (And.intro e1 hhp)
        clear hM X hl1 hl2 eu e1 eux kb hSb hfu hhp
        go_wp2_with (first
          | (go_at_call 153; (with_reducible refine (ku).mono ?_); rintro e w9 ⟨rfl, hw9⟩; rw [hw9]; clear hw9 w9)
          | ((with_reducible refine (kh).mono ?_); rintro e w2 ⟨rfl, hC2, hu2⟩))
        refine bodyPost_ret (v := .tuple #[]) (by simp [results, Try.results147, go_sem]) rfl ?_
        obtain ⟨hM, eF, X, hSb, hu, hl1, hl2, kb⟩ := HR.out
        rw [liftL_no E1.out.1 E1.out.2] at hl1 hl2
        refine ⟨rfl, S', ?_, by rw [← hl1]; exact eF, hu.trans (hu2.mono (fun y hy => by simp at hy; subst hy; exact blk_F _ HM.out.cells.mem)), hSb⟩
        rw [← hl1, ← hl2, show (((G', ct) : BG × Nat)).2 + c = c + ct by simp; omega]
        exact hM.setSt hu2 hC2
      | true =>
        rw [hhp] at kh
        have okL := lift_ok (S := S') (by rw [eF]; exact X.fh.f) hx hp1 (by rw [eux]; exact e1) (show (x : Int) ∈ S'.f.k p by rw [eF]; exact e2)
        have eup : S'.u p = G'.F.u p := by rw [← eF]; rfl
        have hfL := lift_bnx X hx e1
        have hmL := lift_more X hx e1
        have hrR := lift_rows X hx e1 hh
        have E1 := Lib.hid (And.intro e1 (And.intro hhp (And.intro hfL (And.intro hmL (And.intro hrR (And.intro hfu eup))))))
        have FIN := Lib.hid (show ∀ (W w3 : World), BnM W B F gr cr lo A (satS st (c + ct)) S' vs (liftG G' x p).R → Upd (B.blk F gr A.cs.length S vs) w W → ForestAt w3 B.bt B.ba lo A.cs.length (liftS S' x p (S'.u p)) → Upd (B.ba :: S'.blk A.cs.length) W w3 →
            ∃ (c2 : Nat) (G2 : BG) (S2 : CS), BnM w3 B F gr cr lo A (satS st c2) S2 vs G2.R ∧ S2.f = G2.F ∧ BnX A G2 x ∧ (∀ g, g ∈ S2.blk A.cs.length → g ∈ S.blk A.cs.length) ∧ Upd (B.blk F gr A.cs.length S vs) w w3 ∧ A.cs.length ≤ fv + (G2.F.k x).length ∧ (liftL hp ct x fv G2).1 = (liftL hp ct x A.cs.length G).1 ∧ (liftL hp ct x fv G2).2 + c2 = (liftL hp ct x A.cs.length G).2 from fun W w3 hMW huW hF3 hu3 => by
          have hb3 := liftS_blk S' (S'.u p) hx hp1
          have hM3 := hMW.setF (hu3.mono (fun y hy => List.mem_cons_of_mem _ hy)) (hMW.cells.upd hu3 (fun y hy hm => by
            rcases List.mem_cons.1 hy with e | e
            · subst e; exact hMW.d1.2.2.1 hm
            · exact (hMW.d3 y e).2.2 hm)) hF3 (fun g hg => Or.inl (hb3 g hg))
          rw [liftL_yes e1 hhp] at hl1 hl2
          refine ⟨c + ct, liftG G' x p, liftS S' x p (S'.u p), hM3, by rw [lift_f, eF, eup]; rfl, hfL, fun g hg => hSb g (hb3 g hg), huW.trans (hu3.mono (fun y hy => ?_)), by omega, hl1, by simp only at hl2; omega⟩
          rcases List.mem_cons.1 hy with e | e
          · subst e; simp [BB.blk]
          · have := hSb y e
            simp only [BB.blk, List.mem_cons, List.mem_append]
            exact Or.inr (Or.inr (Or.inr (Or.inr (Or.inr (Or.inl this))))))
        have kM := Lib.hid (show ∀ w2, CellsAt w2 B.c F A (satS st (c + ct)) → Upd [B.c] wr w2 → BnM w2 B F gr cr lo A (satS st (c + ct)) S' vs G'.R ∧ Upd (B.blk F gr A.cs.length S vs) w w2 from fun w2 hC2 hu2 => ⟨hM.setSt hu2 hC2, hu.trans (hu2.mono (fun y hy => by simp at hy; subst hy; exact blk_F _ HM.out.cells.mem))⟩)
        have hup := X.fh.f.up p hp1
        have hpR : G'.F.u p = -1 → (p : Int) ∈ G'.R h := fun e => (X.rh.mem h p).2 ⟨by omega, hp1, e, by show (A.c p).i = _; omega⟩
        have hnd := (X.rh.row h).nodup
        clear hM X hl1 hl2 eu e1 eux kb hSb hfu hhp hfL hmL hrR e2 hu
        rcases hup with e3 | ⟨q, hq1, e3, _⟩
        · have eu2 : upO A.cs.length S' (p : Int) = none := by unfold upO; rw [if_pos (by omega), Int.toNat_natCast, eup, if_pos e3]
          have hpm := hpR e3
          obtain ⟨i, hi, hidx, hix⟩ := idx_mem (G'.R h) (p : Int) hpm
          have E3 := Lib.hid (And.intro e3 (And.intro hpm hnd))
          clear e3 hpR eup hpm hnd
          go_wp2_with (first
            | (go_at_call 153; (with_reducible refine (ku).mono ?_); rintro e w9 ⟨rfl, hw9⟩; rw [hw9]; clear hw9 w9)
            | ((with_reducible refine (kh).mono ?_); rintro e w2 ⟨rfl, hC2, hu2⟩; obtain ⟨hM2, hu3⟩ := kM.out w2 hC2 hu2; (have h2 := hM2.h1); (have ku2 := up_any B.bt B.ba lo A.cs.length S' (p : Int) w2 hM2.cubes); rw [eu2] at ku2; simp only [ov, ob, Option.getD_none, Option.isSome_none] at ku2; (have HM2 := Lib.hid hM2); clear hM2)
            | (go_at_call 153; (with_reducible refine (ku2).mono ?_); rintro e w9 ⟨rfl, hw9⟩; rw [hw9]; clear hw9 w9))
          have hsl : SlI w2 [] (vs.getD h undef) (G'.R h) := (HM2.out.each h hq).sl (fun g _ => by simp)
          have kix := fun W (hW : Upd [] w2 W) => index_sl W [] (vs.getD h undef) (G'.R h) (p : Int) (hsl.upd hW (by simp))
          rw [hidx] at kix
          obtain ⟨a0, cap, hv, hlc, hcp, hcs⟩ := (HM2.out.each h hq).shape
          obtain ⟨g, off, rfl, hci⟩ := hcs i (p : Int) hix
          have hfi : w2.frozen? ⟨g, off + i, none⟩ = false := (HM2.out.each h hq).free (by rw [hv]; rfl) _
          have hR2 := HM2.out.h2
          have hrc := HM2.out.rowc hq
          rw [hv] at kix hrc
          have hib0 : (0 : Int) ≤ (h : Int) := by omega
          have hib1 : (h : Int) < (vs.length : Int) := by omega
          have hib2 : (0 : Int) ≤ (i : Int) := by omega
          have hib3 : (i : Int) < ((G'.R h).length : Int) := by omega
          have hrl : (G'.R h).length ≤ 9223372036854775807 := by omega
          have hfin := Lib.hid (show BnM (w2.setCell ⟨g, off + i, none⟩ (.int .i64 (x : Int))).drew B F gr cr lo A (satS st (c + ct)) S' vs (setR G'.R h (setAt (G'.R h) (p : Int) (x : Int))) ∧ Upd (B.blk F gr A.cs.length S vs) w (w2.setCell ⟨g, off + i, none⟩ (.int .i64 (x : Int))).drew from by
            have u1 : Upd (vs.getD h undef).ownBlock.toList w2 (w2.setCell ⟨g, off + i, none⟩ (.int .i64 (x : Int))).drew := by
              rw [hv]
              exact ((Upd.refl _ _).setCell (Or.inl (by simp [Value.ownBlock])) _).drew
            have o1 : OwnOff (w2.setCell ⟨g, off + i, none⟩ (.int .i64 (x : Int))).drew 0 (vs.getD h undef) (setAt (G'.R h) (p : Int) (x : Int)) := by
              have := HM2.out.each h hq
              rw [hv] at this ⊢
              have o2 := this.set i hi (x : Int)
              unfold setAt
              rw [hidx, Int.toNat_natCast]
              exact o2.upd ((Upd.refl [] _).drew) (by simp)
            refine ⟨HM2.out.setX h hq u1 _ o1, hu3.trans (u1.mono (fun y hy => ?_))⟩
            simp only [BB.blk, List.mem_cons, List.mem_append]
            exact Or.inr (Or.inr (Or.inr (Or.inr (Or.inr (Or.inr (mem_rblk.2 ⟨h, hq, by simpa using hy⟩)))))))
          clear hi hidx hix hcs hv hsl
          generalize hrlq : (G'.R h).length = rl at *
          go_cut [55] (fun s55 wx => BnM wx B F gr cr lo A (satS st (c + ct)) S' vs (setR G'.R h (setAt (G'.R h) (p : Int) (x : Int))) ∧ Upd (B.blk F gr A.cs.length S vs) w wx)
          case first =>
            go_region_law
              (first
                | (go_simp; go_at_call 117; (with_reducible refine (kix _ (by (repeat (first | assumption | exact Upd.refl _ _ | refine Upd.alloc ?_ _ | refine Upd.drew ?_ | refine Upd.drewN ?_ _ | refine Upd.setCell ?_ ?_ _ | focus (left; simp; done) | focus (right; simp; done) | focus (right; simp; omega))))).mono ?_); rintro e w9 ⟨rfl, hw9⟩; rw [hw9]; clear hw9 w9))
            all_goals
              go_wp2
              go_meet
              exact hfin.out
          case rest =>
            obtain ⟨hM3, hu4⟩ := hcut
            have h3 := hM3.h1
            have kl := lift_yes B.bt B.ba lo A.cs.length S' x p (S'.u p) wc hM3.cubes okL
            have HM3 := Lib.hid hM3
            clear hM3 hfin ku kh ku2 kix hR2 hrc hci hfi
            go_wp2_with ((go_at_call 154; (with_reducible refine (kl).mono ?_)); rintro e w3 ⟨rfl, hF3, hu5⟩)
            go_roundg fv
            case measure => omega
            case rel =>
              have hR2 := E1.out.2.2.2.2.1
              rw [E3.out.1, if_pos rfl] at hR2
              exact FIN.out wc w3 (by rw [hR2]; exact HM3.out) hu4 hF3 hu5
        · have eu2 : upO A.cs.length S' (p : Int) = some (q : Int) := by unfold upO; rw [if_pos (by omega), Int.toNat_natCast, eup, e3, if_neg (by omega)]
          have E3 := Lib.hid e3
          clear e3 hpR eup
          go_wp2_with (first
            | (go_at_call 153; (with_reducible refine (ku).mono ?_); rintro e w9 ⟨rfl, hw9⟩; rw [hw9]; clear hw9 w9)
            | ((with_reducible refine (kh).mono ?_); rintro e w2 ⟨rfl, hC2, hu2⟩; obtain ⟨hM2, hu3⟩ := kM.out w2 hC2 hu2; (have h2 := hM2.h1); (have ku2 := up_any B.bt B.ba lo A.cs.length S' (p : Int) w2 hM2.cubes); rw [eu2] at ku2; simp only [ov, ob, Option.getD_some, Option.isSome_some] at ku2; (have kl := lift_yes B.bt B.ba lo A.cs.length S' x p (S'.u p) w2 hM2.cubes okL); (have HM2 := Lib.hid hM2); clear hM2)
            | (go_at_call 153; (with_reducible refine (ku2).mono ?_); rintro e w9 ⟨rfl, hw9⟩; rw [hw9]; clear hw9 w9)
            | ((go_at_call 154; (with_reducible refine (kl).mono ?_)); rintro e w3 ⟨rfl, hF3, hu4⟩))
          go_roundg fv
          case measure => omega
          case rel =>
            have hR2 := E1.out.2.2.2.2.1
            rw [E3.out, if_neg (by omega)] at hR2
            exact FIN.out w2 w3 (by rw [hR2]; exact HM2.out) hu3 hF3 hu4
end
end Go.Proofs.Ytighgbdijagolaa
