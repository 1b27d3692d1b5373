/-
  Fibonacci heaps: Extract. Conditions: those of each lemma.
-/
import Derived.Test.YtighgbdijagolaaFb5
set_option linter.unusedVariables false
set_option linter.unusedSimpArgs false
namespace Go.Proofs.Ytighgbdijagolaa
open Go Go.RowKit

/-- s[1:] -/
def tailW (a : Option Addr) (n c : Nat) : Value := .slice (if c = 1 then a else a.map (·.add 1)) (n - 1) (c - 1)
theorem run_tailW (w : World) (a : Option Addr) (n c : Nat) (h1 : 1 ≤ n) (h2 : n ≤ 9223372036854775807) :
    (Instr.slice 63 (.slice a n c) (some (.int .i64 1)) none none).run Try.prog w = .ok (tailW a n c) w := by
  have hs : (sizeOf 3).run Try.prog w = .ok 1 w := by kernel_rfl
  unfold Instr.slice Instr.sliceBounds
  simp [run_underlying Try.underlying63, go_sem, hs, tailW]
  intro h; omega
theorem tailW_sl {w : World} {F : List Nat} {a : Option Addr} {n c : Nat} {x : Int} {xs : List Int} (h : SlI w F (.slice a n c) (x :: xs)) : SlI w F (tailW a n c) xs := by
  obtain ⟨a', cap, e, h1, h2, h3⟩ := h
  cases e
  obtain ⟨g, off, rfl, hg, hF, _⟩ := h3 0 x rfl
  simp only [List.length_cons] at h1 ⊢
  unfold tailW
  simp only [Nat.add_sub_cancel]
  refine ⟨_, _, rfl, by omega, by omega, fun j u hj => ?_⟩
  have hjl : j < xs.length := (List.getElem?_eq_some_iff.1 hj).1
  rw [if_neg (by omega)]
  obtain ⟨g2, off2, he, hg2, hF2, hc⟩ := h3 (j + 1) u (by simpa using hj)
  simp only [Option.some.injEq, Addr.mk.injEq, and_true] at he
  obtain ⟨rfl, rfl⟩ := he
  exact ⟨g, off + 1, by simp [Addr.add_lit], hg, hF, by rw [show off + 1 + j = off + (j + 1) by omega]; exact hc⟩
theorem SlI.turned {w w' : World} {F G : List Nat} {v : Value} {xs : List Int} (h : SlI w F v xs) (hu : Upd G w w') (hG : ∀ g, g ∈ G → g ∈ F ∨ w.heap.size ≤ g) : SlI w' F v xs := by
  obtain ⟨a, cap, rfl, h1, h2, h3⟩ := h
  refine ⟨a, cap, rfl, h1, h2, fun j u hj => ?_⟩
  obtain ⟨g, off, rfl, hg, hF, hc⟩ := h3 j u hj
  exact ⟨g, off, rfl, Nat.lt_of_lt_of_le hg hu.size, hF, by rw [hu.cell hg (fun hm => (hG _ hm).elim hF (fun h' => by have h2 : w.heap.size ≤ g := h'; omega))]; exact hc⟩
theorem SlI.fewer {w : World} {F G : List Nat} {v : Value} {xs : List Int} (h : SlI w F v xs) (hG : ∀ g, g ∈ G → g ∈ F) : SlI w G v xs := by
  obtain ⟨a, cap, rfl, h1, h2, h3⟩ := h
  refine ⟨a, cap, rfl, h1, h2, fun j u hj => ?_⟩
  obtain ⟨g, off, rfl, hg, hF, hc⟩ := h3 j u hj
  exact ⟨g, off, rfl, hg, fun hm => hF (hG _ hm), hc⟩
def fextG (A : NS) (q : Int) (G : FG) : FG := match minN A q with | some m => (ext4 A q.toNat m (kl (G.K m) ++ (G.R q.toNat).tail) G).1 | none => G
def fextQ (A : NS) (q : Int) (G : FG) : Nat := match minN A q with | some m => (extD A q.toNat m (kl (G.K m) ++ (G.R q.toNat).tail) G).q + (ext4 A q.toNat m (kl (G.K m) ++ (G.R q.toNat).tail) G).2 | none => 0
theorem prtL_snoc (l : List Nat) (x : Nat) (G : FG) : prtL (l ++ [x]) G = prt (prtL l G) x := by unfold prtL; rw [List.foldl_append]; rfl
section
variable {w : World} {p : Nat} {FF : List Nat} {A : NS} {st : Nat} {G : FG}
set_option maxHeartbeats 8000000 in
theorem fextract_any (h : FbK w p FF A st G) (q : Int) (hqb : -9223372036854775808 ≤ q ∧ q ≤ 9223372036854775807) :
    Calls Try.prog 62 #[.pointer (some ⟨p, 0, none⟩), .int .i64 q] w fun e w' => e = .returned (.tuple #[.int .i64 (slotV (minN A q)), .bool (minN A q).isSome]) ∧
      Goes FF w w' (fun FF' => FbK w' p FF' (extN A q) (satS st (fextQ A q G)) (fextG A q G)) := by
  have km := fmin_any h q hqb
  have hst := h.st62
  have HK := Lib.hid h
  cases hm : minN A q with
  | none =>
    rw [hm] at km
    have e1 : extN A q = A := by unfold extN; rw [hm]
    have e2 : fextG A q G = G := by unfold fextG; rw [hm]
    have e3 : fextQ A q G = 0 := by unfold fextQ; rw [hm]
    rw [e1, e2, e3, satS_zero hst]
    clear h hm e1 e2 e3
    go_enter Try.func62, Try.ntmps62
    go_wp2_with ((go_at_call 83; (with_reducible refine (km).mono ?_); rintro e w9 ⟨rfl, hw9⟩; rw [hw9]; clear hw9 w9))
    go_ret2
    exact ⟨rfl, Goes.stay HK.out (Upd.refl _ _)⟩
  | some m =>
    rw [hm, show slotV (some m) = (m : Int) from rfl, show (some m : Option Nat).isSome = true from rfl] at km
    have e1 : extN A q = dropN A m := by unfold extN; rw [hm]
    have e2 : fextG A q G = (ext4 A q.toNat m (kl (G.K m) ++ (G.R q.toNat).tail) G).1 := by unfold fextG; rw [hm]
    have e3 : fextQ A q G = (extD A q.toNat m (kl (G.K m) ++ (G.R q.toNat).tail) G).q + (ext4 A q.toNat m (kl (G.K m) ++ (G.R q.toNat).tail) G).2 := by unfold fextQ; rw [hm]
    rw [e1, e2, e3]
    obtain ⟨hh, s, rfl, h1, hl, hR, hp⟩ := fb_some h.2 h.ok hm
    rw [Int.toNat_natCast, hR, List.tail_cons]
    obtain ⟨⟨rg1, rg2⟩, T3, hin3, hri, hDR, I4, _, _, _, _, hTy, hTl, _⟩ := ext_fb h.2 h.ok hR
    obtain ⟨_, hmx, um, hmh, hmin⟩ := h.2.out (h := hh) (z := m) (by rw [hR]; simp)
    have kdr := fun W F c (hC : CellsAt W c F A (satS st ((extD A hh m (kl (G.K m) ++ s) G).q + (ext4 A hh m (kl (G.K m) ++ s) G).2))) => cdrop_yes hC m hmin
    obtain ⟨⟨B, F, gt, ct, rfl, rfl, M⟩, I⟩ := h
    have kra := fun W (hW : Upd [] w W) => fraise_any (M.upd0 hW) hmx (I.ff.ring m hmx) (fun z hz => (I.ff.kid m z hmx hz).1)
    have hlen : (m :: (kl (G.K m) ++ s)).length ≤ A.cs.length := nodup_bound A.cs.length _ rg1.nd rg2
    have hc1 := M.cells.ok.c1
    have hlt := M.lt
    have hcap := M.cap
    have hhI : (hh : Int) < (A.hs.length : Int) := by omega
    have hhs := M.cells.ok.h1
    have hd := M.d1
    have hd2 := M.d2
    have hd3 := M.d3
    have hcm := M.cells.mem
    obtain ⟨rs, hrs⟩ : ∃ rs, kl (G.K m) ++ s = rs := ⟨_, rfl⟩
    rw [hrs] at rg1 rg2 T3 hri hDR I4 kdr hlen hTy hTl ⊢
    obtain ⟨D, hD⟩ : ∃ D, extD A hh m rs G = D := ⟨_, rfl⟩
    have hD2 : tid (ltN A) rs ⟨[], ext3 hh m rs G, 0⟩ = D := hD
    have e4 : ext4 A hh m rs G = rtsL (ltN A) hh D.T D.G 0 := by unfold ext4; rw [hD]
    rw [hD] at hri hDR hTy hTl kdr ⊢
    rw [e4] at I4 kdr ⊢
    obtain ⟨R4, hR4⟩ : ∃ R4, rtsL (ltN A) hh D.T D.G 0 = R4 := ⟨_, rfl⟩
    rw [hR4] at I4 kdr ⊢
    have ka1 := fun W (hW : FbM W B F gt ct A st (raiseG G m)) => rall_any hW.rings rg1 rg2
    have H0 := Lib.hid (And.intro rg1 (And.intro rg2 (And.intro T3 (And.intro hin3 (And.intro hri (And.intro hDR (And.intro I4 (And.intro hTy (And.intro hTl (And.intro hD2 hR4))))))))))
    have HD := Lib.hid (And.intro hlt (And.intro hd (And.intro hd2 (And.intro hd3 hcm))))
    have KD := Lib.hid kdr
    clear M I rg1 rg2 T3 hin3 hri hDR I4 hR hm e1 e2 e3 hrs hlt hd hd2 hd3 hcm kdr hTy hTl hD hD2 e4 hR4
    have HA := Lib.hid ka1
    clear ka1
    rw [List.length_cons] at hlen
    go_enter Try.func62, Try.ntmps62
    go_wp2_with (first
      | (go_at_call 83; (with_reducible refine (km).mono ?_); rintro e w9 ⟨rfl, hw9⟩; rw [hw9]; clear hw9 w9)
      | ((go_at_call 84; (with_reducible refine (kra _ (by (repeat (first | assumption | exact Upd.refl _ _ | refine Upd.alloc ?_ _ | refine Upd.drew ?_ | refine Upd.drewN ?_ _ | refine Upd.setCell ?_ ?_ _ | focus (left; simp; done) | focus (right; simp; done) | focus (right; simp; omega))))).mono ?_)); rintro e w1 ⟨rfl, M1, hu1⟩; (have a1 := HA.out _ M1); (have b1 := M1.h1); (have HM1 := Lib.hid (And.intro M1 hu1)); clear M1 hu1 kra)
      | ((go_at_call 65; (with_reducible refine (a1).mono ?_)); rintro e w2 ⟨v2, rfl, ho2, hu2⟩; (have hs2 : SlI w2 (B.blk F gt) v2 (natI (m :: rs)) := SlI.of_own (base := w1.heap.size) (by rw [natI_len]; exact ho2) (fun g hg => Nat.lt_of_lt_of_le (HD.out.1 g hg) HM1.out.2.size)); obtain ⟨x2, c2, hv2, _⟩ := own_slice ho2; subst hv2; (have b2 := hu2.was b1); obtain ⟨a2', ha2⟩ : ∃ a', tailW x2 (rs.length + 1) c2 = .slice a' rs.length (c2 - 1) := ⟨_, rfl⟩; (have htl := fun W => run_tailW W x2 (rs.length + 1) c2 (by omega) (by omega)); rw [ha2] at htl; (have hs3 : SlI w2 (B.blk F gt) (.slice a2' rs.length (c2 - 1)) (natI rs) := by (rw [← ha2]; exact tailW_sl hs2)); (have HS2 := Lib.hid (And.intro hs3 hu2)); clear hs3 ha2; (have a2 := HA.out _ (HM1.out.1.upd0 hu2)); clear hs2 hu2 ho2 a1 b1)
      | ((go_at_call 65; (with_reducible refine (a2).mono ?_)); rintro e w3 ⟨v3, rfl, ho3, hu3⟩; rw [← natI_len] at ho3; obtain ⟨g3, c3, hv3, hZ3, hb3⟩ := IZ.of_own ho3 (by simp [natI]); rw [natI_len, List.length_cons] at hv3; subst hv3; (have HZ3 := Lib.hid (And.intro hZ3 (And.intro hb3 hu3))); clear ho3 hZ3 hb3 hu3 a2 b2)
      | fail)
    have hlt := HD.out.1
    go_loopw [38] (fun s38 wr => ∃ j : Nat, j ≤ rs.length + 1 ∧ s38 = .int .i64 (j : Int) ∧ FbM wr B F gt ct A st (prtL ((m :: rs).take j) (raiseG G m)) ∧ Upd [B.bn, B.bp] w3 wr) (fun s38 _ => rs.length + 1 - (intOf s38).toNat)
    case atStart => exact ⟨0, by omega, rfl, (HM1.out.1.upd0 HS2.out.2).upd0 HZ3.out.2.2, Upd.refl _ _⟩
    case round =>
      obtain ⟨j, hj, rfl, hM, hu⟩ := hrel
      rename World => wr
      by_cases hjl : j < rs.length + 1
      · obtain ⟨y, hy⟩ : ∃ y, (m :: rs)[j]? = some y := ⟨_, List.getElem?_eq_getElem (by simpa using hjl)⟩
        have hyn : y < A.cs.length := H0.out.2.1 y (List.mem_of_getElem? hy)
        have hg3 : g3 ∉ [B.bn, B.bp] := fun hm => by
          have h3 := HZ3.out.2.1
          have h2 := HS2.out.2.size
          have h1 := HM1.out.2.size
          simp at hm
          rcases hm with e | e
          · have := hlt B.bn (by simp [FB.blk]); omega
          · have := hlt B.bp (by simp [FB.blk]); omega
        have hc := hu.kept (HZ3.out.1.cell j (by rw [natI_len]; simpa using hjl)) hg3
        have hgy : (natI (m :: rs)).getD j 0 = (y : Int) := by unfold natI; rw [List.getD_eq_getElem?_getD, List.getElem?_map, hy]; rfl
        rw [hgy] at hc
        have b1 := hM.h1
        have kp := rpart_any hM.rings hyn
        have hjI : (j : Int) < (rs.length : Int) + 1 := by omega
        have hw1 : IntKind.i64.wrap ((j : Int) + 1) = (j : Int) + 1 := IntWalk.i64_in _ (by omega)
        have et : (m :: rs).take (j + 1) = (m :: rs).take j ++ [y] := by rw [List.take_add_one, hy]; rfl
        have HR := Lib.hid (And.intro hM (And.intro hu et))
        clear hM hu et hy hgy hlt
        go_wp2_with (first
          | ((go_at_call 85; (with_reducible refine (kp).mono ?_)); rintro e w5 ⟨rfl, hR5, hu5⟩)
          | fail)
        obtain ⟨hM, hu, et⟩ := HR.out
        refine ⟨⟨j + 1, by omega, by go_num, ?_, hu.trans hu5⟩, by simp [intOf]; omega⟩
        rw [et, prtL_snoc]
        exact hM.setR hu5 hR5
      · obtain rfl : j = rs.length + 1 := by omega
        have et : (m :: rs).take (rs.length + 1) = m :: rs := List.take_of_length_le (by simp)
        rw [et] at hM
        have q3 := hM.h3
        have qt := hM.top (q := hh) hl
        have qf := hM.tops.free hh
        have hgtn : B.n0 ≠ gt := HD.out.2.2.1.2.2.2.2
        obtain ⟨w4, hw4⟩ : ∃ w4, w4 = wr.setCell ⟨gt, hh, none⟩ (.int .i64 (-1)) := ⟨_, rfl⟩
        have e3' : ({ prtL (m :: rs) (raiseG G m) with R := putF (prtL (m :: rs) (raiseG G m)).R hh [] } : FG) = ext3 hh m rs G := by
          unfold ext3; rw [(prtL_same _ _).2.2.2, raise_R]
        have M4 : FbM w4 B F gt ct A st (ext3 hh m rs G) := by rw [hw4, ← e3']; exact hM.setT hh []
        have hu4 : Upd [gt] wr w4 := by rw [hw4]; (repeat (first | assumption | exact Upd.refl _ _ | refine Upd.drew ?_ | refine Upd.alloc ?_ _ | refine Upd.setCell ?_ ?_ _ | focus (left; simp; done) | focus (right; simp; done) | focus (right; simp; omega) | (apply Upd.trans; rotate_left; assumption)))
        have hw3 : Upd (B.blk F gt) w3 w4 := (hu.mono (fun z hz => by simp at hz; rcases hz with e | e <;> simp [FB.blk, e])).trans (hu4.mono (fun z hz => by simp at hz; simp [FB.blk, hz]))
        have hs4 : SlI w4 (B.blk F gt) (.slice a2' rs.length (c2 - 1)) (natI rs) := (HS2.out.1.turned HZ3.out.2.2 (by simp)).turned hw3 (fun g hg => Or.inl hg)
        have kt := ftidy_any M4 h1 H0.out.2.2.2.1 H0.out.2.2.1 (hs4.fewer (fun g hg => by
          simp only [List.mem_cons, List.not_mem_nil, or_false] at hg
          rcases hg with e | e | e | e
          · rw [e]; exact fblk_F _ HD.out.2.2.2.2
          all_goals simp [FB.blk, e]))
        rw [H0.out.2.2.2.2.2.2.2.2.2.1] at kt
        have hU4 : Upd (B.blk F gt) w w4 := (((HM1.out.2.mono (fun z hz => by simp at hz; rcases hz with e | e | e <;> simp [FB.blk, e])).then HS2.out.2).then HZ3.out.2.2).trans hw3
        have H4 := Lib.hid (And.intro hU4 (And.intro hw4 hl))
        rw [hw4] at kt
        clear hM hu et M4 hu4 hw3 hs4 hU4 hw4 e3' hlt
        go_wp2_with (first
          | ((go_at_call 86; (with_reducible refine (kt).mono ?_)); rintro e w5 ⟨v5, rfl, ho5, M5, hu5⟩; obtain ⟨a5, c5, hv5, _⟩ := own_slice ho5; subst hv5)
          | fail)
        obtain ⟨hU4, hw4, hl⟩ := H4.out
        rw [← hw4] at hu5
        have hz0 := satS_zero hst
        rw [← hw4] at ho5
        have hs5 : SlI w5 (B.blk F gt) (.slice a5 D.T.length c5) D.T := SlI.of_own (base := w4.heap.size) ho5 (fun g hg => Nat.lt_of_lt_of_le (HD.out.1 g hg) hU4.size)
        have hu5' : Upd (B.blk F gt) w4 w5 := hu5.mono (fun z hz => by
          simp only [List.mem_cons, List.not_mem_nil, or_false] at hz
          rcases hz with e | e | e | e
          · rw [e]; exact fblk_F _ HD.out.2.2.2.2
          all_goals simp [FB.blk, e])
        have hU5 := hU4.trans hu5'
        have H5 := Lib.hid (And.intro M5 (And.intro hs5 hU5))
        have hTl : D.T.length ≤ 65537 := by have := H0.out.2.2.2.2.2.2.2.2.1; omega
        clear M5 hs5 hU5 hu5 hu5' ho5 hU4 hw4 q3 qt qf kt H4
        go_loopw [59] (fun s59 wr2 => ∃ (i : Nat) (G' : FG) (q' : Nat), i ≤ D.T.length ∧ s59 = .int .i64 (i : Int) ∧ rtsL (ltN A) hh (D.T.drop i) G' q' = R4 ∧ RI A.cs.length (fun y => ((dropN A (m : Int)).c y).i) (lt3 A) hh (plT (D.T.drop i)) G' ∧ FbM wr2 B F gt ct A (satS st (D.q + q')) G' ∧ Upd (B.blk F gt) w5 wr2) (fun s59 _ => D.T.length - (intOf s59).toNat)
        case atStart => exact ⟨0, D.G, 0, by omega, rfl, H0.out.2.2.2.2.2.2.2.2.2.2, H0.out.2.2.2.2.1, H5.out.1, Upd.refl _ _⟩
        case round =>
          obtain ⟨i, G', q', hi, rfl, hRt, hRI, hM, hu⟩ := hrel
          rename World => wr2
          by_cases hil : i < D.T.length
          · obtain ⟨y, hy⟩ : ∃ y, D.T[i]? = some y := ⟨_, List.getElem?_eq_getElem hil⟩
            have hdr : D.T.drop i = y :: D.T.drop (i + 1) := by
              rw [List.drop_eq_getElem_cons hil]
              congr 1
              rw [List.getElem?_eq_getElem hil] at hy
              injection hy
            rw [hdr] at hRt hRI
            unfold rtsL at hRt
            rw [plT_cons] at hRI
            obtain ⟨a6, c6, e6, _, _, hel⟩ := H5.out.2.1
            have e7 : a5 = a6 := by injection e6
            subst e7
            obtain ⟨g6, o6, rfl, hg6, hF6, hc6⟩ := hel i y hy
            have hc7 := hu.kept hc6 hF6
            have hiI : (i : Int) < (D.T.length : Int) := by omega
            have hw1 : IntKind.i64.wrap ((i : Int) + 1) = (i : Int) + 1 := IntWalk.i64_in _ (by omega)
            have hTy := H0.out.2.2.2.2.2.2.2.1 y (List.mem_of_getElem? hy)
            by_cases e : y = -1
            · rw [if_pos e] at hRt hRI
              rw [e] at hc7
              have HR := Lib.hid (And.intro hRt (And.intro hRI (And.intro hM hu)))
              clear hRt hRI hM hu hy hdr hel e6 hc6 e
              go_wp2
              exact ⟨⟨i + 1, G', q', by omega, by go_num, HR.out.1, HR.out.2.1, HR.out.2.2.1, HR.out.2.2.2⟩, by simp [intOf]; omega⟩
            · rw [if_neg e] at hRt hRI
              obtain ⟨z, rfl⟩ : ∃ z : Nat, y = z := ⟨y.toNat, by omega⟩
              rw [Int.toNat_natCast] at hRt hRI
              have hzn : ((z : Int) == -1) = false := by simp
              have hzr := (hRI.pr z (by simp)).1
              have hzin := H0.out.2.2.2.1 z hzr.1 hzr.2.2
              have kr := fun W (hW : Upd [] wr2 W) => froot_any (hM.upd0 hW) [] hl hzin (fun t s' et => by
                have hm := hRI.mem t (by rw [et]; simp)
                exact H0.out.2.2.2.1 t hm.1 hm.2.2)
              obtain ⟨hRI2, _⟩ := hRI.step h1 (fun G => ltN_ok _ _ _ _ _) (fun a b c => lt3_trans)
              have HR := Lib.hid (And.intro hRt (And.intro hRI2 hu))
              clear hRt hRI hM hu hy hdr hel e6 hc6 e hRI2 hzr hzin hTy
              go_wp2_with (first
                | ((go_at_call 82; (with_reducible refine (kr _ (by (repeat (first | assumption | exact Upd.refl _ _ | refine Upd.alloc ?_ _ | refine Upd.drew ?_ | refine Upd.drewN ?_ _ | refine Upd.setCell ?_ ?_ _ | focus (left; simp; done) | focus (right; simp; done) | focus (right; simp; omega))))).mono ?_)); rintro e w6 ⟨rfl, hM6, hu6⟩)
                | fail)
              rw [satS_add] at hM6
              refine ⟨⟨i + 1, _, q' + rootQ hh G', by omega, by go_num, HR.out.1, HR.out.2.1, by rw [← Nat.add_assoc]; exact hM6, HR.out.2.2.trans (hu6.mono (fun z hz => ?_))⟩, by simp [intOf]; omega⟩
              simp only [List.mem_cons, List.not_mem_nil, or_false] at hz
              rcases hz with e | e | e | e
              · rw [e]; exact fblk_F _ HD.out.2.2.2.2
              all_goals simp [FB.blk, e]
          · obtain rfl : i = D.T.length := by omega
            have hdr : D.T.drop D.T.length = [] := List.drop_eq_nil_of_le (Nat.le_refl _)
            rw [hdr] at hRt
            have hRt' : (G', q') = R4 := hRt
            subst hRt'
            have q0 := hM.h0
            have kd := KD.out wr2 F B.c hM.cells
            have HR := Lib.hid (And.intro hM hu)
            clear hRt hRI hM hu hdr
            go_wp2_with (first
              | ((go_at_call 87; (with_reducible refine (kd).mono ?_)); rintro e w7 ⟨rfl, hC7, hu7⟩)
              | fail)
            go_ret2
            refine ⟨rfl, B.blk F gt, ⟨⟨B, F, gt, ct, rfl, rfl, HR.out.1.setC hu7 hC7 (fun y hy => Or.inl hy) (drop_len A m) (by rw [drop_hs])⟩, H0.out.2.2.2.2.2.2.1⟩, (H5.out.2.2.trans HR.out.2).trans (hu7.mono fblk_F), fun y hy => Or.inl hy⟩
end
end Go.Proofs.Ytighgbdijagolaa
