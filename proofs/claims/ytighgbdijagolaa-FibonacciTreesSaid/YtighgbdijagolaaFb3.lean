/-
  Fibonacci heaps: tidy. Conditions: those of each lemma.
-/
import Derived.Test.YtighgbdijagolaaFb2
import Derived.Test.YtighgbdijagolaaGfb
import Derived.Deep.DeepCutAuto
import Derived.Outline
import Derived.Deep.LoopGhost
set_option linter.unusedVariables false
set_option linter.unusedSimpArgs false
namespace Go.Proofs.Ytighgbdijagolaa
open Go Go.RowKit

theorem own_setI {w : World} {base g n cap : Nat} {l : List Int} (h : w.ownsRow base 3 1 (.slice (some ⟨g, 0, none⟩) n cap) n (intsZ l)) (j : Nat) (x : Int) : (w.setCell ⟨g, j, none⟩ (.int .i64 x)).ownsRow base 3 1 (.slice (some ⟨g, 0, none⟩) n cap) n (intsZ (l.set j x)) := by
  have hl : l.length = n := by have := h.1; rw [intsZ_len] at this; omega
  rcases h.2 with ⟨h1, _⟩ | ⟨g', cap', cur, h1, hb, hg, hn, hc, hs, ht⟩
  · cases h1
  · cases h1
    refine ⟨by rw [intsZ_len, List.length_set]; omega, Or.inr ⟨g, cap, cur.setIfInBounds j (.int .i64 x), rfl, by simpa using hb, ?_, hn, hc, by simp; omega, ?_⟩⟩
    · simp [World.setCell, Array.getElem?_modify, hg]
    · rw [Array.toList_setIfInBounds]
      by_cases hj : j < n
      · rw [List.take_set, ht]
        unfold intsZ
        rw [List.map_set]
      · rw [List.take_set_of_le (by omega), ht, List.set_eq_of_length_le (by omega)]
section
variable {w : World} {B : FB} {F : List Nat} {gt ct : Nat} {A : NS} {st : Nat} {G : FG}
/-- What a row of the call's own turned is none of a nest's. -/
theorem FbM.own {w0 w1 w2 : World} {e : TypeId} {size k : Nat} {v : Value} {xs : List Value} (h : FbM w1 B F gt ct A st G) (hb : ∀ x, x ∈ B.blk F gt → x < w0.heap.size) (ho : w1.ownsRow w0.heap.size e size v k xs) (hu : Upd v.ownBlock.toList w1 w2) : FbM w2 B F gt ct A st G :=
  h.upd hu (fun x hx hm => by
    have h1 := (ho.lt x (by simpa using hx)).1
    have h2 := hb x hm
    omega)
set_option maxHeartbeats 8000000 in
theorem ftidy_any (M : FbM w B F gt ct A st G) {rs : List Nat} {v : Value} {h : Nat} {hom : Nat → Int} (h1 : 1 ≤ h) (hin : ∀ z, z < A.cs.length → hom z = h → inN A (z : Int) = true) (H : TT A.cs.length hom (lt3 A) h [] rs G) (hv : SlI w [B.c, B.bn, B.bp, B.bl] v (natI rs)) :
    Calls Try.prog 86 #[.pointer (some ⟨B.n0, 0, none⟩), v] w fun e w' => ∃ v', e = .returned v' ∧ w'.ownsRow w.heap.size 3 1 v' (tid (ltN A) rs ⟨[], G, 0⟩).T.length (intsZ (tid (ltN A) rs ⟨[], G, 0⟩).T) ∧
      FbM w' B F gt ct A (satS st (tid (ltN A) rs ⟨[], G, 0⟩).q) (tid (ltN A) rs ⟨[], G, 0⟩).G ∧ Upd [B.c, B.bn, B.bp, B.bl] w w' := by
  have hc1 := M.cells.ok.c1
  have hz := satS_zero M.cells.st62
  have hlr : rs.length ≤ A.cs.length := nodup_bound _ _ H.nd (fun z hz => (H.xr z hz).1)
  obtain ⟨a, cap, rfl, hcap, hcap2, hel⟩ := hv
  rw [natI_len] at hcap ⊢
  have hlt := M.lt
  obtain ⟨g1, g2, g3, g4, g5, g6, g7⟩ := M.d3
  obtain ⟨e1, e2, e3, e4, e5⟩ := M.d2
  have cn := M.cn
  obtain ⟨D, hD⟩ : ∃ D, tid (ltN A) rs ⟨[], G, 0⟩ = D := ⟨_, rfl⟩
  rw [hD]
  have hbl : ∀ y, y ∈ [B.c, B.bn, B.bp, B.bl] → y < w.heap.size := fun y hy => by
    simp only [List.mem_cons, List.not_mem_nil, or_false] at hy
    rcases hy with rfl | rfl | rfl | rfl
    · exact M.cells.lt _ M.cells.mem
    · exact hlt _ (by simp [FB.blk])
    · exact hlt _ (by simp [FB.blk])
    · exact hlt _ (by simp [FB.blk])
  have HLT := Lib.hid hlt
  have H0 := Lib.hid (And.intro M (And.intro H (And.intro hD (And.intro hel (And.intro hbl hz)))))
  clear M H hD hel hbl hz hlt
  generalize hrl : rs.length = len at *
  have HRL := Lib.hid hrl
  clear hrl
  go_enter Try.func86, Try.ntmps86
  go_wp2
  go_loopw [5, 12] (fun s5 s12 wr => ∃ (i : Nat) (T : List Int) (G' : FG) (q : Nat), i ≤ len ∧ s12 = .int .i64 (i : Int) ∧ tid (ltN A) (rs.drop i) ⟨T, G', q⟩ = D ∧ TT A.cs.length hom (lt3 A) h T (rs.drop i) G' ∧ T.length ≤ A.cs.length + 1 ∧
    wr.ownsRow w.heap.size 3 1 s5 T.length (intsZ T) ∧ FbM wr B F gt ct A (satS st q) G' ∧ Upd [B.c, B.bn, B.bp, B.bl] w wr) (fun _ s12 _ => len - (intOf s12).toNat)
  case atStart =>
    obtain ⟨M, H, hD, hel, hbl, hz⟩ := H0.out
    exact ⟨0, [], G, 0, by omega, rfl, hD, H, by simp, World.ownsRow_nil _ _ _ _, by rw [hz]; exact M, Upd.refl _ _⟩
  case round =>
    obtain ⟨i, T, G', q, hi, rfl, hD, hT, hTl, ho, hM, hu⟩ := hrel
    rename World => wr
    by_cases hil : i < len
    · obtain ⟨x, hx⟩ : ∃ x, rs[i]? = some x := ⟨_, List.getElem?_eq_getElem (by rw [HRL.out]; exact hil)⟩
      have hdr : rs.drop i = x :: rs.drop (i + 1) := by
        rw [List.drop_eq_getElem_cons (by rw [HRL.out]; exact hil)]
        congr 1
        rw [List.getElem?_eq_getElem (by rw [HRL.out]; exact hil)] at hx
        injection hx
      rw [hdr] at hD hT
      obtain ⟨gr, off, rfl, hgl, hgF, hcx⟩ := H0.out.2.2.2.1 i (x : Int) (by unfold natI; rw [List.getElem?_map, hx]; rfl)
      have hcx := hu.kept hcx hgF
      have hiI : (i : Int) < (len : Int) := by omega
      have hw1 : IntKind.i64.wrap ((i : Int) + 1) = (i : Int) + 1 := IntWalk.i64_in _ (by omega)
      have HR := Lib.hid (And.intro hD (And.intro hT (And.intro ho (And.intro hM hu))))
      clear hD hT ho hM hu hx hdr
      go_wp2
      obtain ⟨D1, hD1⟩ : ∃ D1, tin (ltN A) (occ T + 1) T x G' q = D1 := ⟨_, rfl⟩
      have HD1 := Lib.hid hD1
      clear hD1
      go_loopg [5, 7] (occ T + 1) (fun fu s5 s7 wr2 => ∃ (T1 : List Int) (x1 : Nat) (G1 : FG) (q1 : Nat), s7 = .int .i64 (x1 : Int) ∧ tin (ltN A) fu T1 x1 G1 q1 = D1 ∧ occ T1 < fu ∧ TT A.cs.length hom (lt3 A) h T1 (x1 :: rs.drop (i + 1)) G1 ∧ T1.length ≤ A.cs.length + 1 ∧
        wr2.ownsRow w.heap.size 3 1 s5 T1.length (intsZ T1) ∧ FbM wr2 B F gt ct A (satS st q1) G1 ∧ Upd [B.c, B.bn, B.bp, B.bl] w wr2)
      case atStart => exact ⟨T, x, G', q, rfl, HD1.out, by omega, HR.out.2.1, hTl, HR.out.2.2.1, HR.out.2.2.2.1, HR.out.2.2.2.2⟩
      case round =>
        rename Nat => fu
        obtain ⟨T1, x1, G1, q1, rfl, hI, hocc, hT1, hTl1, ho1, hM1, hu1⟩ := hrel
        rename World => wr2
        obtain ⟨fv, rfl⟩ : ∃ fv, fu = fv + 1 := ⟨fu - 1, by omega⟩
        have hxr := hT1.xr x1 (by simp)
        have hx1 := hxr.1
        have hx1I : (x1 : Int) < (A.cs.length : Int) := by omega
        have hq2 := hM1.h2
        have hp2 := hM1.p2 hx1
        have hdn := hT1.ff.klen hx1
        obtain ⟨d, hd⟩ : ∃ d, (G1.K x1).length = d := ⟨_, rfl⟩
        rw [hd] at hp2 hdn
        have hsz1 := hu1.size
        have HI := Lib.hid (And.intro hI (And.intro hocc (And.intro hT1 (And.intro hM1 (And.intro hu1 (And.intro ho1 (And.intro hd hxr)))))))
        clear hI hocc hT1 hM1 hu1 hd hxr hx1
        obtain ⟨a5, c5, rfl, hc5⟩ := own_slice ho1
        clear ho1
        go_wp2
        go_loopw [5] (fun s5 wr3 => ∃ m : Nat, T1.length + m ≤ max T1.length (d + 1) ∧ wr3.ownsRow w.heap.size 3 1 s5 (T1.length + m) (intsZ (T1 ++ List.replicate m (-1))) ∧ FbM wr3 B F gt ct A (satS st q1) G1 ∧ Upd [B.c, B.bn, B.bp, B.bl] w wr3) (fun s5 _ => match s5 with | .slice _ l _ => d + 1 - l | _ => 0)
        case atStart =>
          obtain ⟨hI, hocc, hT1, hM1, hu1, ho1, hd, hxr⟩ := HI.out
          exact ⟨0, by omega, by simpa using ho1, hM1, hu1⟩
        case round =>
          obtain ⟨m, hm, ho, hM, hu⟩ := hrel
          rename World => wr3
          obtain ⟨a, c, rfl, hc⟩ := own_slice ho
          by_cases hmd : T1.length + m ≤ d
          · have hmdI : ((T1.length + m : Nat) : Int) ≤ (d : Int) := by omega
            have hsz3 := hu.size
            have HU := Lib.hid (And.intro hM hu)
            clear hM hu
            go_wp2_with (first
              | (at_builtin; refine wpList_append_sep rfl _ _ 63 rfl w.heap.size 3 (.int .i64 0) 1 8 Try.underlying63 intInfo rfl (by decide) _ _ _ rfl (ho) [.int .i64 (-1)] rfl (by simp [Value.oneCell']) (by first | rfl | (rw [World.size_alloc]; rfl)) (by unfold maxLen; omega) (by omega) ((by omega)) ?_; intro v2 w2 ho2 hu2 hsep2)
              | fail)
            obtain ⟨hM, hu⟩ := HU.out
            obtain ⟨a2, c2, rfl, _⟩ := own_slice ho2
            refine ⟨⟨m + 1, by omega, ?_, hM.own HLT.out ho hu2, hu.own ho (Nat.le_refl _) hu2⟩, by simp; omega⟩
            rw [List.replicate_succ', ← List.append_assoc, intsZ_append]
            exact ho2
          · have hm' : m = d + 1 - T1.length := by omega
            have hP : T1 ++ List.replicate m (-1) = padT T1 d := by unfold padT; rw [hm']
            rw [hP] at ho
            obtain ⟨hI, hocc, hT1, hM1, hu1, ho1, hd, hxr⟩ := HI.out
            obtain ⟨s0, s1, s2⟩ := hT1.step (ltN_ok A A.cs.length G1 _ h) h1
            rw [hd] at s0 s1 s2
            unfold tin at hI
            rw [hd] at hI
            have hPl := pad_len T1 d
            have hPn : T1.length + m = (padT T1 d).length := by omega
            rw [hPn] at ho ⊢
            obtain ⟨P, eP⟩ : ∃ P, padT T1 d = P := ⟨_, rfl⟩
            rw [eP] at ho s0 s1 s2 hI hPl ⊢
            obtain ⟨g, cp, hv, hbg, hgs, hcp1, hcp2, hcell, hfrz⟩ := own_shape ho (by omega)
            have hcd : wr3.cell? ⟨g, d, none⟩ = some (.int .i64 (P.getD d (-1))) := hcell d _ (by unfold intsZ; rw [List.getElem?_map, s0]; rfl)
            have hfd := hfrz d
            rw [hv] at ho ⊢
            have hPlI : (d : Int) < (P.length : Int) := by clear s0 s1 s2 hI; omega
            have hPb : (P.length : Int) ≤ 65537 := by clear s0 s1 s2 hI; omega
            have hni : ¬ (P.length : Int) ≤ (d : Int) := by clear s0 s1 s2 hI; omega
            have hgbl : g ∉ B.blk F gt := fun hm => by have := HLT.out g hm; omega
            have HPL := Lib.hid hPl
            clear hPl
            by_cases hy : P.getD d (-1) = -1
            · rw [if_pos hy] at hI
              rw [hy] at hcd
              have HS := Lib.hid (And.intro hM (And.intro hu (And.intro ho (And.intro (s1 hy) hI))))
              clear hI hocc hT1 hM1 hu1 ho1 hd hxr s0 s1 s2 hM hu ho hcell hfrz hv eP hP hy HI hPn
              go_wp2
              obtain ⟨hM, hu, ho, hpl, hI⟩ := HS.out
              obtain ⟨hD, hT, _, _, _⟩ := HR.out
              have hD2 : tid (ltN A) (rs.drop (i + 1)) ⟨P.set d x1, G1, q1⟩ = D := by
                have : tid (ltN A) (x :: rs.drop (i + 1)) ⟨T, G', q⟩ = tid (ltN A) (rs.drop (i + 1)) (tin (ltN A) (occ T + 1) T x G' q) := rfl
                rw [this, HD1.out, ← hI] at hD
                exact hD
              refine ⟨⟨i + 1, P.set d x1, G1, q1, by omega, by go_num, hD2, hpl.1, by rw [List.length_set]; have := HPL.out; omega, ?_, hM.upd ((Upd.refl [g] wr3).setCell (Or.inl (by simp)) _) (fun y hy => by simp at hy; subst hy; exact hgbl), hu.setCell (Or.inr hbg) _⟩, by simp [intOf]; omega⟩
              rw [List.length_set]
              exact own_setI ho d x1
            · rw [if_neg hy] at hI
              obtain ⟨z, ez, hzn, hzx, hzh, hoc, st1, st2⟩ := s2 hy
              rw [ez] at hcd hI
              rw [Int.toNat_natCast] at hI
              have hxn := hxr.1
              have hin1 : inN A (x1 : Int) = true := hin x1 hxn hxr.2.2
              have hinz : inN A (z : Int) = true := hin z hzn hzh
              have hzm : ((z : Int) == -1) = false := by simp
              have hu0 : Upd [g] wr3 (wr3.setCell ⟨g, d, none⟩ (.int .i64 (-1))) := (Upd.refl [g] wr3).setCell (Or.inl (by simp)) _
              have hgc : B.n0 ∉ [g] := by simp; intro e; exact hgbl (by rw [← e]; simp [FB.blk])
              have hM2 := hM.upd hu0 (fun y hy => by simp at hy; subst hy; exact hgbl)
              have ka := cahead_yes hM2.cells z x1 hinz hin1
              have hn0 : (wr3.setCell ⟨g, d, none⟩ (.int .i64 (-1))).cell? ⟨B.n0, 0, none⟩ = some (.pointer (some ⟨B.c, 0, none⟩)) := hM2.h0
              have ho2 := own_setI ho d (-1)
              obtain ⟨wq, hwq⟩ : ∃ wq, wr3.setCell ⟨g, d, none⟩ (.int .i64 (-1)) = wq := ⟨_, rfl⟩
              rw [hwq] at hM2 ka hn0 ho2 hu0
              have huq : Upd [B.c, B.bn, B.bp, B.bl] w wq := hwq ▸ hu.setCell (Or.inr hbg) _
              have HS := Lib.hid (And.intro hM2 (And.intro huq (And.intro ho2 (And.intro hI (And.intro hoc (And.intro st1 (And.intro st2 (And.intro hT1 hocc))))))))
              cases hb : decide (lt3 A z x1) with
              | true =>
                rw [hb] at ka
                have kz := fun W st' (hW : FbM W B F gt ct A st' G1) => funder_any hW (x := z) (y := x1) hzn hxn (fun k t e => (hT1.ff.kid z k hzn (by rw [e]; simp)).1) (Nat.le_trans (hT1.ff.klen hzn) hc1)
                have KZ := Lib.hid kz
                have HB := Lib.hid hb
                clear hI hocc hT1 hM1 hu1 ho1 hd hxr s0 s1 s2 hM hu ho hcell hfrz hv eP hP hy HI hPn st1 st2 hoc hM2 huq ho2 ez kz hb
                go_wp2_with (first
                  | ((go_at_call 104; (with_reducible refine (ka).mono ?_)); rintro e w5 ⟨rfl, hC5, hu5⟩; (have k5 := KZ.out w5 _ (HS.out.1.setSt hu5 hC5)); (have HU5 := Lib.hid hu5); clear hC5 hu5 ka)
                  | ((go_at_call 105; (with_reducible refine (k5).mono ?_)); rintro e w6 ⟨rfl, hM6, hu6⟩; (have HU6 := Lib.hid (And.intro hM6 hu6)); clear hM6 hu6 k5)
                  | fail)
                go_roundg fv
                case measure => omega
                case rel =>
                  obtain ⟨hM2, huq, ho2, hI, hoc, st1, st2, hT1, hocc⟩ := HS.out
                  have hlt2 : ltN A z x1 = true := HB.out
                  rw [hlt2, if_pos rfl] at hI
                  obtain ⟨hM6, hu6⟩ := HU6.out
                  have hu5 := HU5.out
                  have hg1 : ∀ y, y ∈ [B.c, B.bn, B.bp, B.bl] → y ≠ g := fun y hy e => by have := H0.out.2.2.2.2.1 y hy; omega
                  rw [satS_add] at hM6
                  refine ⟨P.set d (-1), z, underG G1 x1 z, q1 + 1, rfl, hI, by omega, st1 hlt2, by rw [List.length_set]; have := HPL.out; omega, ?_, hM6, ?_⟩
                  · rw [List.length_set]
                    exact owns_upd (owns_upd ho2 hu5 (fun y hy hm => by simp [Value.ownBlock] at hy hm; exact hg1 B.c (by simp) (by omega))) hu6 (fun y hy hm => by simp [Value.ownBlock] at hy; subst hy; exact hg1 g (by simp at hm; rcases hm with e | e | e <;> simp [e]) rfl)
                  · exact (huq.trans (hu5.mono (by simp))).trans (hu6.mono (fun y hy => by simp at hy; rcases hy with e | e | e <;> simp [e]))
              | false =>
                rw [hb] at ka
                have kz := fun W st' (hW : FbM W B F gt ct A st' G1) => funder_any hW (x := x1) (y := z) hxn hzn (fun k t e => (hT1.ff.kid x1 k hxn (by rw [e]; simp)).1) (Nat.le_trans (hT1.ff.klen hxn) hc1)
                have KZ := Lib.hid kz
                have HB := Lib.hid hb
                clear hI hocc hT1 hM1 hu1 ho1 hd hxr s0 s1 s2 hM hu ho hcell hfrz hv eP hP hy HI hPn st1 st2 hoc hM2 huq ho2 ez kz hb
                go_wp2_with (first
                  | ((go_at_call 104; (with_reducible refine (ka).mono ?_)); rintro e w5 ⟨rfl, hC5, hu5⟩; (have k5 := KZ.out w5 _ (HS.out.1.setSt hu5 hC5)); (have HU5 := Lib.hid hu5); clear hC5 hu5 ka)
                  | ((go_at_call 105; (with_reducible refine (k5).mono ?_)); rintro e w6 ⟨rfl, hM6, hu6⟩; (have HU6 := Lib.hid (And.intro hM6 hu6)); clear hM6 hu6 k5)
                  | fail)
                go_roundg fv
                case measure => omega
                case rel =>
                  obtain ⟨hM2, huq, ho2, hI, hoc, st1, st2, hT1, hocc⟩ := HS.out
                  have hlt2 : ltN A z x1 = false := HB.out
                  rw [hlt2, if_neg (by simp)] at hI
                  obtain ⟨hM6, hu6⟩ := HU6.out
                  have hu5 := HU5.out
                  have hg1 : ∀ y, y ∈ [B.c, B.bn, B.bp, B.bl] → y ≠ g := fun y hy e => by have := H0.out.2.2.2.2.1 y hy; omega
                  rw [satS_add] at hM6
                  refine ⟨P.set d (-1), x1, underG G1 z x1, q1 + 1, rfl, hI, by omega, st2 hlt2, by rw [List.length_set]; have := HPL.out; omega, ?_, hM6, ?_⟩
                  · rw [List.length_set]
                    exact owns_upd (owns_upd ho2 hu5 (fun y hy hm => by simp [Value.ownBlock] at hy hm; exact hg1 B.c (by simp) (by omega))) hu6 (fun y hy hm => by simp [Value.ownBlock] at hy; subst hy; exact hg1 g (by simp at hm; rcases hm with e | e | e <;> simp [e]) rfl)
                  · exact (huq.trans (hu5.mono (by simp))).trans (hu6.mono (fun y hy => by simp at hy; rcases hy with e | e | e <;> simp [e]))
    · obtain rfl : i = len := by omega
      have hdr : rs.drop i = [] := List.drop_eq_nil_of_le (by have := HRL.out; omega)
      rw [hdr] at hD
      have hD2 : (⟨T, G', q⟩ : TD) = D := hD
      subst hD2
      have HR := Lib.hid (And.intro ho (And.intro hM hu))
      clear hT ho hM hu hD hdr
      go_wp2
      go_ret
      exact ⟨_, rfl, HR.out.1, HR.out.2.1, HR.out.2.2⟩
end
end Go.Proofs.Ytighgbdijagolaa
