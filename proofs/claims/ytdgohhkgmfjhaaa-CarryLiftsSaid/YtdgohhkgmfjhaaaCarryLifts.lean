/-
  The law on what is lifted again and again: its walk. Conditions: arguments that came in.
-/
import Derived.Test.YtdgohhkgmfjhaaaCarryPl3
import Derived.Test.YtdgohhkgmfjhaaaCarryTold
import Derived.Test.YtdgohhkgmfjhaaaCarryCounts
import Derived.Test.YtdgohhkgmfjhaaaCarryPlay
import Derived.Outline
set_option linter.unusedVariables false
set_option linter.unusedSimpArgs false
namespace Go.Proofs.Ytdgohhkgmfjhaaa
open Go Go.RowKit

theorem all_le {Z : List (List Int)} (hc : CubeZ Z) : ∀ (lev : Nat) (x : Nat) (hx : x < Z.length), (allZ Z lev x).length ≤ 2 ^ (Z[x]).length
  | 0, x, hx => Nat.zero_le _
  | lev + 1, x, hx => by
    have hzx : Z[x]? = some Z[x] := by simp [hx]
    have key : ∀ q, q ≤ (Z[x]).length → (((Z[x]).take q).flatMap (allZ Z lev)).length + 1 ≤ 2 ^ q := by
      intro q
      induction q with
      | zero => intro _; simp
      | succ q ih =>
        intro hq
        have hi : q < (Z[x]).length := by omega
        have h1 := ih (by omega)
        obtain ⟨y, hy, e, hl⟩ := hc x Z[x] hzx q (Z[x])[q] (by simp [hi])
        have h2 := all_le hc lev y hy
        rw [hl] at h2
        rw [List.take_add_one, List.getElem?_eq_getElem hi, e, Option.toList_some, List.flatMap_append, List.length_append, Nat.pow_succ]
        simp only [List.flatMap_cons, List.flatMap_nil, List.append_nil]
        generalize 2 ^ q = P at *
        omega
    have := key _ (Nat.le_refl _)
    rw [List.take_length] at this
    rw [allZ, if_pos (by omega), kidsZ_at hx, List.length_cons]
    exact this
theorem all_bd {Z : List (List Int)} (hc : CubeZ Z) (M : Nat) (hM : ∀ (x : Nat) (hx : x < Z.length), 2 ^ (Z[x]).length ≤ M) (l : Nat) (x : Int) : (allZ Z l x).length ≤ M := by
  by_cases hx : 0 ≤ x ∧ x < Z.length
  · obtain ⟨k, rfl⟩ : ∃ k : Nat, x = k := ⟨x.toNat, by omega⟩
    exact Nat.le_trans (all_le hc l k (by omega)) (hM k (by omega))
  · cases l with
    | zero => exact Nat.zero_le _
    | succ l => rw [allZ, if_neg hx]; exact Nat.zero_le _

structure LfI (w wr : World) (bt ba lo n : Nat) (S0 S : CS) (x t : Nat) (v0 : Value) (Z0 : List (List Int)) (m : Nat) : Prop where
  f : ForestAt wr bt ba lo n S
  ok : FOk n S.f
  db : DB n n S.f
  z : FrAt wr (ba :: S0.blk n) v0 Z0
  bl : ∀ g, g ∈ S.blk n → g ∈ S0.blk n
  li : LiftI n S x t (S0.k t).length
  ml : m ≤ (S.k x).length
  z0 : m = 0 → S = S0
  nz : 0 < m → S0.u x ≠ -1
  upd : Upd [] w wr

set_option maxRecDepth 100000 in
set_option maxHeartbeats 4000000 in
theorem lifts_ok (m8 : Nat) (x : Int) (w : World) (hm : m8 < 256) :
    Calls Try.prog 5 #[.int .u8 (m8 : Int), .int .i64 x] w fun e w' => e = .returned (.bool true) ∧ Upd [] w w' := by
  obtain ⟨r, hr, hr2⟩ : ∃ r : Nat, (m8 : Int) % 64 = r ∧ r < 64 := ⟨m8 % 64, by omega, by omega⟩
  obtain ⟨n, hn, hn1, hn2⟩ : ∃ n : Nat, 1 + (r : Int) = n ∧ 1 ≤ n ∧ n ≤ 64 := ⟨1 + r, by omega, by omega, by omega⟩
  have kN := fun W => carryNew_yes n W (by omega)
  go_enter Try.func5, Try.ntmps5
  go_wp2_with (first
    | ((go_at_call 9; (with_reducible refine (calive_any _).mono ?_)); rintro e w1 ⟨rfl, hu1⟩)
    | ((go_at_call 10; (with_reducible refine (kN _).mono ?_)); rintro e w2 ⟨bt, ba, rfl, hF2, hu2, hb1, hb2⟩))
  have hz1 := hu1.size
  have hz2 := hu2.size
  have hbt := hF2.head.lt
  have hba := hF2.row.lt
  have hu0 := hu1.trans hu2
  have hfl0 := fl_new (w := w) hF2 (by omega) (by omega) (.slice none 0 0) [] (keys_nil _ _)
  have hfl := hfl0.upd0 ((Upd.refl [] _).alloc (.cells #[] 3))
  have hI : CntI w ((w2.alloc (.cells #[.slice none 0 0, .int .i64 0] 37)).alloc (.cells #[] 3)) bt ba w2.heap.size n w.heap.size w2.heap.size [] (.slice none 0 0) 0 CS.none [] 0 (.slice (some ⟨w2.heap.size + 1, 0, none⟩) 0 0) :=
    ⟨hfl, ⟨_, 0, rfl, by simp, by omega, fun j u hj => by simp at hj⟩, ⟨fun x hx => by (cases hx), List.Pairwise.nil⟩, fun x hx => by (cases hx), fun x _ _ => ⟨rfl, rfl⟩, rfl, fun y p _ h => by (simp [CS.none, CS.f] at h; try omega), rfl, (hu0.alloc _).alloc _, by omega⟩
  have hD0 : DB n n CS.none.f := fun x _ => by simp [CS.none, CS.f]; omega
  clear hfl hfl0 hF2 kN hu1 hu2 hu0 hz1 hz2 hbt hba hb1 hb2
  have hbo : w2.heap.size < w2.heap.size + 1 := by omega
  generalize w2.heap.size = bo at *
  go_loopw [9, 10] (fun s9 s10 wr => ∃ (i : Nat) (S : CS) (O : List Int) (q : Nat), i ≤ n ∧ s10 = .int .i64 (i : Int) ∧ CntI w wr bt ba bo n w.heap.size bo [] (.slice none 0 0) i S O q s9 ∧ DB n n S.f) (fun _ s10 _ => n - (intOf s10).toNat)
  case atStart => exact ⟨0, _, _, _, by omega, rfl, hI, hD0⟩
  case round =>
    obtain ⟨i, S, O, q, hi, rfl, hC, hD⟩ := hrel
    clear hI hD0
    by_cases hin : i < n
    · obtain ⟨a6, c6, rfl, hc6⟩ := hC.sl.shape
      have kC := carry_law bt ba bo n w.heap.size bo S [] (.slice none 0 0) (.slice a6 O.length c6) (.slice (some ⟨wr.heap.size, 0, none⟩) 1 1) O [(i : Int)] q (wr.alloc (.cells #[.int .i64 (i : Int)] 3)) (hC.fl.upd0 ((Upd.refl [] _).alloc _)) (hC.sl.upd ((Upd.refl [] _).alloc _) (by simp)) (sl_lit wr _ i hC.fl.old) hC.row
        (row_one ⟨by omega, by omega, by have := (hC.un i (by omega) hin).1; simpa [CS.f] using this⟩) (fun x hx hm => by have := hC.lt x hx; simp at hm; omega) (by have := hC.q; omega)
      have HC := Lib.hid hC
      clear hC
      go_wp2_with ((go_at_call 15; (with_reducible refine (kC).mono ?_)); rintro e w3 ⟨S3, v3, O3, q3, rfl, fl3, to3, g3, oo3, so3, u3, b3⟩; obtain ⟨a7, c7, rfl, hc7⟩ := so3.shape)
      go_roundw
      case rel =>
        have hcar := carried g3 to3
        have hrow := hcar.row
        have hq3 : q3 + O3.length = i + 1 := by have h1 := hcar.cnt; have h2 := HC.out.q; simp at h1; omega
        have h1i : wt n S.f [(i : Int)] = 1 := by
          have : degF n S.f (i : Int) = 0 := by
            rw [degF_nat n S.f hin, show S.f.k i = [] from (HC.out.un i (Nat.le_refl _) hin).2]; rfl
          unfold wt; simp [this]
        have hwt : wt n S3.f O3 = i + 1 := by rw [hcar.wt, HC.out.wt, h1i]
        have hdb := carried_db g3 to3 hD (by rw [HC.out.wt, h1i]; omega)
        have hcc := HC.out
        have hout := fun (x : Nat) (h : i + 1 ≤ x) => hcar.out x (fun hm => by have := hcc.lt x hm; omega) (fun hm => by simp at hm; omega)
        have hlo := hcc.lo1
        refine ⟨i + 1, S3, O3, q3, by omega, by go_num, ⟨fl3, so3, hrow, fun x hx => ?_, fun x hx hxn => ?_, hwt, hcar.ho hcc.ho, hq3, ?_, hlo⟩, hdb⟩
        · rcases hcar.sub x hx with h | h
          · have := hcc.lt x h; omega
          · simp at h; omega
        · obtain ⟨h1, h2⟩ := hout x hx
          obtain ⟨h3, h4⟩ := hcc.un x (by omega) hxn
          exact ⟨h1.trans h3, h2.trans h4⟩
        · refine (hcc.upd.alloc _).joined u3 (fun x hx => Or.inr ?_)
          rcases List.mem_cons.1 hx with rfl | hx
          · exact hlo.2.2
          · rcases List.mem_cons.1 hx with rfl | hx
            · exact hlo.2.1
            · have := (hcc.fl.f.blk_lo hx).1; omega
      case measure => simp [intOf]; omega
    · obtain rfl : i = n := by omega
      have hf := hC.fl.f
      have hok := hC.fl.ok
      have hup := hC.upd
      have hlo := hC.lo1
      obtain ⟨a6, c6, rfl, hc6⟩ := hC.sl.shape
      clear hC
      by_cases hx : 0 ≤ x ∧ x < i
      · obtain ⟨xn, rfl⟩ : ∃ xn : Nat, x = xn := ⟨x.toNat, by omega⟩
        have hxn : xn < i := by omega
        have hle := hf.le
        have hzl : (toldZ i S.f).length = i := (told_rel i S.f).1
        have kT := told_any (ba :: S.blk i) wr bt ba bo i S hf (fun g hg => by
          rcases List.mem_cons.1 hg with rfl | hg
          · exact hf.row.lt
          · exact (hf.blk_lo hg).2)
        have HF := Lib.hid hf
        have HOK := Lib.hid hok
        clear hf hok
        go_wp2_with ((go_at_call 18; (with_reducible refine (kT).mono ?_)); rintro e w4 ⟨a4, c4, rfl, hz4, hu4⟩)
        have kU := fun y => zup_any w4 _ _ _ y hz4
        have hru := fun y => rel_up (told_rel i S.f) HOK.out y
        obtain ⟨W4, hW4⟩ : ∃ W4, W4 = w4 := ⟨_, rfl⟩
        subst hW4
        have HZ4 := Lib.hid hz4
        clear hz4
        go_loopw [12, 13] (fun s12 s13 wq => ∃ (t m : Nat), m ≤ i ∧ t < i ∧ s13 = .int .i64 (m : Int) ∧ s12 = .int .i64 (t : Int) ∧ wq = W4 ∧ (∀ T, Top S.u t T → Top S.u xn T) ∧ (m ≤ (S.k t).length ∨ S.u t = -1)) (fun _ s13 _ => i - (intOf s13).toNat)
        case atStart => exact ⟨xn, 0, by omega, by omega, rfl, rfl, rfl, fun T h => h, Or.inl (by omega)⟩
        case round =>
          obtain ⟨t, m, hm, ht, rfl, rfl, hwq, hT, hd⟩ := hrel
          subst hwq
          by_cases hmi : m < i
          · have kU1 := kU (t : Int)
            rw [hru] at kU1
            rcases HOK.out.up t ht with hut | ⟨p, hp, hut, hmem⟩
            · have e : upF i S.f (t : Int) = none := by unfold upF; rw [if_pos (by omega), Int.toNat_natCast, if_pos (show S.f.u t = -1 from hut)]
              rw [e, show ov none = 0 from rfl, show ob none = false from rfl] at kU1
              have HT := Lib.hid hT
              have HUT : S.u t = -1 := hut
              clear e kU hru hT hd hut
              go_wp2_with ((go_at_call 19; (with_reducible refine (kU1).mono ?_); rintro e w9 ⟨rfl, hw9⟩; rw [hw9]; clear hw9 w9))
              go_roundw
              case rel => exact ⟨t, m + 1, by omega, by omega, by go_num, rfl, by first | rfl | trivial, HT.out, Or.inr HUT⟩
              case measure => simp [intOf]; omega
            · have e : upF i S.f (t : Int) = some (p : Int) := by unfold upF; rw [if_pos (by omega), Int.toNat_natCast, if_neg (by rw [show S.f.u t = (p : Int) from hut]; omega)]; exact congrArg some hut
              rw [e, show ov (some (p : Int)) = (p : Int) from rfl, show ob (some (p : Int)) = true from rfl] at kU1
              have hdg : (S.k t).length < (S.k p).length := by
                obtain ⟨j, hj, he⟩ := List.getElem_of_mem hmem
                have h2 := HOK.out.cube p hp j (t : Int) (by rw [List.getElem?_eq_getElem hj, he])
                rw [Int.toNat_natCast] at h2
                have h3 : (S.k t).length = j := h2
                have h4 : j < (S.k p).length := hj
                omega
              have hut' : S.u t = p := hut
              have hdp : m + 1 ≤ (S.k p).length ∨ S.u p = -1 := Or.inl (by rcases hd with h | h <;> omega)
              have hTp := Lib.hid (show ∀ T, Top S.u p T → Top S.u xn T from fun T h => hT T (Top.up t p T hut' h))
              clear e kU hru hT hd hut hut' hdg hmem
              go_wp2_with ((go_at_call 19; (with_reducible refine (kU1).mono ?_); rintro e w9 ⟨rfl, hw9⟩; rw [hw9]; clear hw9 w9))
              go_roundw
              case rel => exact ⟨p, m + 1, by omega, by omega, by go_num, rfl, by first | rfl | trivial, hTp.out, hdp⟩
              case measure => simp [intOf]; omega
          · obtain rfl : m = i := by omega
            have hroot : S.u t = -1 := by
              rcases hd with h | h
              · have h5 : (S.k t).length + 1 ≤ m := HOK.out.len ht
                omega
              · exact h
            have htop := hT t (Top.here t hroot)
            clear hT hd kU hru
            have hli0 : LiftI m S xn t (S.k t).length := by
              cases htop with
              | here _ h1 => exact Or.inl ⟨h1, rfl⟩
              | up _ q _ h1 h2 =>
                rcases HOK.out.up xn hxn with h3 | ⟨q', hq', h3, h4⟩
                · have : S.u xn = -1 := h3
                  omega
                · have h3' : S.u xn = q' := h3
                  obtain rfl : q = q' := by omega
                  exact Or.inr ⟨q, hq', h1, h4, h2, rfl⟩
            have hL0 : LfI w wr bt ba bo m S S xn t (.slice a4 m c4) (toldZ m S.f) 0 := ⟨HF.out.upd0 hu4, HOK.out, hD, HZ4.out, fun g h => h, hli0, Nat.zero_le _, fun _ => rfl, fun h => absurd h (by omega), hup.trans hu4⟩
            have HTOP := Lib.hid htop
            have HD := Lib.hid hD
            clear hli0 htop hD
            go_wp2
            go_loopw [16] (fun s16 wr2 => ∃ (l : Nat) (S2 : CS), s16 = .int .i64 (l : Int) ∧ LfI w wr2 bt ba bo m S S2 xn t (.slice a4 m c4) (toldZ m S.f) l) (fun s16 _ => m - (intOf s16).toNat)
            case atStart => exact ⟨0, S, rfl, hL0⟩
            case round =>
              obtain ⟨l, S2, rfl, hL⟩ := hrel
              clear hL0
              have hlen : (S2.k xn).length + 1 ≤ m := hL.ok.len hxn
              have hll := hL.ml
              rcases hL.ok.up xn hxn with hux | ⟨p, hp, hux, hmem⟩
              · have kL := lift_no bt ba bo m S2 xn wr hL.f (by unfold upO; rw [if_pos (by omega), Int.toNat_natCast, if_pos (show S2.u xn = -1 from hux)])
                have HL := Lib.hid hL
                have HUX := Lib.hid hux
                clear hL hux
                have hT2l : (toldZ m S2.f).length = m := (told_rel m S2.f).1
                have kT2 := told_any [] wr bt ba bo m S2 HL.out.f (by simp)
                have kU2 := fun W (h : Upd [] wr W) => up_any bt ba bo m S2 (xn : Int) W (HL.out.f.upd0 h)
                have e : upO m S2 (xn : Int) = none := by unfold upO; rw [if_pos (by omega), Int.toNat_natCast, if_pos (show S2.u xn = -1 from HUX.out)]
                simp only [e, show ov none = 0 from rfl, show ob none = false from rfl] at kU2
                clear e
                go_wp2_with (first
                  | (go_at_call 17; (with_reducible refine (kL).mono ?_); rintro e w9 ⟨rfl, hw9⟩; rw [hw9]; clear hw9 w9)
                  | ((go_at_call 18; (with_reducible refine (kT2).mono ?_)); rintro e w6 ⟨a6, c6, rfl, hz6, hu6⟩)
                  | (go_at_call 11; (with_reducible refine (kU2 _ hu6).mono ?_); rintro e w9 ⟨rfl, hw9⟩; rw [hw9]; clear hw9 w9))
                have hS2 := HL.out
                have hu6' := hu6
                have hzt : t < (toldZ m S.f).length := by rw [hzl]; exact ht
                have hzx : xn < (toldZ m S2.f).length := by rw [hT2l]; exact hxn
                have hc0 := rel_cube (told_rel m S.f) HOK.out
                have hc2 := rel_cube (told_rel m S2.f) hS2.ok
                have ht0 : (toldZ m S.f)[t] = S.k t := (told_rel m S.f).get hzt
                have ht2 : (toldZ m S2.f)[xn] = S2.k xn := (told_rel m S2.f).get hzx
                have hlt : (S.k t).length + 1 ≤ m := HOK.out.len ht
                have hdx : (S2.k xn).length = (S.k t).length := by
                  rcases hS2.li with ⟨_, h1⟩ | ⟨p', _, h1, _⟩
                  · exact h1
                  · have : S2.u xn = -1 := HUX.out
                    omega
                have kD : ∀ W, Upd [] w6 W → Calls Try.prog 12 #[.pointer (some ⟨bt, 0, none⟩), .int .i64 (xn : Int)] W fun e w' => e = .returned (.int .i64 ((S.k t).length : Int)) ∧ w' = W := fun W h => by
                  have := degree_any bt ba bo m S2 (xn : Int) W ((hS2.f.upd0 hu6).upd0 h)
                  rw [show degOf m S2 (xn : Int) = ((S.k t).length : Int) by unfold degOf; rw [if_pos (by omega), Int.toNat_natCast, hdx]] at this
                  exact this
                have kC : ∀ W, Upd [] w6 W → Calls Try.prog 20 #[.slice a6 m c6, .int .i64 (xn : Int), .int .i64 (m : Int)] W fun e w' => e = .returned (.bool true) ∧ w' = W := fun W h => zcube_yes _ _ _ W (hz6.upd h (by simp)) hc2 m (by omega) xn hzx
                have kA : ∀ W, Upd [] w6 W → Calls Try.prog 21 #[.slice a6 m c6, .int .i64 (xn : Int), .int .i64 (m : Int)] W fun e w' => ∃ a c, e = .returned (.slice a (2 ^ (S.k t).length) c) ∧ Upd [] W w' := fun W h => by
                  refine (zall_any _ _ _ hc2 m (by omega) (fun l x _ => Nat.le_trans (all_bd hc2 m (fun y hy => by rw [(told_rel m S2.f).get hy]; exact hS2.db y (by rw [← hT2l]; exact hy)) l x) (by omega)) xn W (hz6.upd h (by simp)) hzx).mono ?_
                  rintro e w' ⟨v', rfl, hs, hu⟩
                  obtain ⟨a', c', rfl, _⟩ := hs.shape'
                  rw [all_len hc2 m xn hzx (by rw [ht2]; omega), ht2, hdx]
                  exact ⟨a', c', rfl, hu⟩
                have hz0 := hS2.z.upd hu6 (by simp)
                have kB : ∀ W, Upd [] w6 W → Calls Try.prog 21 #[.slice a4 m c4, .int .i64 (t : Int), .int .i64 (m : Int)] W fun e w' => ∃ a c, e = .returned (.slice a (2 ^ (S.k t).length) c) ∧ Upd [] W w' := fun W h => by
                  refine (zall_any _ _ _ hc0 m (by omega) (fun l x _ => Nat.le_trans (all_bd hc0 m (fun y hy => by rw [(told_rel m S.f).get hy]; exact HD.out y (by rw [← hzl]; exact hy)) l x) (by omega)) t W (hz0.upd h (by simp)) hzt).mono ?_
                  rintro e w' ⟨v', rfl, hs, hu⟩
                  obtain ⟨a', c', rfl, _⟩ := hs.shape'
                  rw [all_len hc0 m t hzt (by rw [ht0]; omega), ht0]
                  exact ⟨a', c', rfl, hu⟩
                have hb : (((l : Int) == 0) == ((t : Int) == (xn : Int))) = true := by
                  have h1 : l = 0 ↔ t = xn := by
                    constructor
                    · intro h0
                      have e := hS2.z0 h0
                      have h7 : S2.u xn = -1 := HUX.out
                      rw [e] at h7
                      cases HTOP.out with
                      | here => rfl
                      | up _ q _ h8 _ => omega
                    · intro h0
                      subst h0
                      rcases Nat.eq_zero_or_pos l with h | h
                      · exact h
                      · exact absurd hroot (hS2.nz h)
                  rw [beq_iff_eq, Bool.eq_iff_iff]
                  simp only [beq_iff_eq]
                  omega
                have hfr : ∃ g off ax cx, a4 = some ⟨g, off, none⟩ ∧ g < w6.heap.size ∧ w6.cell? ⟨g, off + t, none⟩ = some (.slice ax (S.k t).length cx) := by
                  have hz0' : FrAt w6 (ba :: S.blk m) (.slice a4 m c4) (toldZ m S.f) := hz0
                  obtain ⟨g, off, ax, cx, h1, h2, h3, _⟩ := hz0'.at t hzt
                  rw [ht0] at h3
                  exact ⟨g, off, ax, cx, h1, h2, h3⟩
                obtain ⟨g, off, ax, cx, rfl, hg, hcell⟩ := hfr
                have rC : ∀ W, Upd [] w6 W → W.cell? ⟨g, off + t, none⟩ = some (.slice ax (S.k t).length cx) := fun W h => h.was hcell
                have hfin : Upd [] w w6 := hS2.upd.trans hu6
                clear hS2 hzt hzx hc0 hc2 ht0 ht2 hdx hz0 hz6 kT2 kU2 kL hcell hu6'
                generalize (S.k t).length = dd at *
                generalize 2 ^ dd = PP at *
                go_region_held3 (fun W => Upd [] w6 W) (first | assumption | exact (Upd.refl _ _).drew | exact Upd.refl _ _ | (apply Upd.drew; assumption))
                  (first
                    | (go_at_call 12; (with_reducible refine (kD _ (by first | assumption | exact (Upd.refl _ _).drew | exact Upd.refl _ _)).mono ?_); rintro e w9 ⟨rfl, hw9⟩; rw [hw9]; clear hw9 w9)
                    | (go_at_call 20; (with_reducible refine (kC _ (by first | assumption | exact (Upd.refl _ _).drew | exact Upd.refl _ _)).mono ?_); rintro e w9 ⟨rfl, hw9⟩; rw [hw9]; clear hw9 w9)
                    | ((go_at_call 21; (with_reducible refine (kA _ (by first | assumption | exact (Upd.refl _ _).drew | exact Upd.refl _ _)).mono ?_)); rintro e w7 ⟨a7, c7, rfl, hu7⟩; have hS7 : Upd [] w6 w7 := Upd.trans (by first | assumption | exact (Upd.refl _ _).drew | exact Upd.refl _ _) hu7)
                    | ((go_at_call 21; (with_reducible refine (kB _ (by first | assumption | exact (Upd.refl _ _).drew | exact Upd.refl _ _)).mono ?_)); rintro e w8 ⟨a8, c8, rfl, hu8⟩; have hS8 : Upd [] w6 w8 := Upd.trans (by first | assumption | exact (Upd.refl _ _).drew | exact Upd.refl _ _) hu8))
                go_wp2
                go_ret
                all_goals exact ⟨by first | rfl | (rw [hb]), hfin.trans (by first | assumption | exact (Upd.refl _ _).drew | exact Upd.refl _ _)⟩
              · have lok := lift_ok hL.ok hxn hp hux hmem
                have kL := lift_yes bt ba bo m S2 xn p (S2.u p) wr hL.f lok
                have hnx : LiftI m (liftS S2 xn p (S2.u p)) xn t (S.k t).length ∧ (S2.k xn).length < ((liftS S2 xn p (S2.u p)).k xn).length := by
                  have hux' : S2.u xn = p := hux
                  rcases hL.li with ⟨h1, _⟩ | ⟨p', _, h1, _, h3, h4⟩
                  · omega
                  · obtain rfl : p = p' := by omega
                    exact lift_next hL.ok hxn hp hux hmem h3 h4
                have HNX := Lib.hid hnx
                have HLOK := Lib.hid lok
                have HL := Lib.hid hL
                have HUX := Lib.hid hux
                clear hL hux lok hnx hmem
                go_wp2_with ((go_at_call 17; (with_reducible refine (kL).mono ?_)); rintro e w5 ⟨rfl, hf5, hu5⟩)
                go_roundw
                case rel =>
                  have h := HL.out
                  have hnx := HNX.out
                  refine ⟨l + 1, liftS S2 xn p (S2.u p), by go_num, hf5, h.ok.lift HLOK.out, db_lift h.db _ hxn hp, h.z.upd hu5 (fun g hg => ?_), fun g hg => h.bl g (lift_blk S2 xn p _ m g hxn hp hg), hnx.1, by omega, fun h0 => by omega, fun _ => ?_, h.upd.joined hu5 (fun g hg => Or.inr ?_)⟩
                  · rcases List.mem_cons.1 hg with rfl | hg
                    · simp
                    · exact List.mem_cons_of_mem _ (h.bl g hg)
                  · by_cases hl0 : l = 0
                    · have e := h.z0 hl0
                      have h7 : S2.u xn = p := HUX.out
                      rw [e] at h7
                      omega
                    · exact h.nz (by omega)
                  · rcases List.mem_cons.1 hg with rfl | hg
                    · exact hlo.2.1
                    · have := (h.f.blk_lo hg).1; omega
                case measure => simp [intOf]; omega
      · have kL := lift_no bt ba bo i S x wr hf (by unfold upO; rw [if_neg hx])
        clear hf hok
        by_cases hx0 : x < 0
        · go_wp2_with ((go_at_call 17; (with_reducible refine (kL).mono ?_); rintro e w9 ⟨rfl, hw9⟩; rw [hw9]; clear hw9 w9))
          go_ret
          exact ⟨rfl, hup⟩
        · have hx1 : (i : Int) ≤ x := by omega
          go_wp2_with ((go_at_call 17; (with_reducible refine (kL).mono ?_); rintro e w9 ⟨rfl, hw9⟩; rw [hw9]; clear hw9 w9))
          go_ret
          exact ⟨rfl, hup⟩
theorem lifts_any (m8 : Int) (x : Int) (w : World) (hm : (Lit.int .u8 m8).wf = true) :
    Calls Try.prog 5 #[.int .u8 m8, .int .i64 x] w fun e w' => e = .returned (.bool true) ∧ Upd [] w w' := by
  have hb : 0 ≤ m8 ∧ m8 < 256 := by simp [Lit.wf, IntKind.min, IntKind.max, IntKind.signed, IntKind.bits] at hm; omega
  obtain ⟨k, rfl⟩ : ∃ k : Nat, m8 = k := ⟨m8.toNat, by omega⟩
  exact lifts_ok k x w (by omega)
end Go.Proofs.Ytdgohhkgmfjhaaa
