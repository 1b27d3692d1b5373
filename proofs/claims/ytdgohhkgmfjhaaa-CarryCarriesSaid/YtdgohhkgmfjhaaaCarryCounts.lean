/-
  The law on things that are carried in one by one: its walk. Conditions: arguments that came in.
-/
import Derived.Test.YtdgohhkgmfjhaaaCarryPl2
import Derived.Test.YtdgohhkgmfjhaaaCarryAlive
import Derived.Outline
set_option linter.unusedVariables false
set_option linter.unusedSimpArgs false
namespace Go.Proofs.Ytdgohhkgmfjhaaa
open Go Go.RowKit

structure CntI (w wr : World) (bt ba lo n kl bo : Nat) (zs : List Int) (vk : Value) (i : Nat) (S : CS) (O : List Int) (q : Nat) (v : Value) : Prop where
  fl : FL wr bt ba lo n kl bo S zs vk q
  sl : SlI wr (bo :: ba :: S.blk n) v O
  row : RowF n S.f O
  lt : ∀ x, x ∈ O → x < i
  un : ∀ x, i ≤ x → x < n → S.u x = -1 ∧ S.k x = []
  wt : wt n S.f O = i
  ho : HOrd zs n S.f
  q : q + O.length = i
  upd : Upd [] w wr
  lo1 : w.heap.size ≤ lo ∧ w.heap.size ≤ ba ∧ w.heap.size ≤ bo

/-- What is left of a row behind some places: the digits from a bit on. -/
structure Digits (n : Nat) (F : CF) (O : List Int) (m b a : Nat) : Prop where
  le : a ≤ O.length
  up : ((O.drop a).map (fun x => (degF n F x).toNat)).Pairwise (· < ·)
  ge : ∀ d, d ∈ (O.drop a).map (fun x => (degF n F x).toNat) → b ≤ d
  wt : (((O.drop a).map (fun x => (degF n F x).toNat)).map (2 ^ ·)).sum = 2 ^ b * (m / 2 ^ b)
theorem degF_nn (n : Nat) (F : CF) (x : Int) : 0 ≤ degF n F x := by unfold degF; split <;> omega
theorem digits_start {n : Nat} {F : CF} {O : List Int} {m : Nat} (h : RowF n F O) (hw : wt n F O = m) : Digits n F O m 0 0 := by
  refine ⟨Nat.zero_le _, ?_, fun d _ => Nat.zero_le _, ?_⟩
  · rw [List.drop_zero, List.pairwise_map]
    exact h.2.imp (fun {x y} hxy => by have := degF_nn n F x; have := degF_nn n F y; omega)
  · rw [List.drop_zero, List.map_map]
    simp only [Nat.pow_zero, Nat.div_one, Nat.one_mul]
    exact hw
theorem digits_odd {n : Nat} {F : CF} {O : List Int} {m b a : Nat} (h : Digits n F O m b a) (ho : (m / 2 ^ b) % 2 = 1) : ∃ x, O[a]? = some x ∧ degF n F x = b ∧ Digits n F O m (b + 1) (a + 1) := by
  obtain ⟨t, ht, h1, h2⟩ := bits_odd h.up h.ge h.wt ho
  have hne : O.drop a ≠ [] := fun e => by rw [e] at ht; cases ht
  have hal : a < O.length := by
    rcases Nat.lt_or_ge a O.length with h' | h'
    · exact h'
    · exact absurd (List.drop_eq_nil_of_le h') hne
  have hd : O.drop a = O[a] :: O.drop (a + 1) := List.drop_eq_getElem_cons hal
  rw [hd, List.map_cons] at ht
  have e1 := (List.cons.inj ht).1
  have e2 := (List.cons.inj ht).2
  refine ⟨O[a], by simp [hal], by have := degF_nn n F O[a]; omega, by omega, ?_, ?_, ?_⟩
  · have := h.up
    rw [hd, List.map_cons, List.pairwise_cons] at this
    exact this.2
  · rw [e2]; exact h1
  · rw [e2, h2, Nat.div_div_eq_div_mul, ← Nat.pow_succ]
theorem digits_even {n : Nat} {F : CF} {O : List Int} {m b a : Nat} (h : Digits n F O m b a) (he : (m / 2 ^ b) % 2 = 0) : Digits n F O m (b + 1) a := by
  obtain ⟨h1, h2⟩ := bits_even h.up h.ge h.wt he
  exact ⟨h.le, h.up, h1, by rw [h2, Nat.div_div_eq_div_mul, ← Nat.pow_succ]⟩
theorem digits_end {n : Nat} {F : CF} {O : List Int} {m b a : Nat} (h : Digits n F O m b a) (he : m / 2 ^ b = 0) : a = O.length := by
  have := h.wt
  rw [he] at this
  have := bits_zero this
  have h1 : O.drop a = [] := by simpa using this
  have h2 := h.le
  have h3 := List.drop_eq_nil_iff.1 h1
  omega

theorem bits_and1 (x : Nat) (h : x < 128) : bits BinOp.and .i64 (x : Int) 1 = ((x % 2 : Nat) : Int) := by
  have : ∀ x : Fin 128, bits BinOp.and .i64 ((x.val : Nat) : Int) 1 = ((x.val % 2 : Nat) : Int) := by decide
  exact this ⟨x, h⟩
set_option maxRecDepth 100000 in
set_option maxHeartbeats 4000000 in
theorem counts_ok (v : Value) (zs : List Int) (w : World) (hK : KeysAt w w.heap.size v zs) (hn : zs.length ≤ 100) :
    Calls Try.prog 4 #[v] w fun e w' => e = .returned (.bool true) ∧ Upd [] w w' := by
  have kN := fun W => carryNew_yes zs.length W (by omega)
  have HK := Lib.hid hK
  obtain ⟨a0, c0, rfl, _, _⟩ := hK
  generalize hlen : zs.length = n at *
  have HL := Lib.hid hlen
  clear hlen
  go_enter Try.func4, Try.ntmps4
  go_wp2_with (first
    | ((go_at_call 9; (with_reducible refine (calive_any _).mono ?_)); rintro e w1 ⟨rfl, hu1⟩)
    | ((go_at_call 10; (with_reducible refine (kN _).mono ?_)); rintro e w2 ⟨bt, ba, rfl, hF2, hu2, hb1, hb2⟩))
  have hz1 := hu1.size
  have hz2 := hu2.size
  have hbt := hF2.head.lt
  have hba := hF2.row.lt
  have hu0 := hu1.trans hu2
  have hfl0 := fl_new (w := w) hF2 (by omega) (by omega) (.slice a0 n c0) zs (HK.out.upd hu0 (by simp))
  have hfl := hfl0.upd0 ((Upd.refl [] _).alloc (.cells #[] 3))
  have hI : CntI w ((w2.alloc (.cells #[.slice a0 n c0, .int .i64 0] 37)).alloc (.cells #[] 3)) bt ba w2.heap.size n w.heap.size w2.heap.size zs (.slice a0 n c0) 0 CS.none [] 0 (.slice (some ⟨w2.heap.size + 1, 0, none⟩) 0 0) :=
    ⟨hfl, ⟨_, 0, rfl, by simp, by omega, fun j u hj => by simp at hj⟩, ⟨fun x hx => by (cases hx), List.Pairwise.nil⟩, fun x hx => by (cases hx), fun x _ _ => ⟨rfl, rfl⟩, rfl, fun y p _ h => by (simp [CS.none, CS.f] at h; try omega), rfl, (hu0.alloc _).alloc _, by omega⟩
  clear hfl hfl0 hF2 kN hu1 hu2 hu0
  have hbo : w2.heap.size < w2.heap.size + 1 := by omega
  generalize w2.heap.size = bo at *
  go_loopw [6, 44] (fun s6 s44 wr => ∃ (i : Nat) (S : CS) (O : List Int) (q : Nat), i ≤ n ∧ s44 = .int .i64 (i : Int) ∧ CntI w wr bt ba bo n w.heap.size bo zs (.slice a0 n c0) i S O q s6) (fun _ s44 _ => n - (intOf s44).toNat)
  case atStart => exact ⟨0, _, _, _, by omega, rfl, hI⟩
  case round =>
    obtain ⟨i, S, O, q, hi, rfl, hC⟩ := hrel
    clear hI
    by_cases hin : i < n
    · obtain ⟨a6, c6, rfl, hc6⟩ := hC.sl.shape
      have hol : O.length ≤ 100 := by have := hC.q; omega
      have kC := carry_law bt ba bo n w.heap.size bo S zs (.slice a0 n c0) (.slice a6 O.length c6) (.slice (some ⟨wr.heap.size, 0, none⟩) 1 1) O [(i : Int)] q (wr.alloc (.cells #[.int .i64 (i : Int)] 3)) (hC.fl.upd0 ((Upd.refl [] _).alloc _)) (hC.sl.upd ((Upd.refl [] _).alloc _) (by simp)) (sl_lit wr _ i hC.fl.old) hC.row
        (row_one ⟨by omega, by omega, by have := (hC.un i (by omega) hin).1; simpa [CS.f] using this⟩) (fun x hx hm => by have := hC.lt x hx; simp at hm; omega) (by have := hC.q; omega)
      have HC := Lib.hid hC
      clear hC
      go_wp2_with ((go_at_call 15; (with_reducible refine (kC).mono ?_)); rintro e w3 ⟨S3, v3, O3, q3, rfl, fl3, to3, g3, oo3, so3, u3, b3⟩; obtain ⟨a7, c7, rfl, hc7⟩ := so3.shape)
      have hcar := carried g3 to3
      have hrow := hcar.row
      have hq3 : q3 + O3.length = i + 1 := by have h1 := hcar.cnt; have h2 := HC.out.q; simp at h1; omega
      have hwt : wt n S3.f O3 = i + 1 := by
        rw [hcar.wt, HC.out.wt]
        have : degF n S.f (i : Int) = 0 := by
          rw [degF_nat n S.f hin, show S.f.k i = [] from (HC.out.un i (Nat.le_refl _) hin).2]; rfl
        unfold wt; simp [this]
      have hD := digits_start hrow hwt
      have hwt3 := Lib.hid hwt
      have HCR := Lib.hid hcar
      have HRW := Lib.hid hrow
      clear hcar hrow hwt to3 g3 kC
      have hol3 : O3.length ≤ 101 := by omega
      have hc73 : O3.length ≤ c7 := by obtain ⟨a', c', he, h1, _⟩ := so3; cases he; exact h1
      have SO := Lib.hid so3
      have FL3 := Lib.hid fl3
      obtain ⟨W3, hW3⟩ : ∃ W3, W3 = w3 := ⟨_, rfl⟩
      subst hW3
      clear so3 fl3 oo3
      have kD := fun x => degree_any bt ba bo n S3 x W3 FL3.out.f
      simp only [deg_f] at kD
      go_loopw [11, 12] (fun s11 s12 wq => ∃ (b a1 : Nat), b ≤ 7 ∧ s12 = .int .i64 (b : Int) ∧ s11 = .int .i64 (a1 : Int) ∧ wq = W3 ∧ Digits n S3.f O3 (i + 1) b a1) (fun _ s12 _ => 8 - (intOf s12).toNat)
      case atStart => exact ⟨0, 0, by omega, rfl, rfl, rfl, hD⟩
      case round =>
        obtain ⟨b, a1, hb, rfl, rfl, hwq, hDb⟩ := hrel
        subst hwq
        have hM : ((i : Int) + 1) / 2 ^ b = (((i + 1) / 2 ^ b : Nat) : Int) := by
          rw [Int.natCast_ediv]; push_cast; rfl
        have hMl : (i + 1) / 2 ^ b < 128 := Nat.lt_of_le_of_lt (Nat.div_le_self _ _) (by omega)
        have hb7 : 0 < (i + 1) / 2 ^ b → b < 7 := fun h => by
          rcases Nat.lt_or_ge b 7 with h' | h'
          · exact h'
          · obtain rfl : b = 7 := by omega
            have : (i + 1) / 2 ^ 7 = 0 := Nat.div_eq_of_lt (by omega)
            omega
        have hba := bits_and1 _ hMl
        have hodd := fun h => digits_odd hDb h
        have heven := fun h => digits_even hDb h
        have hend := fun h => digits_end hDb h
        have hdl := hDb.le
        generalize (i + 1) / 2 ^ b = M at *
        have HODD := Lib.hid hodd
        have HEV := Lib.hid heven
        have HEND := Lib.hid hend
        clear hDb hD hodd heven hend
        by_cases hM0 : M = 0
        · subst hM0
          have hal := HEND.out rfl
          subst hal
          go_wp2
          go_roundw
          case rel =>
            have hcr := HCR.out
            have hcc := HC.out
            have hout := fun (x : Nat) (h : i + 1 ≤ x) => hcr.out x (fun hm => by have := hcc.lt x hm; omega) (fun hm => by simp at hm; omega)
            have hlo := hcc.lo1
            refine ⟨i + 1, S3, O3, q3, by omega, by go_num, FL3.out, SO.out, HRW.out, fun x hx => ?_, fun x hx hxn => ?_, hwt3.out, hcr.ho hcc.ho, hq3, ?_, hlo⟩
            · rcases hcr.sub x hx with h | h
              · have := hcc.lt x h; omega
              · simp at h; omega
            · obtain ⟨h1, h2⟩ := hout x hx
              obtain ⟨h3, h4⟩ := hcc.un x (by omega) hxn
              exact ⟨h1.trans h3, h2.trans h4⟩
            · refine (hcc.upd.alloc _).joined u3 (fun x hx => Or.inr ?_)
              rcases List.mem_cons.1 hx with rfl | hx
              · exact hlo.2.2
              · rcases List.mem_cons.1 hx with rfl | hx
                · exact hlo.2.1
                · have := (hcc.fl.f.blk_lo hx).1; omega
          case measure => simp [intOf]; omega
        · have hMp : 0 < M := by omega
          have hb6 := hb7 hMp
          have HB := Lib.hid hb7
          clear hb7 hM0
          by_cases hpar : M % 2 = 0
          · have b1 : (bits BinOp.and .i64 (M : Int) 1 == 0) = true := by rw [hba, hpar]; rfl
            have hd := Lib.hid (HEV.out hpar)
            clear hba hpar
            go_wp2
            go_roundw
            case rel => exact ⟨b + 1, a1, by omega, by go_num, rfl, by first | rfl | trivial, hd.out⟩
            case measure => simp [intOf]; omega
          · have hpar1 : M % 2 = 1 := by omega
            have b1 : (bits BinOp.and .i64 (M : Int) 1 == 0) = false := by rw [hba, hpar1]; rfl
            obtain ⟨x, hx, hdx, hD2⟩ := HODD.out hpar1
            have hal : a1 < O3.length := (List.getElem?_eq_some_iff.1 hx).1
            obtain ⟨g, off, hag, _, _, hc⟩ : ∃ g off, a7 = some ⟨g, off, none⟩ ∧ g < wr.heap.size ∧ True ∧ wr.cell? ⟨g, off + a1, none⟩ = some (.int .i64 x) := by
              obtain ⟨a', c', he, _, _, h3⟩ := SO.out
              cases he
              obtain ⟨g, off, h1, h2, _, h4⟩ := h3 a1 x hx
              exact ⟨g, off, h1, h2, trivial, h4⟩
            subst hag
            have kD1 := kD x
            rw [hdx] at kD1
            have hd := Lib.hid hD2
            clear hba hpar hpar1 hx hdx hD2 kD
            go_wp2_with ((go_at_call 12; (with_reducible refine (kD1).mono ?_); rintro e w9 ⟨rfl, hw9⟩; rw [hw9]; clear hw9 w9))
            go_roundw
            case rel => exact ⟨b + 1, a1 + 1, by omega, by go_num, by go_num, by first | rfl | trivial, hd.out⟩
            case measure => simp [intOf]; omega
    · obtain rfl : i = n := by omega
      have hFL := hC.fl
      have hq := hC.q
      have hho := hC.ho
      have hup := hC.upd
      have hlo := hC.lo1
      obtain ⟨a6, c6, rfl, hc6⟩ := hC.sl.shape
      clear hC
      go_wp2
      go_loopw [96] (fun s96 wq => ∃ (x q : Nat), x ≤ i ∧ s96 = .int .i64 (x : Int) ∧ q ≤ i + x ∧ FL wq bt ba bo i w.heap.size bo S zs (.slice a0 i c0) q ∧ Upd [] w wq) (fun s96 _ => i - (intOf s96).toNat)
      case atStart => exact ⟨0, q, by omega, rfl, by omega, hFL, hup⟩
      case round =>
        obtain ⟨x, q2, hx, rfl, hq2, hf, hu⟩ := hrel
        clear hFL hup
        by_cases hxn : x < i
        · have kU := up_any bt ba bo i S x wr hf.f
          rcases hf.ok.up x hxn with hux | ⟨p, hp, hux, _⟩
          · have e : upO i S x = none := by unfold upO; rw [if_pos (by omega), Int.toNat_natCast, if_pos (show S.u x = -1 from hux)]
            rw [e, show ov none = 0 from rfl, show ob none = false from rfl] at kU
            have HU := Lib.hid hux
            have HFF := Lib.hid hf
            clear e hux hf
            go_wp2_with ((go_at_call 11; (with_reducible refine (kU).mono ?_); rintro e w9 ⟨rfl, hw9⟩; rw [hw9]; clear hw9 w9))
            go_roundw
            case rel => exact ⟨x + 1, q2, by omega, by go_num, by omega, HFF.out, hu⟩
            case measure => simp [intOf]; omega
          · have e : upO i S x = some (p : Int) := by unfold upO; rw [if_pos (by omega), Int.toNat_natCast, if_neg (by rw [show S.u x = (p : Int) from hux]; omega)]; exact congrArg some hux
            rw [e, show ov (some (p : Int)) = (p : Int) from rfl, show ob (some (p : Int)) = true from rfl] at kU
            obtain ⟨hne, hah⟩ := hho x p hxn hux
            have b1 : ((p : Int) == (x : Int)) = false := by simp; omega
            have kA := ahead_any wr w.heap.size bo _ zs q2 x p hf.l (by omega)
            rw [hah] at kA
            have HFF := Lib.hid hf
            clear e hux hf hne hah
            go_wp2_with (first
              | (go_at_call 11; (with_reducible refine (kU).mono ?_); rintro e w9 ⟨rfl, hw9⟩; rw [hw9]; clear hw9 w9)
              | ((go_at_call 16; (with_reducible refine (kA).mono ?_)); rintro e w5 ⟨rfl, hL5, hu5⟩))
            go_roundw
            case rel =>
              have hap := HFF.out.a
              refine ⟨x + 1, q2 + 1, by omega, by go_num, by omega, ⟨HFF.out.f.upd hu5 (by simp; exact Ne.symm hap.b1) (by simp; exact Ne.symm hap.b2) (fun g hg hm => by simp at hm; subst hm; exact hap.b3 hg), hL5, hap, Nat.lt_of_lt_of_le HFF.out.t hu5.size, HFF.out.ok⟩, hu.joined hu5 (fun g hg => Or.inr (by simp at hg; omega))⟩
            case measure => simp [intOf]; omega
        · obtain rfl : x = i := by omega
          go_wp2
          go_ret
          exact ⟨rfl, hu⟩

set_option maxHeartbeats 1000000 in
theorem counts_long (a0 : Option Addr) (n c0 : Nat) (w : World) (hn : 100 < n) (hm : n ≤ 9223372036854775807) :
    Calls Try.prog 4 #[.slice a0 n c0] w fun e w' => e = .returned (.bool true) ∧ Upd [] w w' := by
  by_cases h : n ≤ 65536
  · have kN := fun W => carryNew_yes n W h
    go_enter Try.func4, Try.ntmps4
    go_wp2_with (first
      | ((go_at_call 9; (with_reducible refine (calive_any _).mono ?_)); rintro e w1 ⟨rfl, hu1⟩)
      | ((go_at_call 10; (with_reducible refine (kN _).mono ?_)); rintro e w2 ⟨bt, ba, rfl, hF2, hu2, hb1, hb2⟩))
    go_ret
    exact ⟨rfl, by (repeat (first | assumption | exact Upd.refl _ _ | refine Upd.alloc ?_ _ | refine Upd.drew ?_ | refine Upd.drewN ?_ _ | refine Upd.setCell ?_ (Or.inr (by first | (simp; done) | (simp; omega))) _ | (apply Upd.trans; rotate_left; assumption)))⟩
  · have kN := fun W => carryNew_no n W (Or.inr (by omega))
    go_enter Try.func4, Try.ntmps4
    go_wp2_with (first
      | ((go_at_call 9; (with_reducible refine (calive_any _).mono ?_)); rintro e w1 ⟨rfl, hu1⟩)
      | ((go_at_call 10; (with_reducible refine (kN _).mono ?_)); rintro e w2 ⟨rfl, rfl⟩))
    go_ret
    exact ⟨rfl, by (repeat (first | assumption | exact Upd.refl _ _ | refine Upd.alloc ?_ _ | refine Upd.drew ?_ | refine Upd.drewN ?_ _ | refine Upd.setCell ?_ (Or.inr (by first | (simp; done) | (simp; omega))) _ | (apply Upd.trans; rotate_left; assumption)))⟩
theorem counts_any (v : Value) (zs : List Int) (w : World) (h : IsInts .i64 w v zs) :
    Calls Try.prog 4 #[v] w fun e w' => e = .returned (.bool true) ∧ Upd [] w w' := by
  obtain ⟨⟨a, cap, rfl, hm, hc⟩, _⟩ := h
  unfold maxLen at hm
  by_cases hn : zs.length ≤ 100
  · exact counts_ok _ zs w ⟨a, cap, rfl, hm, fun h0 => by
      obtain ⟨b, off, rfl, hb, hcc⟩ := hc h0
      exact ⟨b, off, rfl, hb, hb, fun j hj => hcc j (by omega)⟩⟩ hn
  · exact counts_long a _ cap w (by omega) hm
end Go.Proofs.Ytdgohhkgmfjhaaa
