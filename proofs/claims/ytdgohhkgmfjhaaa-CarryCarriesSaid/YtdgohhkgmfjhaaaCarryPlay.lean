/-
  Acts are played to a forest and to the document's: the walk of play. Conditions: those of each lemma.
-/
import Derived.Test.YtdgohhkgmfjhaaaCarryRuns
import Derived.Test.YtdgohhkgmfjhaaaActs3
import Derived.Test.YtdgohhkgmfjhaaaCarry6
import Derived.Outline
set_option linter.unusedVariables false
set_option linter.unusedSimpArgs false
namespace Go.Proofs.Ytdgohhkgmfjhaaa
open Go Go.RowKit

theorem Two.len {w : World} {bt ba lo n : Nat} {S : CS} {v : Value} {Z : List (List Int)} (h : Two w bt ba lo n S v Z) : ∀ l, l ∈ Z → l.length ≤ 65536 := fun l hl => by
  obtain ⟨j, hj, rfl⟩ := List.getElem_of_mem hl
  rw [h.r.get hj]
  have := h.ok.len (x := j) (by rw [← h.r.1]; exact hj)
  have := h.f.le
  omega
/-- What an act did: the forests again alike. -/
theorem Two.step {w w1 w2 : World} {bt ba lo n : Nat} {S S' : CS} {v v' : Value} {Z Z' : List (List Int)} (h : Two w bt ba lo n S v Z) (h1 : Upd [] w w1) (hz : FrAt w1 (ba :: S.blk n) v' Z') (hf : ForestAt w2 bt ba lo n S') (hu : Upd (ba :: S.blk n) w1 w2) (hb : ∀ g, g ∈ S'.blk n → g ∈ S.blk n ∨ w1.heap.size ≤ g) (ok : FOk n S'.f) (hr : RelZ n S'.f Z') : Two w2 bt ba lo n S' v' Z' :=
  ⟨hf, ok, hz.fresh hu (fun g hg => by
    rcases List.mem_cons.1 hg with rfl | hg
    · exact Or.inl (by simp)
    · rcases hb g hg with h' | h'
      · exact Or.inl (by simp [h'])
      · exact Or.inr h'), hr, Nat.lt_of_lt_of_le h.t (Nat.le_trans h1.size hu.size)⟩

theorem deg_kids (n : Nat) (S : CS) (x : Int) : degOf n S x = ((kidsOf n S x).length : Int) := by unfold degOf kidsOf; split <;> rfl
theorem nat_beq (a b : Nat) : ((a : Int) == (b : Int)) = (a == b) := by rw [Bool.eq_iff_iff]; simp only [beq_iff_eq]; constructor <;> intro h <;> omega
theorem lift_blk (S : CS) (x p : Nat) (above : Int) (n g : Nat) (hx : x < n) (hp : p < n) (h : g ∈ (liftS S x p above).blk n) : g ∈ S.blk n := by
  obtain ⟨y, hy, he⟩ := (CS.mem_blk _ n g).1 h
  unfold liftS at he
  simp only at he
  split at he
  · exact (S.mem_blk n g).2 ⟨p, hp, he⟩
  · split at he
    · exact (S.mem_blk n g).2 ⟨x, hx, he⟩
    · exact (S.mem_blk n g).2 ⟨y, hy, he⟩
set_option maxRecDepth 100000 in
set_option maxHeartbeats 16000000 in
theorem play_any (w : World) (bt ba lo n : Nat) (va : Value) (len : Nat) (kd p x : Nat → Int) (hF : ForestAt w bt ba lo n CS.none) (ht : bt < w.heap.size) (hA : Acts3 w va len kd p x) (hl : len ≤ 60) (hsep : 0 < len → ∀ a c b off, va = .slice (some ⟨b, off, none⟩) a c → b ≠ ba ∧ b < lo) :
    Calls Try.prog 22 #[.pointer (some ⟨bt, 0, none⟩), .int .i64 (n : Int), va] w fun e w' => ∃ S v Z, e = .returned (.tuple #[v, .bool true]) ∧ Two w' bt ba lo n S v Z ∧ Upd [ba] w w' := by
  have hle := hF.le
  obtain ⟨a, cap, rfl, _, hp⟩ := hA
  have HP := Lib.hid hp
  clear hp
  go_enter Try.func22, Try.ntmps22
  go_wp2_with (at_make; refine wpList_make_row rfl _ 43 rfl 30 (.slice none 0 0) 1 24 Try.underlying43 kidsInfo n rfl (by omega) (by unfold maxLen; omega) ?_; intro w1 hr1 hu1)
  have hz0 : FrAt w1 [ba] (.slice (some ⟨w.heap.size, 0, none⟩) n n) (List.replicate n []) := by
    have hl : (List.replicate n ([] : List Int)).length = n := by simp
    refine ⟨_, n, by rw [hl], by rw [hl]; exact Nat.le_refl _, by omega, fun y l hy => ?_⟩
    have hyn : y < n := by have := (List.getElem?_eq_some_iff.1 hy).1; rwa [hl] at this
    have hl0 : l = [] := by rw [List.getElem?_replicate, if_pos hyn] at hy; exact (Option.some.inj hy).symm
    subst hl0
    refine ⟨w.heap.size, 0, .slice none 0 0, rfl, hr1.lt, ?_, ?_, SlI.nil _ _⟩
    · have := hF.row.lt; simp; omega
    · rw [Nat.zero_add, hr1.cell y (by omega), show (Value.slice none 0 0).cells = #[Value.slice none 0 0] from rfl, Nat.mul_one, toList_madeCells_one]
      simp [hyn]
  have hblk0 : CS.none.blk n = [] := by unfold CS.blk CS.none; simp [Value.ownBlock]
  have hT0 : Two w1 bt ba lo n CS.none (.slice (some ⟨w.heap.size, 0, none⟩) n n) (List.replicate n []) := ⟨hF.upd0 hu1, fok_none n, by rw [hblk0]; exact hz0, rel_none n, Nat.lt_of_lt_of_le ht hu1.size⟩
  have hlow := hF.low
  have hba := hF.row.lt
  clear hz0 hF
  go_loopw [8, 22] (fun s8 s22 wr => ∃ (j : Nat) (S : CS) (Z : List (List Int)), j ≤ len ∧ s22 = .int .i64 (j : Int) ∧ Two wr bt ba lo n S s8 Z ∧ Upd [ba] w wr ∧ (∀ g, g ∈ S.blk n → w.heap.size ≤ g)) (fun _ s22 _ => len - (intOf s22).toNat)
  case atStart => exact ⟨0, _, _, by omega, rfl, hT0, hu1.mono (by simp), fun g hg => by rw [hblk0] at hg; cases hg⟩
  case round =>
    obtain ⟨j, S, Z, hj, rfl, hT, hu, hbk⟩ := hrel
    clear hT0 hblk0
    by_cases hlt : j < len
    · obtain ⟨b, off, rfl, hbw, hx⟩ := HP.out (by omega)
      obtain ⟨x0, x1, x2⟩ := hx j hlt
      obtain ⟨hsb, _⟩ := hsep (by omega) _ _ _ _ rfl
      have y0 : wr.cell? ⟨b, off + j * 3, none⟩ = some (.int .i64 (kd j)) := by rw [hu.cell hbw (by simp; exact hsb)]; exact x0
      have y1 : wr.cell? ⟨b, off + j * 3 + 1, none⟩ = some (.int .i64 (p j)) := by rw [hu.cell hbw (by simp; exact hsb)]; exact x1
      have y2 : wr.cell? ⟨b, off + j * 3 + 2, none⟩ = some (.int .i64 (x j)) := by rw [hu.cell hbw (by simp; exact hsb)]; exact x2
      clear hx x0 x1 x2
      have ha0 : Upd [] wr (wr.alloc (.cells #[.int .i64 (kd j), .int .i64 (p j), .int .i64 (x j)] 83)) := (Upd.refl _ _).alloc _
      have hTa := hT.upd0 ha0
      have hold := hT.old
      generalize kd j = K at *
      generalize p j = A at *
      generalize x j = B at *
      have hin : wr.heap.size ∉ ba :: S.blk n := fun hm => by have := hold _ hm; omega
      have q0 : ∀ W, Upd (ba :: S.blk n) (wr.alloc (.cells #[.int .i64 K, .int .i64 A, .int .i64 B] 83)) W → W.cell? ⟨wr.heap.size, 0, none⟩ = some (.int .i64 K) := fun W hW => by rw [hW.cell (by simp) hin]; simp
      have q1 : ∀ W, Upd (ba :: S.blk n) (wr.alloc (.cells #[.int .i64 K, .int .i64 A, .int .i64 B] 83)) W → W.cell? ⟨wr.heap.size, 1, none⟩ = some (.int .i64 A) := fun W hW => by rw [hW.cell (by simp) hin]; simp
      have q2 : ∀ W, Upd (ba :: S.blk n) (wr.alloc (.cells #[.int .i64 K, .int .i64 A, .int .i64 B] 83)) W → W.cell? ⟨wr.heap.size, 2, none⟩ = some (.int .i64 B) := fun W hW => by rw [hW.cell (by simp) hin]; simp
      have kS := fun W S' v' Z' (h : Two W bt ba lo n S' v' Z') y => csame_any W bt ba lo n S' v' Z' y h
      have hba2 : ∀ g, g ∈ ba :: S.blk n → g ∈ [ba] ∨ w.heap.size ≤ g := fun g hg => by
        rcases List.mem_cons.1 hg with rfl | hg
        · exact Or.inl (by simp)
        · exact Or.inr (hbk g hg)
      have fin0 : ∀ W, Upd (ba :: S.blk n) (wr.alloc (.cells #[.int .i64 K, .int .i64 A, .int .i64 B] 83)) W → Upd [ba] w W := fun W hW => (hu.then ha0).joined hW hba2
      have HFI := Lib.hid fin0
      have HBK := Lib.hid hbk
      clear fin0 hba2 hin hold hT
      obtain ⟨az, cz, hvz, _⟩ := hTa.z.shape
      subst hvz
      by_cases hK0 : K = 0
      · subst hK0
        by_cases hok : linkOk n S A B = true
        · unfold linkOk at hok
          simp only [Bool.and_eq_true, Bool.not_eq_true', beq_eq_false_iff_ne, ne_eq, beq_iff_eq] at hok
          obtain ⟨hra, hrb, hab, hd⟩ := hok
          have hra2 := (rootF_iff n S.f A).1 hra
          have hrb2 := (rootF_iff n S.f B).1 hrb
          obtain ⟨ka, rfl⟩ := Int.eq_ofNat_of_zero_le hra2.1
          obtain ⟨kb, rfl⟩ := Int.eq_ofNat_of_zero_le hrb2.1
          have hka : ka < n := by omega
          have hkb : kb < n := by omega
          have hne : ka ≠ kb := fun e => hab (by rw [e])
          have hza : ka < Z.length := by rw [hTa.r.1]; exact hka
          have hzb : kb < Z.length := by rw [hTa.r.1]; exact hkb
          have hd' : (S.k ka).length = (S.k kb).length := by
            rw [deg_f, deg_f, degF_nat _ _ hka, degF_nat _ _ hkb] at hd
            have : ((S.k ka).length : Int) = ((S.k kb).length : Int) := hd
            omega
          have hzl : Z[ka].length = Z[kb].length := by rw [hTa.r.get hza, hTa.r.get hzb]; exact hd'
          have kZ := zlink_yes _ _ _ Z ka kb hTa.z hza hzb (by rw [rel_root hTa.r hTa.ok]; exact hra) (by rw [rel_root hTa.r hTa.ok]; exact hrb) hne hzl (by rw [hTa.r.1]; exact hle) (hTa.len _ (List.getElem_mem hza)) hTa.old
          have kL := fun W (h : Upd [] (wr.alloc (.cells #[.int .i64 0, .int .i64 (ka : Int), .int .i64 (kb : Int)] 83)) W) => link_yes bt ba lo n S ka kb W (hTa.f.upd0 h) hka hkb hra hrb hne hd (hTa.ok.len hka)
          have hok2 : FOk n (linkF S.f ka kb) := hTa.ok.link hka hkb hne (by simpa using hra2.2.2) (by simpa using hrb2.2.2) hd'
          have hrl : RelZ n (linkF S.f ka kb) (Z.set ka (Z[ka] ++ [(kb : Int)])) := by have := rel_link (b := kb) hTa.r hka; rwa [getD_at hza] at this
          have HD := Lib.hid hd
          have HOK2 := Lib.hid hok2
          have HRL := Lib.hid hrl
          have HTA := Lib.hid hTa
          have hFa : Upd (ba :: S.blk n) (wr.alloc (.cells #[.int .i64 0, .int .i64 (ka : Int), .int .i64 (kb : Int)] 83)) (wr.alloc (.cells #[.int .i64 0, .int .i64 (ka : Int), .int .i64 (kb : Int)] 83)) := Upd.refl _ _
          clear hra hrb hab hd hra2 hrb2 hd' hzl hok2 hrl hTa
          go_wp2_with (first
            | ((go_at_call 43; (with_reducible refine (kZ).mono ?_)); rintro e w1 ⟨a1, c1, rfl, hz1, hu1⟩; have hF1 := hFa.then hu1)
            | ((go_at_call 44; (with_reducible refine (kL _ hu1).mono ?_)); rintro e w2 ⟨v2, rfl, hf2, hu2, hb2⟩; have hF2 := hF1.trans hu2; have hT2 := HTA.out.step hu1 hz1 hf2 hu2 hb2 HOK2.out HRL.out)
            | ((go_at_call 24; (with_reducible refine (kS _ _ _ _ hT2 ka).mono ?_)); rintro e w7 ⟨rfl, hu7⟩; have hT7 := hT2.upd0 hu7; have hF7 := hF2.then hu7)
            | ((go_at_call 24; (with_reducible refine (kS _ _ _ _ hT7 kb).mono ?_)); rintro e w8 ⟨rfl, hu8⟩; have hT8 := hT7.upd0 hu8; have hF8 := hF7.then hu8))
          go_roundw
          case rel => exact ⟨j + 1, _, _, by omega, by go_num, hT8, HFI.out _ hF8, fun g hg => by rcases hb2 g hg with h' | h'; exact HBK.out g h'; have h1 := (HFI.out _ hFa).size; have h2 := hu1.size; omega⟩
          case measure => simp [intOf]; omega
        · have hok' : linkOk n S A B = false := by simpa using hok
          have hokz : (rootZ Z A && (rootZ Z B && (!(A == B) && (kidsZ Z A).length == (kidsZ Z B).length))) = false := by
            rw [rel_root hTa.r hTa.ok, rel_root hTa.r hTa.ok, rel_kids hTa.r, rel_kids hTa.r, ← hok']
            unfold linkOk
            rw [root_f, root_f]
            rw [deg_kids n S A, deg_kids n S B, nat_beq]
          have kZ := zlink_no _ _ _ Z A B hTa.z hokz
          have kL := fun W (h : Upd [] (wr.alloc (.cells #[.int .i64 0, .int .i64 A, .int .i64 B] 83)) W) => link_no bt ba lo n S A B W (hTa.f.upd0 h) hok'
          have HTA := Lib.hid hTa
          have hFa : Upd (ba :: S.blk n) (wr.alloc (.cells #[.int .i64 0, .int .i64 A, .int .i64 B] 83)) (wr.alloc (.cells #[.int .i64 0, .int .i64 A, .int .i64 B] 83)) := Upd.refl _ _
          clear hok hok' hokz hTa
          go_wp2_with (first
            | ((go_at_call 43; (with_reducible refine (kZ).mono ?_)); rintro e w1 ⟨rfl, n1, rfl⟩; have hu1 : Upd [] (wr.alloc (.cells #[.int .i64 0, .int .i64 A, .int .i64 B] 83)) _ := (Upd.refl _ _).drewN n1; have hF2 := hFa.then hu1; have hT2 := HTA.out.upd0 hu1)
            | (go_at_call 44; (with_reducible refine (kL _ hu1).mono ?_); rintro e w9 ⟨rfl, hw9⟩; rw [hw9]; clear hw9 w9)
            | ((go_at_call 24; (with_reducible refine (kS _ _ _ _ hT2 A).mono ?_)); rintro e w7 ⟨rfl, hu7⟩; have hT7 := hT2.upd0 hu7; have hF7 := hF2.then hu7)
            | ((go_at_call 24; (with_reducible refine (kS _ _ _ _ hT7 B).mono ?_)); rintro e w8 ⟨rfl, hu8⟩; have hT8 := hT7.upd0 hu8; have hF8 := hF7.then hu8))
          go_roundw
          case rel => exact ⟨j + 1, _, _, by omega, by go_num, hT8, HFI.out _ hF8, HBK.out⟩
          case measure => simp [intOf]; omega
      · have bK0 : (K == 0) = false := by simpa using hK0
        clear hK0
        by_cases hK1 : K = 1
        · subst hK1
          cases hra : rootB n S A with
          | true =>
            have hra2 := (rootF_iff n S.f A).1 hra
            obtain ⟨ka, rfl⟩ := Int.eq_ofNat_of_zero_le hra2.1
            have hka : ka < n := by omega
            have hza : ka < Z.length := by rw [hTa.r.1]; exact hka
            have hzg := hTa.r.get hza
            have kZ := zsplit_yes _ _ _ Z ka hTa.z hza (by rw [rel_root hTa.r hTa.ok]; exact hra) (by rw [hTa.r.1]; exact hle) hTa.old
            have kL := fun W (h : Upd [] (wr.alloc (.cells #[.int .i64 1, .int .i64 (ka : Int), .int .i64 B] 83)) W) => split_yes bt ba lo n S ka W (hTa.f.upd0 h) hka hra (fun k hk => by have := hTa.ok.rng ka hka k hk; omega)
            rw [hzg] at kZ
            have hok2 : FOk n (splitS S ka).f := hTa.ok.split hka (by have := hra2.2.2; rw [Int.toNat_natCast] at this; exact this)
            have hrl : RelZ n (splitS S ka).f (Z.set ka []) := rel_split hTa.r hka
            have hbl := fun g => splitS_blk S ka n g
            have HBL := Lib.hid hbl
            have HOK2 := Lib.hid hok2
            have HRL := Lib.hid hrl
            have HTA := Lib.hid hTa
            have hFa : Upd (ba :: S.blk n) (wr.alloc (.cells #[.int .i64 1, .int .i64 (ka : Int), .int .i64 B] 83)) (wr.alloc (.cells #[.int .i64 1, .int .i64 (ka : Int), .int .i64 B] 83)) := Upd.refl _ _
            clear hra hra2 hzg hok2 hrl hbl hTa
            go_wp2_with (first
              | ((go_at_call 45; (with_reducible refine (kZ).mono ?_)); rintro e w1 ⟨a1, c1, a2, c2, rfl, hz1, hs1, hu1⟩; have hF1 := hFa.then hu1)
              | ((go_at_call 46; (with_reducible refine (kL _ hu1).mono ?_)); rintro e w2 ⟨v2, rfl, hL2, hf2, hu2⟩; have hu2' : Upd (ba :: S.blk n) w1 w2 := hu2.mono (by simp); have s2 := SlI.of_lst (F := []) hL2 (by simp); have s1 := hs1.upd hu2 (by simp); have hFx := hF1.trans hu2'; have hTx := HTA.out.step hu1 hz1 hf2 hu2' (fun g hg => Or.inl (HBL.out g hg)) HOK2.out HRL.out)
              | ((go_at_call 25; (with_reducible refine (same_yes _ _ _ _ _ _ s2 s1).mono ?_)); rintro e w4 ⟨rfl, n4, rfl⟩; have hT2 := hTx.upd0 ((Upd.refl _ _).drewN n4); have hF2 := hFx.drewN n4)
              | ((go_at_call 24; (with_reducible refine (kS _ _ _ _ hT2 ka).mono ?_)); rintro e w7 ⟨rfl, hu7⟩; have hT7 := hT2.upd0 hu7; have hF7 := hF2.then hu7)
              | ((go_at_call 24; (with_reducible refine (kS _ _ _ _ hT7 B).mono ?_)); rintro e w8 ⟨rfl, hu8⟩; have hT8 := hT7.upd0 hu8; have hF8 := hF7.then hu8))
            go_roundw
            case rel => exact ⟨j + 1, _, _, by omega, by go_num, hT8, HFI.out _ hF8, fun g hg => HBK.out g (HBL.out g hg)⟩
            case measure => simp [intOf]; omega
          | false =>
            have kZ := zsplit_no _ _ _ Z A hTa.z (by rw [rel_root hTa.r hTa.ok]; exact hra)
            have kL := split_no bt ba lo n S A _ hTa.f hra
            have HTA := Lib.hid hTa
            have s1 := SlI.nil (wr.alloc (.cells #[.int .i64 1, .int .i64 A, .int .i64 B] 83)) []
            have hFa : Upd (ba :: S.blk n) (wr.alloc (.cells #[.int .i64 1, .int .i64 A, .int .i64 B] 83)) (wr.alloc (.cells #[.int .i64 1, .int .i64 A, .int .i64 B] 83)) := Upd.refl _ _
            clear hra hTa
            go_wp2_with (first
              | (go_at_call 45; (with_reducible refine (kZ).mono ?_); rintro e w9 ⟨rfl, hw9⟩; rw [hw9]; clear hw9 w9)
              | (go_at_call 46; (with_reducible refine (kL).mono ?_); rintro e w9 ⟨rfl, hw9⟩; rw [hw9]; clear hw9 w9)
              | ((go_at_call 25; (with_reducible refine (same_yes _ _ _ _ _ _ s1 s1).mono ?_)); rintro e w4 ⟨rfl, n4, rfl⟩; have hT2 := HTA.out.upd0 ((Upd.refl _ _).drewN n4); have hF2 := hFa.drewN n4)
              | ((go_at_call 24; (with_reducible refine (kS _ _ _ _ hT2 A).mono ?_)); rintro e w7 ⟨rfl, hu7⟩; have hT7 := hT2.upd0 hu7; have hF7 := hF2.then hu7)
              | ((go_at_call 24; (with_reducible refine (kS _ _ _ _ hT7 B).mono ?_)); rintro e w8 ⟨rfl, hu8⟩; have hT8 := hT7.upd0 hu8; have hF8 := hF7.then hu8))
            go_roundw
            case rel => exact ⟨j + 1, _, _, by omega, by go_num, hT8, HFI.out _ hF8, HBK.out⟩
            case measure => simp [intOf]; omega
        · have bK1 : (K == 1) = false := by simpa using hK1
          clear hK1
          by_cases hK2 : K = 2
          · subst hK2
            have hup := rel_up hTa.r hTa.ok A
            by_cases hA : 0 ≤ A ∧ A < n
            · obtain ⟨ka, rfl⟩ := Int.eq_ofNat_of_zero_le hA.1
              have hka : ka < n := by omega
              rcases hTa.ok.up ka hka with hu1 | ⟨q, hq, hu1, hm⟩
              · have e : upF n S.f ka = none := by unfold upF; rw [if_pos hA, Int.toNat_natCast, if_pos hu1]
                have kZ := zlift_no _ _ _ Z ka hTa.z (by rw [hup]; exact e)
                have kL := lift_no bt ba lo n S ka _ hTa.f e
                have hT2 := hTa
                have hFa : Upd (ba :: S.blk n) (wr.alloc (.cells #[.int .i64 2, .int .i64 (ka : Int), .int .i64 B] 83)) (wr.alloc (.cells #[.int .i64 2, .int .i64 (ka : Int), .int .i64 B] 83)) := Upd.refl _ _
                have hF2 := hFa
                clear hu1 e hup hA hTa
                go_wp2_with (first
                  | (go_at_call 47; (with_reducible refine (kZ).mono ?_); rintro e w9 ⟨rfl, hw9⟩; rw [hw9]; clear hw9 w9)
                  | (go_at_call 17; (with_reducible refine (kL).mono ?_); rintro e w9 ⟨rfl, hw9⟩; rw [hw9]; clear hw9 w9)
                  | ((go_at_call 24; (with_reducible refine (kS _ _ _ _ hT2 ka).mono ?_)); rintro e w7 ⟨rfl, hu7⟩; have hT7 := hT2.upd0 hu7; have hF7 := hF2.then hu7)
                  | ((go_at_call 24; (with_reducible refine (kS _ _ _ _ hT7 B).mono ?_)); rintro e w8 ⟨rfl, hu8⟩; have hT8 := hT7.upd0 hu8; have hF8 := hF7.then hu8))
                go_roundw
                case rel => exact ⟨j + 1, _, _, by omega, by go_num, hT8, HFI.out _ hF8, HBK.out⟩
                case measure => simp [intOf]; omega
              · have e : upF n S.f ka = some (q : Int) := by unfold upF; rw [if_pos hA, Int.toNat_natCast, if_neg (by omega), hu1]
                have lok := lift_ok hTa.ok hka hq hu1 hm
                have hza : ka < Z.length := by rw [hTa.r.1]; exact hka
                have hzq : q < Z.length := by rw [hTa.r.1]; exact hq
                have hrl := rel_lift hTa.r hTa.ok lok
                have htop : upZ Z q = none ∨ ∃ q' : Nat, q' < Z.length ∧ upZ Z q = some (q' : Int) := by
                  rw [rel_up hTa.r hTa.ok]
                  unfold upF
                  rw [if_pos (by omega), Int.toNat_natCast]
                  rcases hTa.ok.up q hq with h1 | ⟨q', hq', h1, _⟩
                  · rw [if_pos h1]; exact Or.inl rfl
                  · rw [if_neg (by omega), h1]; exact Or.inr ⟨q', by rw [hTa.r.1]; exact hq', rfl⟩
                have kZ := zlift_yes _ _ _ Z ka q hTa.z hza hzq (by rw [hup]; exact e) (by rw [hTa.r.1]; exact hle) hTa.len hTa.old htop
                have kL := fun W (h : Upd [] (wr.alloc (.cells #[.int .i64 2, .int .i64 (ka : Int), .int .i64 B] 83)) W) => lift_yes bt ba lo n S ka q (S.u q) W (hTa.f.upd0 h) lok
                have hok2 := hTa.ok.lift lok
                have hbl : ∀ g, g ∈ (liftS S ka q (S.u q)).blk n → g ∈ S.blk n := fun g hg => lift_blk S ka q _ n g hka hq hg
                generalize (match upZ Z q with | some q' => (liftZ1 Z ka q).set q'.toNat (putL (Z.getD q'.toNat []) q ka) | none => liftZ1 Z ka q) = Z2 at *
                have HBL := Lib.hid hbl
                have HOK2 := Lib.hid hok2
                have HRL := Lib.hid hrl
                have HTA := Lib.hid hTa
                have hFa : Upd (ba :: S.blk n) (wr.alloc (.cells #[.int .i64 2, .int .i64 (ka : Int), .int .i64 B] 83)) (wr.alloc (.cells #[.int .i64 2, .int .i64 (ka : Int), .int .i64 B] 83)) := Upd.refl _ _
                clear hok2 hrl hbl htop lok hu1 hm e hup hA hTa
                go_wp2_with (first
                  | ((go_at_call 47; (with_reducible refine (kZ).mono ?_)); rintro e w1 ⟨a1, c1, rfl, hz1, hu1⟩; have hF1 := hFa.then hu1)
                  | ((go_at_call 17; (with_reducible refine (kL _ hu1).mono ?_)); rintro e w2 ⟨rfl, hf2, hu2⟩; have hF2 := hF1.trans hu2; have hT2 := HTA.out.step hu1 hz1 hf2 hu2 (fun g hg => Or.inl (HBL.out g hg)) HOK2.out HRL.out)
                  | ((go_at_call 24; (with_reducible refine (kS _ _ _ _ hT2 ka).mono ?_)); rintro e w7 ⟨rfl, hu7⟩; have hT7 := hT2.upd0 hu7; have hF7 := hF2.then hu7)
                  | ((go_at_call 24; (with_reducible refine (kS _ _ _ _ hT7 B).mono ?_)); rintro e w8 ⟨rfl, hu8⟩; have hT8 := hT7.upd0 hu8; have hF8 := hF7.then hu8))
                go_roundw
                case rel => exact ⟨j + 1, _, _, by omega, by go_num, hT8, HFI.out _ hF8, fun g hg => HBK.out g (HBL.out g hg)⟩
                case measure => simp [intOf]; omega
            · have e : upF n S.f A = none := by unfold upF; rw [if_neg hA]
              have kZ := zlift_no _ _ _ Z A hTa.z (by rw [hup]; exact e)
              have kL := lift_no bt ba lo n S A _ hTa.f e
              have hT2 := hTa
              have hFa : Upd (ba :: S.blk n) (wr.alloc (.cells #[.int .i64 2, .int .i64 A, .int .i64 B] 83)) (wr.alloc (.cells #[.int .i64 2, .int .i64 A, .int .i64 B] 83)) := Upd.refl _ _
              have hF2 := hFa
              clear e hup hA hTa
              go_wp2_with (first
                | (go_at_call 47; (with_reducible refine (kZ).mono ?_); rintro e w9 ⟨rfl, hw9⟩; rw [hw9]; clear hw9 w9)
                | (go_at_call 17; (with_reducible refine (kL).mono ?_); rintro e w9 ⟨rfl, hw9⟩; rw [hw9]; clear hw9 w9)
                | ((go_at_call 24; (with_reducible refine (kS _ _ _ _ hT2 A).mono ?_)); rintro e w7 ⟨rfl, hu7⟩; have hT7 := hT2.upd0 hu7; have hF7 := hF2.then hu7)
                | ((go_at_call 24; (with_reducible refine (kS _ _ _ _ hT7 B).mono ?_)); rintro e w8 ⟨rfl, hu8⟩; have hT8 := hT7.upd0 hu8; have hF8 := hF7.then hu8))
              go_roundw
              case rel => exact ⟨j + 1, _, _, by omega, by go_num, hT8, HFI.out _ hF8, HBK.out⟩
              case measure => simp [intOf]; omega
          · have bK2 : (K == 2) = false := by simpa using hK2
            have hT2 := hTa
            have hFa : Upd (ba :: S.blk n) (wr.alloc (.cells #[.int .i64 K, .int .i64 A, .int .i64 B] 83)) (wr.alloc (.cells #[.int .i64 K, .int .i64 A, .int .i64 B] 83)) := Upd.refl _ _
            have hF2 := hFa
            clear hK2 hTa
            go_wp2_with (first
              | fail
              | ((go_at_call 24; (with_reducible refine (kS _ _ _ _ hT2 A).mono ?_)); rintro e w7 ⟨rfl, hu7⟩; have hT7 := hT2.upd0 hu7; have hF7 := hF2.then hu7)
              | ((go_at_call 24; (with_reducible refine (kS _ _ _ _ hT7 B).mono ?_)); rintro e w8 ⟨rfl, hu8⟩; have hT8 := hT7.upd0 hu8; have hF8 := hF7.then hu8))
            go_roundw
            case rel => exact ⟨j + 1, _, _, by omega, by go_num, hT8, HFI.out _ hF8, HBK.out⟩
            case measure => simp [intOf]; omega
    · obtain rfl : j = len := by omega
      go_wp2
      go_ret2
      exact ⟨S, _, Z, rfl, hT, hu⟩
end Go.Proofs.Ytdgohhkgmfjhaaa
