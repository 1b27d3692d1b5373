/-
  Fibonacci heaps: Min, Insert, Meld, Make, New, Degree, Roots. Conditions: those of each lemma.
-/
import Derived.Test.YtighgbdijagolaaFb4
set_option linter.unusedVariables false
set_option linter.unusedSimpArgs false
namespace Go.Proofs.Ytighgbdijagolaa
open Go Go.RowKit

/-- The memory of Fibonacci heaps, by its blocks FF; they are sound. -/
def FbK (w : World) (p : Nat) (FF : List Nat) (A : NS) (st : Nat) (G : FG) : Prop := (∃ B F gt ct, p = B.n0 ∧ FF = B.blk F gt ∧ FbM w B F gt ct A st G) ∧ FbI A G
theorem fblk_F {B : FB} {F : List Nat} {gt : Nat} : ∀ x, x ∈ F → x ∈ B.blk F gt := fun x hx => by simp [FB.blk, hx]
theorem fblk_go {w : World} {B : FB} {F F' : List Nat} {gt : Nat} (hF : ∀ x, x ∈ F' → x ∈ F ∨ w.heap.size ≤ x) : ∀ x, x ∈ B.blk F' gt → x ∈ B.blk F gt ∨ w.heap.size ≤ x := fun x hx => by
  simp only [FB.blk, List.mem_cons] at hx ⊢
  rcases hx with e | e | e | e | e | e | e
  · exact Or.inl (Or.inl e)
  · exact Or.inl (Or.inr (Or.inl e))
  · exact Or.inl (Or.inr (Or.inr (Or.inl e)))
  · exact Or.inl (Or.inr (Or.inr (Or.inr (Or.inl e))))
  · exact Or.inl (Or.inr (Or.inr (Or.inr (Or.inr (Or.inl e)))))
  · exact Or.inl (Or.inr (Or.inr (Or.inr (Or.inr (Or.inr (Or.inl e))))))
  · rcases hF x e with h | h
    · exact Or.inl (Or.inr (Or.inr (Or.inr (Or.inr (Or.inr (Or.inr h))))))
    · exact Or.inr h
section
variable {w : World} {p : Nat} {FF : List Nat} {A : NS} {st : Nat} {G : FG}
theorem FbK.upd {w' : World} {S : List Nat} (h : FbK w p FF A st G) (hu : Upd S w w') (hS : ∀ x, x ∈ S → x ∉ FF) : FbK w' p FF A st G := by
  obtain ⟨⟨B, F, gt, ct, rfl, rfl, M⟩, I⟩ := h
  exact ⟨⟨B, F, gt, ct, rfl, rfl, M.upd hu hS⟩, I⟩
theorem FbK.upd0 {w' : World} (h : FbK w p FF A st G) (hu : Upd [] w w') : FbK w' p FF A st G := h.upd hu (by simp)
theorem FbK.lt (h : FbK w p FF A st G) : ∀ x, x ∈ FF → x < w.heap.size := by
  obtain ⟨⟨B, F, gt, ct, rfl, rfl, M⟩, I⟩ := h
  exact M.lt
theorem FbK.ok (h : FbK w p FF A st G) : A.Ok := by
  obtain ⟨⟨B, F, gt, ct, rfl, rfl, M⟩, I⟩ := h
  exact M.cells.ok
theorem FbK.st62 (h : FbK w p FF A st G) : st ≤ 4611686018427387904 := by
  obtain ⟨⟨B, F, gt, ct, rfl, rfl, M⟩, I⟩ := h
  exact M.cells.st62
theorem FbK.cl (h : FbK w p FF A st G) : ∃ c F1, w.cell? ⟨p, 0, none⟩ = some (.pointer (some ⟨c, 0, none⟩)) ∧ CellsAt w c F1 A st ∧ c ∈ FF := by
  obtain ⟨⟨B, F, gt, ct, rfl, rfl, M⟩, I⟩ := h
  exact ⟨B.c, F, M.h0, M.cells, fblk_F _ M.cells.mem⟩
/-- A heap with something in it. -/
theorem fb_some (I : FbI A G) (ok : A.Ok) {q : Int} {m : Nat} (hm : minN A q = some m) : ∃ (h : Nat) (s : List Nat), q = h ∧ 1 ≤ h ∧ h < A.hs.length ∧ G.R h = m :: s ∧ 0 < lenN A q := by
  obtain ⟨m1, m2⟩ := I.root_of_min hm
  have hx : (A.c m).i = (q.toNat : Int) := m1.2.2
  have hnat := ok.nat m m1.1
  refine ⟨q.toNat, ?_⟩
  have hmem := ((I.fr.all q.toNat).2.1 m).2 ⟨m2, m1⟩
  cases hR : G.R q.toNat with
  | nil => rw [hR] at hmem; cases hmem
  | cons t s =>
    have := (I.min_some hR).1
    rw [show ((q.toNat : Nat) : Int) = q by omega, hm] at this
    injection this with this
    subst this
    exact ⟨s, by omega, m2, by omega, rfl, lenN_pos.2 ⟨m, m1.1, by omega, by omega⟩⟩
theorem fmin_any (h : FbK w p FF A st G) (q : Int) (hqb : -9223372036854775808 ≤ q ∧ q ≤ 9223372036854775807) :
    Calls Try.prog 83 #[.pointer (some ⟨p, 0, none⟩), .int .i64 q] w fun e w' => e = .returned (.tuple #[.int .i64 (slotV (minN A q)), .bool (minN A q).isSome]) ∧ w' = w := by
  obtain ⟨⟨B, F, gt, ct, rfl, rfl, M⟩, I⟩ := h
  have h0 := M.h0
  have kl := clen_any M.cells q hqb
  cases hm : minN A q with
  | none =>
    rw [minN_none_iff.1 hm] at kl
    clear M I hm
    go_enter Try.func83, Try.ntmps83
    go_wp2_with ((go_at_call 21; (with_reducible refine (kl).mono ?_); rintro e w9 ⟨rfl, hw9⟩; rw [hw9]; clear hw9 w9))
    go_ret2
    exact ⟨rfl, rfl⟩
  | some m =>
    obtain ⟨hh, s, rfl, h1, hl, hR, hp⟩ := fb_some I M.cells.ok hm
    have h3 := M.h3
    have ht := M.top hl
    rw [hR] at ht
    have ht' : w.cell? ⟨gt, hh, none⟩ = some (.int .i64 (m : Int)) := ht
    have hcap := M.cap
    have hlI : (hh : Int) < (A.hs.length : Int) := by omega
    have hne : (((lenN A (hh : Int) : Nat) : Int) == 0) = false := by simp; omega
    generalize lenN A (hh : Int) = ln at *
    clear M I hm hR ht
    go_enter Try.func83, Try.ntmps83
    go_wp2_with ((go_at_call 21; (with_reducible refine (kl).mono ?_); rintro e w9 ⟨rfl, hw9⟩; rw [hw9]; clear hw9 w9))
    go_ret2
    exact ⟨rfl, rfl⟩
theorem fdeg_any (h : FbK w p FF A st G) (x : Int) :
    Calls Try.prog 39 #[.pointer (some ⟨p, 0, none⟩), .int .i64 x] w fun e w' => e = .returned (.int .i64 (if inN A x then ((G.K x.toNat).length : Int) else 0)) ∧ Goes FF w w' (fun FF' => FbK w' p FF' A st G) := by
  obtain ⟨⟨B, F, gt, ct, rfl, rfl, M⟩, I⟩ := h
  have h0 := M.h0
  cases hin : inN A x with
  | false =>
    have kh := chome_no M.cells x hin
    have HM := Lib.hid (And.intro M I)
    clear M I hin
    go_enter Try.func39, Try.ntmps39
    go_wp2_with ((go_at_call 66; (with_reducible refine (kh).mono ?_); rintro e w9 ⟨rfl, hw9⟩; rw [hw9]; clear hw9 w9))
    go_ret
    exact ⟨rfl, Goes.stay ⟨⟨B, F, gt, ct, rfl, rfl, HM.out.1⟩, HM.out.2⟩ (Upd.refl _ _)⟩
  | true =>
    obtain ⟨y, rfl⟩ := in_nat hin
    obtain ⟨hy, hy2⟩ := (inN_nat _ _).1 hin
    have kh := chome_yes M.cells y hin
    have h2 : ∀ W, Upd F w W → W.cell? ⟨B.n0, 2, none⟩ = some (.slice (some ⟨B.bl, 0, none⟩) A.cs.length A.cs.length) := fun W hW => hW.kept M.h2 M.d1.1
    have hp2 := fun W (hW : Upd F w W) => hW.kept (M.p2 hy) M.d1.2.2.2.2.1
    have hyI : (y : Int) < (A.cs.length : Int) := by omega
    have hc1 := M.cells.ok.c1
    have HM := Lib.hid (And.intro M I)
    clear M I hin
    go_enter Try.func39, Try.ntmps39
    go_wp2_with (first
      | ((go_at_call 66; (with_reducible refine (kh).mono ?_)); rintro e w1 ⟨rfl, hC, hu⟩; (have q2 := h2 _ hu); (have q3 := hp2 _ hu)))
    go_ret
    exact ⟨rfl, Goes.stay ⟨⟨B, F, gt, ct, rfl, rfl, HM.out.1.setC hu hC (fun z hz => Or.inl hz) rfl rfl⟩, HM.out.2⟩ (hu.mono fblk_F)⟩
theorem froots_any (h : FbK w p FF A st G) (q : Int) (hqb : -9223372036854775808 ≤ q ∧ q ≤ 9223372036854775807) :
    Calls Try.prog 36 #[.pointer (some ⟨p, 0, none⟩), .int .i64 q] w fun e w' => e = .returned (.int .i64 ((G.R q.toNat).length : Int)) ∧ Upd [] w w' := by
  have hR0 : minN A q = none → G.R q.toNat = [] := fun hm => by
    cases hR : G.R q.toNat with
    | nil => rfl
    | cons t s =>
      have a := h.2.min_some hR
      rw [show ((q.toNat : Nat) : Int) = q by omega, hm] at a
      cases a.1
  obtain ⟨⟨B, F, gt, ct, rfl, rfl, M⟩, I⟩ := h
  have h0 := M.h0
  have kl := clen_any M.cells q hqb
  cases hm : minN A q with
  | none =>
    rw [minN_none_iff.1 hm] at kl
    rw [hR0 hm]
    clear M I hm
    go_enter Try.func36, Try.ntmps36
    go_wp2_with ((go_at_call 21; (with_reducible refine (kl).mono ?_); rintro e w9 ⟨rfl, hw9⟩; rw [hw9]; clear hw9 w9))
    go_ret
    exact ⟨rfl, Upd.refl _ _⟩
  | some m =>
    obtain ⟨hh, s, rfl, h1, hl, hR, hp⟩ := fb_some I M.cells.ok hm
    rw [Int.toNat_natCast]
    have h3 := M.h3
    have hr1 := M.h1
    have ht := M.top hl
    rw [hR] at ht
    have ht' : w.cell? ⟨gt, hh, none⟩ = some (.int .i64 (m : Int)) := ht
    have hcap := M.cap
    have hlI : (hh : Int) < (A.hs.length : Int) := by omega
    have hne : (((lenN A (hh : Int) : Nat) : Int) == 0) = false := by simp; omega
    obtain ⟨r1, r2, _⟩ := I.fr.all hh
    rw [hR] at r1
    have hmem : ∀ z, z ∈ m :: s → z < A.cs.length := fun z hz => (((r2 z).1 (by rw [hR]; exact hz)).2).1
    have kall := fun W (hW : Upd [] w W) => rall_any (M.rings.upd0 hW) r1 hmem
    have s1 : ∀ W, Upd [] w W → W.cell? ⟨B.n0, 1, none⟩ = some (.pointer (some ⟨B.br, 0, none⟩)) := fun W hW => hW.was hr1
    have s3 : ∀ W, Upd [] w W → W.cell? ⟨B.n0, 3, none⟩ = some (.slice (some ⟨gt, 0, none⟩) A.hs.length ct) := fun W hW => hW.was h3
    have st' : ∀ W, Upd [] w W → W.cell? ⟨gt, hh, none⟩ = some (.int .i64 (m : Int)) := fun W hW => hW.was ht'
    have hln : (m :: s).length ≤ A.cs.length := nodup_bound A.cs.length _ r1.nd hmem
    have hc1 := M.cells.ok.c1
    rw [hR]
    generalize lenN A (hh : Int) = ln at *
    generalize hlen : (m :: s).length = lm at *
    have HL := Lib.hid hlen
    clear M I hm hR ht r1 r2 hmem h3 hr1 ht' hR0 hlen
    go_enter Try.func36, Try.ntmps36
    go_wp2_with ((go_at_call 21; (with_reducible refine (kl).mono ?_); rintro e w9 ⟨rfl, hw9⟩; rw [hw9]; clear hw9 w9))
    go_region_held3 (Upd [] w) (repeat (first | assumption | exact Upd.refl _ _ | refine Upd.drew ?_ | refine Upd.alloc ?_ _ | refine Upd.setCell ?_ ?_ _ | focus (left; simp; done) | focus (right; simp; done) | focus (right; simp; omega) | (apply Upd.trans; rotate_left; assumption)))
      (first
        | ((go_at_call 65; (with_reducible refine (kall _ (by (repeat (first | assumption | exact Upd.refl _ _ | refine Upd.alloc ?_ _ | refine Upd.drew ?_ | refine Upd.drewN ?_ _ | refine Upd.setCell ?_ ?_ _ | focus (left; simp; done) | focus (right; simp; done) | focus (right; simp; omega))))).mono ?_)); rintro e w2 ⟨v2, rfl, ho2, hu2⟩; obtain ⟨a2, c2, hv2, _⟩ := own_slice ho2; subst hv2; (have hu3 : Upd [] w w2 := Upd.trans (by (repeat (first | assumption | exact Upd.refl _ _ | refine Upd.drew ?_ | refine Upd.alloc ?_ _ | refine Upd.setCell ?_ ?_ _ | focus (left; simp; done) | focus (right; simp; done) | focus (right; simp; omega) | (apply Upd.trans; rotate_left; assumption)))) hu2)))
    go_wp2
    go_ret
    exact ⟨rfl, by (repeat (first | assumption | exact Upd.refl _ _ | refine Upd.drew ?_ | refine Upd.alloc ?_ _ | refine Upd.setCell ?_ ?_ _ | focus (left; simp; done) | focus (right; simp; done) | focus (right; simp; omega) | (apply Upd.trans; rotate_left; assumption)))⟩
set_option maxHeartbeats 2000000 in
theorem finsert_no (h : FbK w p FF A st G) (q x k s : Int) (hB : putB A q x = false) :
    Calls Try.prog 61 #[.pointer (some ⟨p, 0, none⟩), .int .i64 q, .int .i64 x, .agg #[.int .i64 k, .int .u64 s]] w fun e w' => e = .returned (.bool false) ∧ Upd [] w w' := by
  obtain ⟨⟨B, F, gt, ct, rfl, rfl, M⟩, I⟩ := h
  have u1 : Upd [] w (w.alloc (.cells #[.int .i64 k, .int .u64 s] 57)) := (Upd.refl _ _).alloc _
  have kp := fun W (hW : Upd [] (w.alloc (.cells #[.int .i64 k, .int .u64 s] 57)) W) => cput_no (M.cells.upd0 (u1.trans hW)) q x k s hB
  have h0 := M.h0
  have r0 : ∀ W, Upd [] (w.alloc (.cells #[.int .i64 k, .int .u64 s] 57)) W → W.cell? ⟨B.n0, 0, none⟩ = some (.pointer (some ⟨B.c, 0, none⟩)) := fun W hW => hW.was (u1.was h0)
  have r1 : ∀ W, Upd [] (w.alloc (.cells #[.int .i64 k, .int .u64 s] 57)) W → W.cell? ⟨w.heap.size, 0, none⟩ = some (.int .i64 k) := fun W h => h.was (by simp)
  have r2 : ∀ W, Upd [] (w.alloc (.cells #[.int .i64 k, .int .u64 s] 57)) W → W.cell? ⟨w.heap.size, 1, none⟩ = some (.int .u64 s) := fun W h => h.was (by simp)
  clear M I hB h0
  go_enter Try.func61, Try.ntmps61
  go_wp2
  go_region_held3 (Upd [] (w.alloc (.cells #[.int .i64 k, .int .u64 s] 57))) (repeat (first | assumption | exact Upd.refl _ _ | refine Upd.drew ?_ | refine Upd.alloc ?_ _ | refine Upd.setCell ?_ ?_ _ | focus (left; simp; done) | focus (right; simp; done) | focus (right; simp; omega) | (apply Upd.trans; rotate_left; assumption)))
    (first
      | ((go_at_call 69; (with_reducible refine (kp _ (by (repeat (first | assumption | exact Upd.refl _ _ | refine Upd.alloc ?_ _ | refine Upd.drew ?_ | refine Upd.drewN ?_ _ | refine Upd.setCell ?_ ?_ _ | focus (left; simp; done) | focus (right; simp; done) | focus (right; simp; omega))))).mono ?_)); rintro e w1 ⟨rfl, hu1⟩; (have hu2 : Upd [] (w.alloc (.cells #[.int .i64 k, .int .u64 s] 57)) w1 := by (repeat (first | assumption | exact Upd.refl _ _ | refine Upd.drew ?_ | refine Upd.alloc ?_ _ | refine Upd.setCell ?_ ?_ _ | focus (left; simp; done) | focus (right; simp; done) | focus (right; simp; omega) | (apply Upd.trans; rotate_left; assumption))))))
  go_wp2
  go_ret
  exact ⟨rfl, u1.trans (by (repeat (first | assumption | exact Upd.refl _ _ | refine Upd.drew ?_ | refine Upd.alloc ?_ _ | refine Upd.setCell ?_ ?_ _ | focus (left; simp; done) | focus (right; simp; done) | focus (right; simp; omega) | (apply Upd.trans; rotate_left; assumption))))⟩
set_option maxHeartbeats 2000000 in
theorem finsert_yes (h : FbK w p FF A st G) (q x : Nat) (k s : Int) (hk : -9223372036854775808 ≤ k ∧ k ≤ 9223372036854775807 ∧ 0 ≤ s ∧ s ≤ 18446744073709551615) (hB : putB A q x = true) :
    Calls Try.prog 61 #[.pointer (some ⟨p, 0, none⟩), .int .i64 (q : Int), .int .i64 (x : Int), .agg #[.int .i64 k, .int .u64 s]] w fun e w' => e = .returned (.bool true) ∧
      Goes FF w w' (fun FF' => FbK w' p FF' (putN A q x k s) (satS st (rootQ q G)) (insG (putN A q x k s) q x G)) := by
  obtain ⟨⟨B, F, gt, ct, rfl, rfl, M⟩, I⟩ := h
  have ok := M.cells.ok
  obtain ⟨I2, _, _, _, h1, hx, hin, hti, hcs⟩ := ins_fb I ok k s hB
  have hhs : (putN A q x k s).hs.length = A.hs.length := by unfold putN; split; rfl; rfl
  have hql : q < (putN A q x k s).hs.length := by
    rw [hhs]
    have := (hasN_iff _ _).1 ((putB_iff _ _ _).1 hB).1
    omega
  have u1 : Upd [] w (w.alloc (.cells #[.int .i64 k, .int .u64 s] 57)) := (Upd.refl _ _).alloc _
  have kp := fun W (hW : Upd [] (w.alloc (.cells #[.int .i64 k, .int .u64 s] 57)) W) => cput_yes (M.cells.upd0 (u1.trans hW)) q x k s hk hB
  have h0 := M.h0
  have hbF : B.n0 ∉ F := M.d1.1
  have hsz : w.heap.size ∉ F := fun hm => by have := M.cells.lt _ hm; omega
  have r0 : ∀ W, Upd F (w.alloc (.cells #[.int .i64 k, .int .u64 s] 57)) W → W.cell? ⟨B.n0, 0, none⟩ = some (.pointer (some ⟨B.c, 0, none⟩)) := fun W hW => hW.kept (u1.was h0) hbF
  have r1 : ∀ W, Upd F (w.alloc (.cells #[.int .i64 k, .int .u64 s] 57)) W → W.cell? ⟨w.heap.size, 0, none⟩ = some (.int .i64 k) := fun W h => h.kept (by simp) hsz
  have r2 : ∀ W, Upd F (w.alloc (.cells #[.int .i64 k, .int .u64 s] 57)) W → W.cell? ⟨w.heap.size, 1, none⟩ = some (.int .u64 s) := fun W h => h.kept (by simp) hsz
  have ka := fun (W : World) (hM : FbM W B F gt ct (putN A q x k s) st G) => froot_any hM [] hql hin hti
  have HM := Lib.hid (And.intro M (And.intro hhs hcs))
  have HI := Lib.hid I2
  clear M I ok I2 hin hti hql hx hcs hhs h0 hB
  go_enter Try.func61, Try.ntmps61
  go_wp2
  go_region_held3 (Upd F (w.alloc (.cells #[.int .i64 k, .int .u64 s] 57))) (repeat (first | assumption | exact Upd.refl _ _ | refine Upd.drew ?_ | refine Upd.alloc ?_ _ | refine Upd.setCell ?_ ?_ _ | focus (left; simp; done) | focus (right; simp; done) | focus (right; simp; omega) | (apply Upd.trans; rotate_left; assumption)))
    (first
      | ((go_at_call 69; (with_reducible refine (kp _ (by (repeat (first | assumption | exact Upd.refl _ _ | refine Upd.alloc ?_ _ | refine Upd.drew ?_ | refine Upd.drewN ?_ _ | refine Upd.setCell ?_ ?_ _ | focus (left; simp; done) | focus (right; simp; done) | focus (right; simp; omega))))).mono ?_)); rintro e w1 ⟨rfl, hC1, hu1⟩; (have hu2 : Upd F (w.alloc (.cells #[.int .i64 k, .int .u64 s] 57)) w1 := by (repeat (first | assumption | exact Upd.refl _ _ | refine Upd.drew ?_ | refine Upd.alloc ?_ _ | refine Upd.setCell ?_ ?_ _ | focus (left; simp; done) | focus (right; simp; done) | focus (right; simp; omega) | (apply Upd.trans; rotate_left; assumption))))))
  have uF : Upd F w w1 := (u1.mono (by simp)).trans hu2
  have hM1 := HM.out.1.setC uF hC1 (fun y hy => Or.inl hy) HM.out.2.2 HM.out.2.1
  have ka1 := fun (W : World) (hW : Upd [] w1 W) => ka W (hM1.upd0 hW)
  have HU := Lib.hid uF
  have hcm := HM.out.1.cells.mem
  clear kp r0 r1 r2 hM1 ka uF hu2 hC1 hu1
  go_wp2_with (first
    | ((go_at_call 82; (with_reducible refine (ka1 _ (by (repeat (first | assumption | exact Upd.refl _ _ | refine Upd.alloc ?_ _ | refine Upd.drew ?_ | refine Upd.drewN ?_ _ | refine Upd.setCell ?_ ?_ _ | focus (left; simp; done) | focus (right; simp; done) | focus (right; simp; omega))))).mono ?_)); rintro e w2 ⟨rfl, hM2, hu3⟩)
    | fail)
  go_ret
  refine ⟨rfl, B.blk F gt, ⟨⟨B, F, gt, ct, rfl, rfl, hM2⟩, HI.out⟩, (HU.out.mono fblk_F).trans ((by (repeat (first | assumption | exact Upd.refl _ _ | refine Upd.alloc ?_ _ | refine Upd.drew ?_ | refine Upd.drewN ?_ _ | refine Upd.setCell ?_ ?_ _ | focus (left; simp; done) | focus (right; simp; done) | focus (right; simp; omega))) : Upd _ w1 _).trans (hu3.mono (fun y hy => ?_))), fun y hy => Or.inl hy⟩
  simp only [List.mem_cons, List.not_mem_nil, or_false] at hy
  rcases hy with e | e | e | e
  · rw [e]; exact fblk_F _ hcm
  all_goals simp [FB.blk, e]
theorem fmeld_no (h : FbK w p FF A st G) (a b : Int) (hB : joinB A a b = false) :
    Calls Try.prog 164 #[.pointer (some ⟨p, 0, none⟩), .int .i64 a, .int .i64 b] w fun e w' => e = .returned (.bool false) ∧ w' = w := by
  obtain ⟨⟨B, F, gt, ct, rfl, rfl, M⟩, I⟩ := h
  have kj := cjoin_no M.cells a b hB
  have h0 := M.h0
  clear M I hB
  go_enter Try.func164, Try.ntmps164
  go_wp2_with ((go_at_call 151; (with_reducible refine (kj).mono ?_); rintro e w9 ⟨rfl, hw9⟩; rw [hw9]; clear hw9 w9))
  go_ret
  exact ⟨rfl, rfl⟩
set_option maxHeartbeats 2000000 in
theorem fmeld_yes (h : FbK w p FF A st G) (a b : Nat) (hj : joinB A a b = true) :
    Calls Try.prog 164 #[.pointer (some ⟨p, 0, none⟩), .int .i64 (a : Int), .int .i64 (b : Int)] w fun e w' => e = .returned (.bool true) ∧
      Goes FF w w' (fun FF' => FbK w' p FF' (joinN A a b) (satS st (melQ a b G)) (melG (joinN A a b) a b G)) := by
  obtain ⟨⟨B, F, gt, ct, rfl, rfl, M⟩, I⟩ := h
  have hst := M.cells.st62
  obtain ⟨I2, _, _, _, _, hab, hin⟩ := mel_fb I M.cells.ok hj
  have kj := cjoin_yes M.cells a b hj
  have hcs := joinN_len A a b
  obtain ⟨j1, j2, j3⟩ := (joinB_iff _ _ _).1 hj
  have a4 := (hasN_iff _ _).1 j1
  have b4 := (hasN_iff _ _).1 j2
  have hhs : (joinN A a b).hs.length = A.hs.length := by unfold joinN; rw [if_pos hj]; simp
  have hal : a < (joinN A a b).hs.length := by omega
  have hbl : b < (joinN A a b).hs.length := by omega
  have h0 := M.h0
  have HM := Lib.hid (And.intro M (And.intro hhs hcs))
  have HI := Lib.hid I2
  have hcm := M.cells.mem
  cases hR : G.R b with
  | nil =>
    have eq : melQ a b G = 0 := by unfold melQ; rw [if_pos hR]
    have eg : melG (joinN A a b) a b G = { G with R := putF G.R b [] } := by unfold melG; rw [hR]
    rw [eg] at HI
    rw [eq, eg, satS_zero hst]
    have k2 := fun W (hC : CellsAt W B.c F (joinN A a b) st) (hu : Upd F w W) => M.setC hu hC (fun y hy => Or.inl hy) hcs hhs
    have K2 := Lib.hid k2
    have HR := Lib.hid hR
    have hbI : (b : Int) < ((joinN A a b).hs.length : Int) := by omega
    have hcap := M.cap
    have hn0 := M.d2.2.2.2.2
    clear M I I2 hin hj eq eg k2 hR j1 j2 a4 b4
    go_enter Try.func164, Try.ntmps164
    go_wp2_with (first
      | ((go_at_call 151; (with_reducible refine (kj).mono ?_)); rintro e w1 ⟨rfl, hC1, hu1⟩; (have M1 := K2.out _ hC1 hu1); (have d3 := M1.h3); (have dt : w1.cell? ⟨gt, b, none⟩ = some (.int .i64 (-1)) := by (have dt0 := M1.top hbl; rw [HR.out] at dt0; exact dt0)); (have df := M1.tops.free b); (have H1 := Lib.hid (And.intro M1 hu1)); clear M1 hC1 hu1)
      | fail)
    go_ret
    refine ⟨rfl, B.blk F gt, ⟨⟨B, F, gt, ct, rfl, rfl, H1.out.1.setT b []⟩, HI.out⟩, (H1.out.2.mono fblk_F).setCell (Or.inl (by simp [FB.blk])) _, fun y hy => Or.inl hy⟩
  | cons x r =>
    have eq : melQ a b G = rootQ a G := by unfold melQ; rw [if_neg (by rw [hR]; simp)]
    have eg : melG (joinN A a b) a b G = { rootG (ltN (joinN A a b)) a (x :: r) G with R := putF (rootG (ltN (joinN A a b)) a (x :: r) G).R b [] } := by unfold melG; rw [hR]
    rw [eg] at HI
    rw [eq, eg]
    have hxin := hin x b r hR
    have k2 := fun W (hC : CellsAt W B.c F (joinN A a b) st) (hu : Upd F w W) => M.setC hu hC (fun y hy => Or.inl hy) hcs hhs
    have kr := fun W (hM : FbM W B F gt ct (joinN A a b) st G) => froot_any hM r hal hxin (fun t s' e => hin t a s' e)
    have K2 := Lib.hid (And.intro k2 kr)
    have HR := Lib.hid hR
    have hbI : (b : Int) < ((joinN A a b).hs.length : Int) := by omega
    have hcap := M.cap
    have hn0 := M.d2.2.2.2.2
    have hxn : ((x : Int) == -1) = false := by simp
    have hRb : (rootG (ltN (joinN A a b)) a (x :: r) G).R b = x :: r := by rw [(rootG_same _ _ _ _).2.2.2 b (Ne.symm hab), hR]
    have HRB := Lib.hid hRb
    clear M I I2 hin hj eq eg k2 kr hR j1 j2 a4 b4 hxin hRb
    go_enter Try.func164, Try.ntmps164
    go_wp2_with (first
      | ((go_at_call 151; (with_reducible refine (kj).mono ?_)); rintro e w1 ⟨rfl, hC1, hu1⟩; (have M1 := K2.out.1 _ hC1 hu1); (have d3 := M1.h3); (have dt : w1.cell? ⟨gt, b, none⟩ = some (.int .i64 (x : Int)) := by (have dt0 := M1.top hbl; rw [HR.out] at dt0; exact dt0)); (have kr1 := K2.out.2 _ M1); (have H1 := Lib.hid (And.intro M1 hu1)); clear M1 hC1 hu1)
      | ((go_at_call 82; (with_reducible refine (kr1).mono ?_)); rintro e w2 ⟨rfl, hM2, hu2⟩; (have d4 := hM2.h3); (have dt2 := hM2.top hbl); (have df2 := hM2.tops.free b); (have H2 := Lib.hid (And.intro hM2 hu2)); clear hM2 hu2)
      | fail)
    go_ret
    refine ⟨rfl, B.blk F gt, ⟨⟨B, F, gt, ct, rfl, rfl, H2.out.1.setT b []⟩, HI.out⟩, ((H1.out.2.mono fblk_F).trans (H2.out.2.mono (fun y hy => ?_))).setCell (Or.inl (by simp [FB.blk])) _, fun y hy => Or.inl hy⟩
    simp only [List.mem_cons, List.not_mem_nil, or_false] at hy
    rcases hy with e | e | e | e
    · rw [e]; exact fblk_F _ hcm
    all_goals simp [FB.blk, e]
end
end Go.Proofs.Ytighgbdijagolaa
