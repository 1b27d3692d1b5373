/-
  Binomial heaps: Nest.Extract, Insert, Meld. Conditions: those of each lemma.
-/
import Derived.Test.YtighgbdijagolaaBn4
set_option linter.unusedVariables false
set_option linter.unusedSimpArgs false
namespace Go.Proofs.Ytighgbdijagolaa
open Go Go.RowKit

def BnK (w : World) (p : Nat) (FF : List Nat) (A : NS) (st : Nat) (G : BG) : Prop := BnAt w p FF A st G ∧ BnI A G
theorem bn_first {A : NS} {G : BG} (I : BnI A G) (ok : A.Ok) {q : Int} {m : Nat} (hm : minN A q = some m) : ∃ k : Nat, q = k ∧ 1 ≤ k ∧ hasN A q = true ∧ m < A.cs.length ∧ G.F.u m = -1 ∧ (A.c m).i = k := by
  have hq : 0 < q := by
    apply Classical.byContradiction
    intro h
    rw [minN_neg h] at hm; cases hm
  obtain ⟨k, rfl⟩ : ∃ k : Nat, q = k := ⟨q.toNat, by omega⟩
  have hf := (minN_some hq).1 hm
  have hh : hasN A (k : Int) = true := by
    have := inN_has ok ((inN_nat A m).2 ⟨hf.1, by rw [hf.2.1]; omega⟩)
    rw [Int.toNat_natCast, hf.2.1] at this
    exact this
  cases hR : G.R k with
  | nil => rw [bn_none I (by omega) hR] at hm; cases hm
  | cons x t =>
    obtain ⟨m', _, h2, h3, h4, h5⟩ := bn_min I (show 1 ≤ k by omega) hR
    rw [hm] at h2
    cases h2
    exact ⟨k, rfl, by omega, hh, h3, h4, h5⟩
/-- Steps of Extract, and what is behind it. -/
def extC (A : NS) (q : Int) (G : BG) : Nat := minC A G q + (match minN A q with | some m => takeQ A q.toNat m G | none => 0)
def extG (A : NS) (q : Int) (G : BG) : BG := match minN A q with | some m => takeG A q.toNat m G | none => G
section
variable {w : World} {p : Nat} {FF : List Nat} {A : NS} {st : Nat} {G : BG}
theorem bextract_any (h : BnK w p FF A st G) (q : Int) :
    Calls Try.prog 143 #[.pointer (some ⟨p, 0, none⟩), .int .i64 q] w fun e w' => e = .returned (.tuple #[.int .i64 (slotV (minN A q)), .bool (minN A q).isSome]) ∧ Goes FF w w' (fun FF' => BnK w' p FF' (extN A q) (satS st (extC A q G)) (extG A q G)) := by
  obtain ⟨⟨B, F, gr, cr, lo, S, vs, rfl, rfl, M, eF⟩, I⟩ := h
  have km := bmin_any M I q
  have hcF : ∀ y, y ∈ [B.c] → y ∈ B.blk F gr A.cs.length S vs := fun y hy => by
    simp at hy; subst hy
    simp [BB.blk, M.cells.mem]
  have hst := M.cells.st62
  cases hm : minN A q with
  | none =>
    rw [hm] at km
    simp only [slotV, Option.isSome_none] at km ⊢
    have e1 : extC A q G = minC A G q := by unfold extC; rw [hm]; rfl
    have e2 : extG A q G = G := by unfold extG; rw [hm]
    have e3 : extN A q = A := by unfold extN; rw [hm]
    rw [e1, e2, e3]
    have HI := Lib.hid (And.intro I (And.intro eF hcF))
    clear M I hm e1 e2 e3 eF hcF
    go_enter Try.func143, Try.ntmps143
    go_wp2_with ((go_at_call 145; (with_reducible refine (km).mono ?_)); rintro e w1 ⟨rfl, hM1, hu1⟩)
    go_ret2
    exact ⟨rfl, Goes.stay ⟨⟨B, F, gr, cr, lo, S, vs, rfl, rfl, hM1, HI.out.2.1⟩, HI.out.1⟩ (hu1.mono HI.out.2.2)⟩
  | some m =>
    rw [hm] at km
    simp only [slotV, Option.isSome_some] at km ⊢
    obtain ⟨k, rfl, hk1, hh, m1, m2, m3⟩ := bn_first I M.cells.ok hm
    have e1 : extC A (k : Int) G = minC A G (k : Int) + takeQ A k m G := by unfold extC; rw [hm]; simp
    have e2 : extG A (k : Int) G = takeG A k m G := by unfold extG; rw [hm]; simp
    have e3 : extN A (k : Int) = dropN A (m : Int) := by unfold extN; rw [hm]
    rw [e1, e2, e3]
    obtain ⟨k', hk', _, hkv⟩ := M.hq hh
    obtain rfl : k = k' := by omega
    have X := I.x m1
    have kt := fun W (hM : BnM W B F gr cr lo A (satS st (minC A G (k : Int))) S vs G.R) => btake_any hM eF X m1 m2 (by rw [m3]; omega) m3 hkv
    have T := (take_bn X M.cells.ok m1 m2 (by rw [m3]; omega) m3).1
    have HI := Lib.hid (And.intro T hcF)
    clear M I hm e1 e2 e3 eF hcF X T m1 m2 m3 hh hk'
    go_enter Try.func143, Try.ntmps143
    go_wp2_with (first
      | ((go_at_call 145; (with_reducible refine (km).mono ?_)); rintro e w1 ⟨rfl, hM1, hu1⟩; (have kt1 := kt _ hM1); (have hs1 := hu1.size))
      | ((go_at_call 150; (with_reducible refine (kt1).mono ?_)); rintro e w2 ⟨rfl, FF2, hK2, hu2, hf2⟩)
      | fail)
    go_ret2
    rw [satS_add] at hK2
    refine ⟨rfl, FF2, ⟨hK2, HI.out.1⟩, (hu1.mono HI.out.2).trans hu2, fun y hy => ?_⟩
    rcases hf2 y hy with h' | h'
    · exact Or.inl h'
    · exact Or.inr (by omega)
theorem blk_F {B : BB} {F : List Nat} {gr n : Nat} {S : CS} {vs : List Value} : ∀ y, y ∈ F → y ∈ B.blk F gr n S vs := fun y hy => by simp [BB.blk, hy]
/-- What the blocks of a nest are behind an add. -/
theorem setR_swap {R : Nat → List Int} {a b : Nat} (h : a ≠ b) (O X : List Int) : setR (setR R a O) b X = setR (setR R b X) a O := by
  funext k
  unfold setR
  by_cases e : k = b
  · rw [if_pos e, if_neg (fun e2 => h (by omega)), if_pos e]
  · rw [if_neg e]
    by_cases e2 : k = a
    · rw [if_pos e2, if_pos e2]
    · rw [if_neg e2, if_neg e2, if_neg e]
theorem blk_add {w : World} {B : BB} {F F' : List Nat} {gr n : Nat} {S S' : CS} {vs : List Value} {q : Nat} {vo : Value} (hF : ∀ y, y ∈ F' → y ∈ F) (hb : ∀ g, g ∈ S'.blk n → g ∈ S.blk n ∨ w.heap.size ≤ g) (hv : ∀ g, vo.ownBlock = some g → w.heap.size ≤ g) :
    ∀ y, y ∈ B.blk F' gr n S' (vs.set q vo) → y ∈ B.blk F gr n S vs ∨ w.heap.size ≤ y := fun y hy => by
  simp only [BB.blk, List.mem_cons, List.mem_append] at hy ⊢
  rcases hy with e | e | e | e | e | e | e
  · exact Or.inl (Or.inl e)
  · exact Or.inl (Or.inr (Or.inl e))
  · exact Or.inl (Or.inr (Or.inr (Or.inl e)))
  · exact Or.inl (Or.inr (Or.inr (Or.inr (Or.inl e))))
  · exact Or.inl (Or.inr (Or.inr (Or.inr (Or.inr (Or.inl (hF y e))))))
  · rcases hb y e with h' | h'
    · exact Or.inl (Or.inr (Or.inr (Or.inr (Or.inr (Or.inr (Or.inl h'))))))
    · exact Or.inr h'
  · obtain ⟨k, hk, hk2⟩ := mem_rblk.1 e
    rw [List.length_set] at hk
    rw [getDv_set] at hk2
    by_cases ek : k = q ∧ q < vs.length
    · rw [if_pos ek] at hk2
      exact Or.inr (hv y hk2)
    · rw [if_neg ek] at hk2
      exact Or.inl (Or.inr (Or.inr (Or.inr (Or.inr (Or.inr (Or.inr (mem_rblk.2 ⟨k, hk, hk2⟩)))))))
theorem blk_c {w : World} {B : BB} {F : List Nat} {gr cr lo : Nat} {S : CS} {vs : List Value} {R : Nat → List Int} (M : BnM w B F gr cr lo A st S vs R) : ∀ y, y ∈ B.c :: B.ba :: gr :: S.blk A.cs.length → y ∈ B.blk F gr A.cs.length S vs := fun y hy => by
  simp only [BB.blk, List.mem_cons, List.mem_append] at hy ⊢
  rcases hy with e | e | e | e
  · exact Or.inr (Or.inr (Or.inr (Or.inr (Or.inl (by rw [e]; exact M.cells.mem)))))
  · exact Or.inr (Or.inr (Or.inl e))
  · exact Or.inr (Or.inr (Or.inr (Or.inl e)))
  · exact Or.inr (Or.inr (Or.inr (Or.inr (Or.inr (Or.inl e)))))
set_option maxHeartbeats 2000000 in
theorem binsert_yes (h : BnK w p FF A st G) (q x : Nat) (k s : Int) (hk : -9223372036854775808 ≤ k ∧ k ≤ 9223372036854775807 ∧ 0 ≤ s ∧ s ≤ 18446744073709551615) (hB : putB A q x = true) :
    Calls Try.prog 43 #[.pointer (some ⟨p, 0, none⟩), .int .i64 (q : Int), .int .i64 (x : Int), .agg #[.int .i64 k, .int .u64 s]] w fun e w' => e = .returned (.bool true) ∧
      Goes FF w w' (fun FF' => BnK w' p FF' (putN A q x k s) (satS st (putQ (putN A q x k s) q x G)) (putG (putN A q x k s) q x G)) := by
  obtain ⟨⟨B, F, gr, cr, lo, S, vs, rfl, rfl, M, eF⟩, I⟩ := h
  have ok := M.cells.ok
  obtain ⟨I2, _, t2, t3, t4, hcs⟩ := put_bn (h := q) (x := x) k s I ok hB
  have hhs : (putN A q x k s).hs.length = A.hs.length := by unfold putN; split; rfl; rfl
  have hasq := ((putB_iff _ _ _).1 hB).1
  obtain ⟨q', e, hq1, hqv⟩ := M.hq hasq
  obtain rfl : q = q' := by omega
  have u1 : Upd [] w (w.alloc (.cells #[.int .i64 k, .int .u64 s] 57)) := (Upd.refl _ _).alloc _
  have kp := fun W (hW : Upd [] (w.alloc (.cells #[.int .i64 k, .int .u64 s] 57)) W) => cput_yes (M.cells.upd0 (u1.trans hW)) q x k s hk hB
  have h0 := M.h0
  have hbF : B.n0 ∉ F := M.d1.1
  have hsz : w.heap.size ∉ F := fun hm => by have := M.cells.lt _ hm; omega
  have r0 : ∀ W, Upd F (w.alloc (.cells #[.int .i64 k, .int .u64 s] 57)) W → W.cell? ⟨B.n0, 0, none⟩ = some (.pointer (some ⟨B.c, 0, none⟩)) := fun W hW => hW.kept (u1.was h0) hbF
  have r1 : ∀ W, Upd F (w.alloc (.cells #[.int .i64 k, .int .u64 s] 57)) W → W.cell? ⟨w.heap.size, 0, none⟩ = some (.int .i64 k) := fun W h => h.kept (by simp) hsz
  have r2 : ∀ W, Upd F (w.alloc (.cells #[.int .i64 k, .int .u64 s] 57)) W → W.cell? ⟨w.heap.size, 1, none⟩ = some (.int .u64 s) := fun W h => h.kept (by simp) hsz
  have hrow := I.rh.row q
  have ka := fun (W : World) (hM : BnM W B F gr cr lo (putN A q x k s) st S vs G.R) (vl : Value) (hvl : SlI W (B.c :: B.ba :: S.blk (putN A q x k s).cs.length) vl [(x : Int)]) => badd_any hM (by rw [hcs, eF]; exact I.fh.f) q hqv hvl (by rw [hcs, eF]; exact hrow) (by rw [hcs, eF]; exact t2) t3 t4
  have HM := Lib.hid M
  have HI := Lib.hid (And.intro I2 (And.intro eF (And.intro hcs hhs)))
  clear M I ok I2 t2 t3 t4 hcs hhs eF hrow h0 hB
  generalize hA' : putN A q x k s = A' at *
  go_enter Try.func43, Try.ntmps43
  go_wp2
  go_region_held3 (Upd F (w.alloc (.cells #[.int .i64 k, .int .u64 s] 57))) (repeat (first | assumption | exact Upd.refl _ _ | refine Upd.drew ?_ | refine Upd.alloc ?_ _ | refine Upd.setCell ?_ ?_ _ | focus (left; simp; done) | focus (right; simp; done) | focus (right; simp; omega) | (apply Upd.trans; rotate_left; assumption)))
    (first
      | ((go_at_call 69; (with_reducible refine (kp _ (by (repeat (first | assumption | exact Upd.refl _ _ | refine Upd.alloc ?_ _ | refine Upd.drew ?_ | refine Upd.drewN ?_ _ | refine Upd.setCell ?_ ?_ _ | focus (left; simp; done) | focus (right; simp; done) | focus (right; simp; omega))))).mono ?_)); rintro e w1 ⟨rfl, hC1, hu1⟩; (have hu2 : Upd F (w.alloc (.cells #[.int .i64 k, .int .u64 s] 57)) w1 := by (repeat (first | assumption | exact Upd.refl _ _ | refine Upd.drew ?_ | refine Upd.alloc ?_ _ | refine Upd.setCell ?_ ?_ _ | focus (left; simp; done) | focus (right; simp; done) | focus (right; simp; omega) | (apply Upd.trans; rotate_left; assumption))))))
  have uF : Upd F w w1 := (u1.mono (by simp)).trans hu2
  have hM1 := HM.out.setC uF hC1 (fun y hy => Or.inl hy) HI.out.2.2.1 HI.out.2.2.2
  have hsz1 := uF.size
  have hlt1 : ∀ y, y ∈ B.c :: B.ba :: S.blk A'.cs.length → y < w1.heap.size := fun y hy => by
    simp only [List.mem_cons] at hy
    rcases hy with e | e | e
    · subst e; exact hM1.cells.lt _ hM1.cells.mem
    · subst e; exact hM1.cubes.row.lt
    · exact (hM1.cubes.blk_lo e).2
  have ka1 := fun (W : World) (hW : Upd [] w1 W) (vl : Value) => ka W (hM1.upd0 hW) vl
  have HL := Lib.hid hlt1
  clear kp r0 r1 r2 hM1 hlt1 ka
  go_wp2_with (first
    | ((go_at_call 70; (with_reducible refine (ka1 _ (by (repeat (first | assumption | exact Upd.refl _ _ | refine Upd.alloc ?_ _ | refine Upd.drew ?_ | refine Upd.drewN ?_ _ | refine Upd.setCell ?_ ?_ _ | focus (left; simp; done) | focus (right; simp; done) | focus (right; simp; omega)))) _ ((OwnOff.lit w1 0 (x : Int) (Nat.zero_le _)).sl (fun g hg hm => by have := HL.out g hm; simp [Value.ownBlock] at hg; omega))).mono ?_)); rintro e w2 ⟨S2, vo, rfl, hS2, hM2, hu3, hb2, hx2⟩)
    | fail)
  go_ret
  have eF := HI.out.2.1
  have hcs := HI.out.2.2.1
  have uw : Upd (B.blk F gr A.cs.length S vs) w w2 := by
    refine ((uF.mono blk_F).alloc _).trans (hu3.mono (fun y hy => ?_))
    rw [hcs] at hy
    exact blk_c HM.out y hy
  refine ⟨rfl, B.blk F gr A'.cs.length S2 (vs.set q vo), ⟨⟨B, F, gr, cr, lo, S2, _, rfl, rfl, by unfold putQ putG addG; rw [← eF]; exact hM2, by rw [hS2, eF]; rfl⟩, HI.out.1⟩, uw, fun y hy => ?_⟩
  rw [hcs] at hy hb2
  exact blk_add (w := w) (fun _ h => h) (fun g hg => (hb2 g hg).imp id (fun h => by simp at h; omega)) (fun g hg => by have := hx2 g hg; simp at this; omega) y hy
theorem binsert_no (h : BnK w p FF A st G) (q x k s : Int) (hB : putB A q x = false) :
    Calls Try.prog 43 #[.pointer (some ⟨p, 0, none⟩), .int .i64 q, .int .i64 x, .agg #[.int .i64 k, .int .u64 s]] w fun e w' => e = .returned (.bool false) ∧ Upd [] w w' := by
  obtain ⟨⟨B, F, gr, cr, lo, S, vs, rfl, rfl, M, eF⟩, I⟩ := h
  have u1 : Upd [] w (w.alloc (.cells #[.int .i64 k, .int .u64 s] 57)) := (Upd.refl _ _).alloc _
  have kp := fun W (hW : Upd [] (w.alloc (.cells #[.int .i64 k, .int .u64 s] 57)) W) => cput_no (M.cells.upd0 (u1.trans hW)) q x k s hB
  have h0 := M.h0
  have r0 : ∀ W, Upd [] (w.alloc (.cells #[.int .i64 k, .int .u64 s] 57)) W → W.cell? ⟨B.n0, 0, none⟩ = some (.pointer (some ⟨B.c, 0, none⟩)) := fun W hW => hW.was (u1.was h0)
  have r1 : ∀ W, Upd [] (w.alloc (.cells #[.int .i64 k, .int .u64 s] 57)) W → W.cell? ⟨w.heap.size, 0, none⟩ = some (.int .i64 k) := fun W h => h.was (by simp)
  have r2 : ∀ W, Upd [] (w.alloc (.cells #[.int .i64 k, .int .u64 s] 57)) W → W.cell? ⟨w.heap.size, 1, none⟩ = some (.int .u64 s) := fun W h => h.was (by simp)
  clear M I eF hB h0
  go_enter Try.func43, Try.ntmps43
  go_wp2
  go_region_held3 (Upd [] (w.alloc (.cells #[.int .i64 k, .int .u64 s] 57))) (repeat (first | assumption | exact Upd.refl _ _ | refine Upd.drew ?_ | refine Upd.alloc ?_ _ | refine Upd.setCell ?_ ?_ _ | focus (left; simp; done) | focus (right; simp; done) | focus (right; simp; omega) | (apply Upd.trans; rotate_left; assumption)))
    (first
      | ((go_at_call 69; (with_reducible refine (kp _ (by (repeat (first | assumption | exact Upd.refl _ _ | refine Upd.alloc ?_ _ | refine Upd.drew ?_ | refine Upd.drewN ?_ _ | refine Upd.setCell ?_ ?_ _ | focus (left; simp; done) | focus (right; simp; done) | focus (right; simp; omega))))).mono ?_)); rintro e w1 ⟨rfl, hu1⟩; (have hu2 : Upd [] (w.alloc (.cells #[.int .i64 k, .int .u64 s] 57)) w1 := by (repeat (first | assumption | exact Upd.refl _ _ | refine Upd.drew ?_ | refine Upd.alloc ?_ _ | refine Upd.setCell ?_ ?_ _ | focus (left; simp; done) | focus (right; simp; done) | focus (right; simp; omega) | (apply Upd.trans; rotate_left; assumption))))))
  go_wp2
  go_ret
  exact ⟨rfl, u1.trans (by (repeat (first | assumption | exact Upd.refl _ _ | refine Upd.drew ?_ | refine Upd.alloc ?_ _ | refine Upd.setCell ?_ ?_ _ | focus (left; simp; done) | focus (right; simp; done) | focus (right; simp; omega) | (apply Upd.trans; rotate_left; assumption))))⟩
theorem bmeld_no (h : BnK w p FF A st G) (a b : Int) (hB : joinB A a b = false) :
    Calls Try.prog 144 #[.pointer (some ⟨p, 0, none⟩), .int .i64 a, .int .i64 b] w fun e w' => e = .returned (.bool false) ∧ w' = w := by
  obtain ⟨⟨B, F, gr, cr, lo, S, vs, rfl, rfl, M, eF⟩, I⟩ := h
  have kj := cjoin_no M.cells a b hB
  have h0 := M.h0
  clear M I eF hB
  go_enter Try.func144, Try.ntmps144
  go_wp2_with ((go_at_call 151; (with_reducible refine (kj).mono ?_); rintro e w9 ⟨rfl, hw9⟩; rw [hw9]; clear hw9 w9))
  go_ret
  exact ⟨rfl, rfl⟩
set_option maxHeartbeats 2000000 in
theorem bmeld_yes (h : BnK w p FF A st G) (a b : Nat) (hB : joinB A a b = true) :
    Calls Try.prog 144 #[.pointer (some ⟨p, 0, none⟩), .int .i64 (a : Int), .int .i64 (b : Int)] w fun e w' => e = .returned (.bool true) ∧
      Goes FF w w' (fun FF' => BnK w' p FF' (joinN A a b) (satS st (meldQ (joinN A a b) a b G)) (meldG (joinN A a b) a b G)) := by
  obtain ⟨⟨B, F, gr, cr, lo, S, vs, rfl, rfl, M, eF⟩, I⟩ := h
  have ok := M.cells.ok
  obtain ⟨I2, _, t3, t4⟩ := meld_bn I ok hB
  have hcs := joinN_len A (a : Int) (b : Int)
  have hhs : (joinN A (a : Int) (b : Int)).hs.length = A.hs.length := by unfold joinN; split <;> simp
  obtain ⟨j1, j2, j3⟩ := (joinB_iff _ _ _).1 hB
  obtain ⟨a', e, ha1, hav⟩ := M.hq j1
  obtain rfl : a = a' := by omega
  obtain ⟨b', e', hb1, hbv⟩ := M.hq j2
  obtain rfl : b = b' := by omega
  have hab : a ≠ b := fun e => j3 (by rw [e])
  have kj := cjoin_yes M.cells a b hB
  have h0 := M.h0
  obtain ⟨ab, capb, hvb, _⟩ := M.shape hbv
  have hrow := I.rh.row
  have ka := fun (W : World) (hM : BnM W B F gr cr lo (joinN A a b) st S vs G.R) => badd_any hM (by rw [hcs, eF]; exact I.fh.f) a hav (vl := vs.getD b undef) ((hM.each b hbv).sl (fun g hg hm => by
      have := hM.d4 b g hbv hg
      simp only [List.mem_cons] at hm
      rcases hm with e | e | e
      · exact this.2.2.2.2.1 (e ▸ hM.cells.mem)
      · exact this.2.2.1 e
      · exact this.2.2.2.2.2 e)) (by rw [hcs, eF]; exact hrow a) (by rw [hcs, eF]; exact hrow b) t3 t4
  rw [hvb] at ka
  have hvl := M.vlen
  have hbI : (b : Int) < (vs.length : Int) := by omega
  have hb0 : (0 : Int) ≤ (b : Int) := by omega
  have HM := Lib.hid M
  have HI := Lib.hid (And.intro I2 (And.intro eF (And.intro hcs (And.intro hhs hvb))))
  clear M I ok I2 t3 t4 hcs hhs eF hrow hB j1 j2 j3 e e' hvb
  generalize hA' : joinN A (a : Int) (b : Int) = A' at *
  generalize hrb : (G.R b).length = rb at *
  go_enter Try.func144, Try.ntmps144
  go_wp2_with (first
    | ((go_at_call 151; (with_reducible refine (kj).mono ?_)); rintro e w1 ⟨rfl, hC1, hu1⟩; (have hM1 := HM.out.setC hu1 hC1 (fun y hy => Or.inl hy) HI.out.2.2.1 HI.out.2.2.2.1); (have ka1 := ka _ hM1); (have h21 := hM1.h2); (have d1 := hM1.rowc hbv); rw [HI.out.2.2.2.2] at d1; (have HM1 := Lib.hid hM1); clear hM1 ka)
    | ((go_at_call 70; (with_reducible refine (ka1).mono ?_)); rintro e w2 ⟨S2, vo, rfl, hS2, hM2, hu2, hb2, hx2⟩; (have h22 := hM2.h2); rw [List.length_set] at h22; (have f22 := hM2.rowf b); (have d22 := hM2.rowc (q := b) (by rw [List.length_set]; exact hbv)))
    | fail)
  go_ret
  have eF := HI.out.2.1
  have hcs := HI.out.2.2.1
  have hM3 := hM2.setV b (by rw [List.length_set]; exact hbv) (.slice none 0 0) [] (OwnOff.nil _ _) (fun g hg => by cases hg)
  have eR : (meldB G b).R a = G.R a := by unfold meldB setR; simp only [if_neg hab]
  have e1 : setR (setR G.R a (carC (aheadN A') A'.cs.length S.f (G.R a) (G.R b)).O) b [] = (meldG A' a b G).R := by
    unfold meldG addG
    rw [eR, setR_swap hab, eF]
    rfl
  rw [e1] at hM3
  have uw : Upd (B.blk F gr A.cs.length S vs) w w2 := by
    refine (hu1.mono blk_F).trans (hu2.mono (fun y hy => ?_))
    rw [hcs] at hy
    exact blk_c HM.out y hy
  have hsz := hu1.size
  refine ⟨rfl, B.blk F gr A'.cs.length S2 ((vs.set a vo).set b (.slice none 0 0)), ⟨⟨B, F, gr, cr, lo, S2, _, rfl, rfl, by unfold meldQ; rw [← eF]; exact hM3, by rw [hS2, eF]; unfold meldG addG; rw [eR]; rfl⟩, HI.out.1⟩, uw.setCell (Or.inl (by simp [BB.blk])) _, fun y hy => ?_⟩
  rw [hcs] at hy hb2
  rcases blk_add (w := w) (fun _ h => h) (fun g hg => Or.inl hg) (fun g hg => by cases hg) y hy with h' | h'
  · exact blk_add (w := w) (fun _ h => h) (fun g hg => (hb2 g hg).imp id (fun h => by omega)) (fun g hg => by have := hx2 g hg; omega) y h'
  · exact Or.inr h'
end
end Go.Proofs.Ytighgbdijagolaa
