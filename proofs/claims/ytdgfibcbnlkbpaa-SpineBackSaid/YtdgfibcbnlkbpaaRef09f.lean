/-
  The document's trees (haycockref09): Root, All, Spine, Same. Conditions: those of each lemma.
-/
import Derived.Test.YtdgfibcbnlkbpaaRef09e
set_option linter.unusedVariables false
set_option linter.unusedSimpArgs false
namespace Go.Proofs.Ytdgfibcbnlkbpaa
open Go Go.RowKit

def stepL (l : List Hg) (x : Int) : Int := match upL l x with | some p => p | none => x
def rootL (l : List Hg) : Nat → Int → Int
  | 0, x => x
  | f + 1, x => rootL l f (stepL l x)

set_option maxHeartbeats 1000000 in
theorem rroot_no (w : World) (n x : Int) (v : Value) (hv : v.oneCell' = true) (hx : ¬ (0 ≤ x ∧ x < n)) :
    Calls Try.prog 58 #[.agg #[.int .i64 n, v], .int .i64 x] w fun e w' => e = .returned (.tuple #[.int .i64 0, .bool false]) ∧ Upd [] w w' := by
  have k1 := fun W => rhas_any W n x v hv false (by simpa using hx)
  clear hx
  go_enter Try.func58, Try.ntmps58
  go_wp2_with (go_at_call 59; refine (k1 _).mono ?_; rintro e w1 ⟨rfl, hq⟩)
  go_ret2
  exact ⟨rfl, by (repeat (first | assumption | exact Upd.refl _ _ | refine Upd.alloc ?_ _ | refine Upd.drew ?_ | refine Upd.drewN ?_ _ | refine Upd.setCell ?_ (Or.inr (by first | (simp; done) | (simp; omega))) _ | (apply Upd.trans; rotate_left; assumption)))⟩

set_option maxHeartbeats 1000000 in
theorem rroot_any (w : World) (lo n : Nat) (x : Int) (v : Value) (l : List Hg) (h : LstAt w lo v l.length (hgCells l)) (hn : n ≤ 65536) (hx : 0 ≤ x ∧ x < n) :
    Calls Try.prog 58 #[.agg #[.int .i64 (n : Int), v], .int .i64 x] w fun e w' => e = .returned (.tuple #[.int .i64 (rootL l n x), .bool true]) ∧ Upd [] w w' := by
  have hv : v.oneCell' = true := by obtain ⟨a, cap, rfl, _⟩ := h.open; rfl
  have r0 : ∀ W, Upd [] (w.alloc (.cells #[.int .i64 (n : Int), v] 52)) W → W.cell? ⟨w.heap.size, 0, none⟩ = some (.int .i64 (n : Int)) := fun W h => h.was (by simp)
  have r1 : ∀ W, Upd [] (w.alloc (.cells #[.int .i64 (n : Int), v] 52)) W → W.cell? ⟨w.heap.size, 1, none⟩ = some v := fun W h => h.was (by simp)
  have k1 := fun W => rhas_any W n x v hv true (by simpa using hx)
  have H := Lib.hid (h.upd ((Upd.refl [] w).alloc (.cells #[.int .i64 (n : Int), v] 52)) (by simp))
  clear h hx
  generalize hR : rootL l n x = R
  have HR := Lib.hid hR
  clear hR
  go_enter Try.func58, Try.ntmps58
  go_wp2_with (go_at_call 59; refine (k1 _).mono ?_; rintro e w1 ⟨rfl, hq⟩)
  go_loopw [1, 6] (fun q i wr => ∃ (k : Nat) (y : Int), k ≤ n ∧ i = .int .i64 (k : Int) ∧ q = .int .i64 y ∧ rootL l (n - k) y = R ∧ Upd [] (w.alloc (.cells #[.int .i64 (n : Int), v] 52)) wr) (fun _ i _ => n - (intOf i).toNat)
  case atStart => exact ⟨0, x, by omega, rfl, rfl, HR.out, hq⟩
  case round =>
    obtain ⟨k, y, hk, rfl, rfl, hA, hu⟩ := hrel
    have c0 := r0 _ hu
    have c1 := r1 _ hu
    by_cases hlt : k < n
    · rw [show n - k = (n - (k + 1)) + 1 by omega, rootL] at hA
      have c := rup_any wr lo n y v l (H.out.upd hu (by simp))
      unfold stepL at hA
      cases hup : upL l y with
      | none =>
        rw [hup] at hA c
        simp only [] at hA
        unfold ov ob at c
        simp only [Option.getD_none, Option.isSome_none] at c
        have HA := Lib.hid hA
        clear hup hA
        go_wp2_with ((go_at_call 57; (with_reducible refine (c).mono ?_); rintro e w' ⟨rfl, hb⟩))
        go_roundw
        case rel => exact ⟨k + 1, y, by omega, by go_num, rfl, HA.out, by (repeat (first | assumption | exact Upd.refl _ _ | refine Upd.alloc ?_ _ | refine Upd.drew ?_ | refine Upd.drewN ?_ _ | refine Upd.setCell ?_ (Or.inr (by first | (simp; done) | (simp; omega))) _ | (apply Upd.trans; rotate_left; assumption)))⟩
        case measure => simp [intOf]; omega
      | some z =>
        rw [hup] at hA c
        simp only [] at hA
        unfold ov ob at c
        simp only [Option.getD_some, Option.isSome_some] at c
        have HA := Lib.hid hA
        clear hup hA
        go_wp2_with ((go_at_call 57; (with_reducible refine (c).mono ?_); rintro e w' ⟨rfl, hb⟩))
        go_roundw
        case rel => exact ⟨k + 1, z, by omega, by go_num, rfl, HA.out, by (repeat (first | assumption | exact Upd.refl _ _ | refine Upd.alloc ?_ _ | refine Upd.drew ?_ | refine Upd.drewN ?_ _ | refine Upd.setCell ?_ (Or.inr (by first | (simp; done) | (simp; omega))) _ | (apply Upd.trans; rotate_left; assumption)))⟩
        case measure => simp [intOf]; omega
    · rw [show n - k = 0 by omega, rootL] at hA
      subst hA
      go_wp2
      go_ret2
      exact ⟨rfl, by (repeat (first | assumption | exact Upd.refl _ _ | refine Upd.alloc ?_ _ | refine Upd.drew ?_ | refine Upd.drewN ?_ _ | refine Upd.setCell ?_ (Or.inr (by first | (simp; done) | (simp; omega))) _ | (apply Upd.trans; rotate_left; assumption)))⟩

def intsZ (l : List Int) : List Value := l.map (fun x => Value.int .i64 x)
theorem intsZ_append (a b : List Int) : intsZ (a ++ b) = intsZ a ++ intsZ b := by unfold intsZ; rw [List.map_append]
theorem intsZ_len (a : List Int) : (intsZ a).length = a.length := by unfold intsZ; simp
theorem intsZ_one (l : List Int) : ∀ u ∈ intsZ l, u.oneCell' = true := by
  intro u hu; unfold intsZ at hu; simp only [List.mem_map] at hu; obtain ⟨x, _, rfl⟩ := hu; rfl
/-- A slice of the call's own, of these integers. -/
def OwnZ (w : World) (base : Nat) (v : Value) (l : List Int) : Prop := w.ownsRow base 3 1 v l.length (intsZ l)
theorem OwnZ.lst {w : World} {base : Nat} {v : Value} {l : List Int} (h : OwnZ w base v l) : LstAt w base v l.length (intsZ l) := LstAt.of_owns h
def kidA (n : Int) (f : Int → List Int) (o : Option Int) : List Int := match o with | some y => f y | none => []
def allL (n : Int) (l : List Hg) : Nat → Int → List Int
  | 0, _ => []
  | f + 1, x => if 0 ≤ x ∧ x < n then x :: (kidA n (allL n l f) (kidL l x false) ++ kidA n (allL n l f) (kidL l x true)) else []

theorem same_len_ne {a b : List Int} (h : a.length ≠ b.length) : a ≠ b := fun e => h (by rw [e])
theorem same_at {a b : List Int} (hl : a.length = b.length) (h : ∀ k, k < a.length → a.getD k 0 = b.getD k 0) : a = b := by
  apply List.ext_getElem hl
  intro i h1 h2
  have := h i h1
  simpa [List.getD_eq_getElem?_getD, h1, h2] using this

set_option maxHeartbeats 1000000 in
theorem rsame_any (w : World) (lo : Nat) (va vb : Value) (za zb : List Int) (ha : LstAt w lo va za.length (intsZ za)) (hb : LstAt w lo vb zb.length (intsZ zb)) :
    Calls Try.prog 40 #[va, vb] w fun e w' => e = .returned (.bool (decide (za = zb))) ∧ ∃ k, w' = w.drewN k := by
  obtain ⟨a, ca, rfl, hca, hla, hpa⟩ := ha.open
  obtain ⟨b, cb, rfl, hcb, hlb, hpb⟩ := hb.open
  have HA := Lib.hid hpa
  have HB := Lib.hid hpb
  clear hpa hpb ha hb
  by_cases hl : za.length = zb.length
  · have hl' : ((za.length : Int) != (zb.length : Int)) = false := by rw [hl]; simp
    generalize hlen : za.length = len at *
    have HLEN := Lib.hid (And.intro hlen hl)
    have hll : zb.length = len := hl.symm
    rw [hll] at *
    clear hl hll hlen hl'
    go_enter Try.func40, Try.ntmps40
    go_wp2
    go_loopw [13] (fun i wr => ∃ k : Nat, k ≤ len ∧ i = .int .i64 (k : Int) ∧ (∀ j, j < k → za.getD j 0 = zb.getD j 0) ∧ ∃ d, wr = w.drewN d) (fun i _ => len - (intOf i).toNat)
    case atStart => exact ⟨0, by omega, rfl, fun j hj => by omega, 0, rfl⟩
    case round =>
      obtain ⟨k, hk, rfl, he, d, rfl⟩ := hrel
      have HE := Lib.hid he
      clear he
      by_cases hlt : k < len
      · obtain ⟨ga, rfl, _, _, hxa⟩ := HA.out (by omega)
        obtain ⟨gb, rfl, _, _, hxb⟩ := HB.out (by have := HLEN.out.2; omega)
        have c1 := hxa k (.int .i64 (za.getD k 0)) (by unfold intsZ; simp [List.getD_eq_getElem?_getD, HLEN.out.1, hlt])
        have c2 := hxb k (.int .i64 (zb.getD k 0)) (by unfold intsZ; simp [List.getD_eq_getElem?_getD, ← HLEN.out.2, hlt])
        have HP : Hid (∀ j, j < k + 1 → za.getD k 0 = zb.getD k 0 → za.getD j 0 = zb.getD j 0) := fun j hj e => by
          rcases (by omega : j < k ∨ j = k) with h | h
          · exact HE.out j h
          · rw [h]; exact e
        have HN : Hid (za.getD k 0 ≠ zb.getD k 0 → ¬ za = zb) := fun e1 e2 => e1 (by rw [e2])
        clear hxa hxb
        generalize za.getD k 0 = x1 at *
        generalize zb.getD k 0 = x2 at *
        by_cases hxx : x1 = x2
        · have b1 : (x1 != x2) = false := by simpa using hxx
          have HXX := Lib.hid hxx
          clear hxx
          go_wp2
          go_quiet (fail)
          go_wp2
          go_roundw
          case rel => exact ⟨k + 1, by omega, by go_num, fun j hj => HP.out j hj HXX.out, _, rfl⟩
          case measure => simp [intOf]; omega
        · have b1 : (x1 != x2) = true := by simpa using hxx
          have HXX := Lib.hid (HN.out hxx)
          clear hxx
          go_wp2
          go_quiet (fail)
          go_wp2
          go_ret
          exact ⟨ret_bool (by simp [HXX.out]), _, by rw [World.drewN_drewN]⟩
      · obtain rfl : k = len := by omega
        have HE2 := Lib.hid (same_at (by rw [HLEN.out.1, HLEN.out.2]) (fun j hj => HE.out j (by rw [← HLEN.out.1]; exact hj)))
        go_wp2
        go_ret
        exact ⟨ret_bool (by simp [HE2.out]), _, rfl⟩
  · have hl' : ((za.length : Int) != (zb.length : Int)) = true := by simp; omega
    have hne := Lib.hid (same_len_ne hl)
    clear hl
    go_enter Try.func40, Try.ntmps40
    go_wp2
    go_ret
    exact ⟨ret_bool (by simp [hne.out]), 0, rfl⟩

theorem rall_no (w : World) (n x : Int) (f : Int) (v : Value) (hv : v.oneCell' = true) (hx : ¬ (0 ≤ x ∧ x < n)) :
    Calls Try.prog 42 #[.agg #[.int .i64 n, v], .int .i64 x, .int .i64 f] w fun e w' => e = .returned (.slice none 0 0) ∧ Upd [] w w' := by
  have k1 := fun W => rhas_any W n x v hv false (by simpa using hx)
  clear hx
  go_enter Try.func42, Try.ntmps42
  go_wp2_with (go_at_call 59; refine (k1 _).mono ?_; rintro e w1 ⟨rfl, hq⟩)
  go_ret
  exact ⟨rfl, by (repeat (first | assumption | exact Upd.refl _ _ | refine Upd.alloc ?_ _ | refine Upd.drew ?_ | refine Upd.drewN ?_ _ | refine Upd.setCell ?_ (Or.inr (by first | (simp; done) | (simp; omega))) _ | (apply Upd.trans; rotate_left; assumption)))⟩
theorem rall_zero (w : World) (n x : Int) (v : Value) (hv : v.oneCell' = true) :
    Calls Try.prog 42 #[.agg #[.int .i64 n, v], .int .i64 x, .int .i64 0] w fun e w' => e = .returned (.slice none 0 0) ∧ Upd [] w w' := by
  by_cases hx : 0 ≤ x ∧ x < n
  · have k1 := fun W => rhas_any W n x v hv true (by simpa using hx)
    clear hx
    go_enter Try.func42, Try.ntmps42
    go_wp2_with (go_at_call 59; refine (k1 _).mono ?_; rintro e w1 ⟨rfl, hq⟩)
    go_ret
    exact ⟨rfl, by (repeat (first | assumption | exact Upd.refl _ _ | refine Upd.alloc ?_ _ | refine Upd.drew ?_ | refine Upd.drewN ?_ _ | refine Upd.setCell ?_ (Or.inr (by first | (simp; done) | (simp; omega))) _ | (apply Upd.trans; rotate_left; assumption)))⟩
  · exact rall_no w n x 0 v hv hx

set_option maxHeartbeats 2000000 in
theorem rall_any (n : Nat) (v : Value) (l : List Hg) (lo : Nat) (hn : n ≤ 65536) : ∀ (f : Nat) (x : Int) (w : World), f ≤ 65536 → LstAt w lo v l.length (hgCells l) → (allL n l f x).length ≤ 65536 →
    Calls Try.prog 42 #[.agg #[.int .i64 (n : Int), v], .int .i64 x, .int .i64 (f : Int)] w fun e w' => ∃ v', e = .returned v' ∧ OwnZ w' w.heap.size v' (allL n l f x) ∧ Upd [] w w' := by
  intro f
  induction f with
  | zero =>
    intro x w _ h _
    have hv : v.oneCell' = true := by obtain ⟨a, cap, rfl, _⟩ := h.open; rfl
    exact (rall_zero w n x v hv).mono fun e w' ⟨he, hu⟩ => ⟨_, he, World.ownsRow_nil _ _ _ _, hu⟩
  | succ f ih =>
    intro x w hf h hlen
    have hv : v.oneCell' = true := by obtain ⟨a, cap, rfl, _⟩ := h.open; rfl
    by_cases hx : 0 ≤ x ∧ x < n
    · have e0 : allL n l (f + 1) x = x :: (kidA n (allL n l f) (kidL l x false) ++ kidA n (allL n l f) (kidL l x true)) := by rw [allL, if_pos hx]
      rw [e0] at hlen ⊢
      generalize hLL : kidA n (allL n l f) (kidL l x false) = LL at hlen ⊢
      generalize hRR : kidA n (allL n l f) (kidL l x true) = RR at hlen ⊢
      simp only [List.length_cons, List.length_append] at hlen
      have r0 : ∀ W, Upd [] (w.alloc (.cells #[.int .i64 (n : Int), v] 52)) W → W.cell? ⟨w.heap.size, 0, none⟩ = some (.int .i64 (n : Int)) := fun W h => h.was (by simp)
      have r1 : ∀ W, Upd [] (w.alloc (.cells #[.int .i64 (n : Int), v] 52)) W → W.cell? ⟨w.heap.size, 1, none⟩ = some v := fun W h => h.was (by simp)
      have k1 := fun W => rhas_any W n x v hv true (by simpa using hx)
      have H := Lib.hid (h.upd ((Upd.refl [] w).alloc (.cells #[.int .i64 (n : Int), v] 52)) (by simp))
      have kL := fun W (hW : Upd [] (w.alloc (.cells #[.int .i64 (n : Int), v] 52)) W) => rkid_any W lo n x false v l (H.out.upd hW (by simp))
      have kR := fun W (hW : Upd [] (w.alloc (.cells #[.int .i64 (n : Int), v] 52)) W) => rkid_any W lo n x true v l (H.out.upd hW (by simp))
      have IH := Lib.hid ih
      clear h hx ih e0
      have own0 := fun (W : World) (hW : Upd [] (w.alloc (.cells #[.int .i64 (n : Int), v] 52)) W) => own_lit W [.int .i64 x] 3 (w.heap.size + 1) 1 1 rfl (by have := hW.size; simpa using this) (by unfold maxLen; omega)
      cases hkl : kidL l x false with
      | none =>
        cases hkr : kidL l x true with
        | none =>
          rw [hkl] at kL hLL
          rw [hkr] at kR hRR
          simp only [kidA] at hLL hRR
          unfold ov ob at kL kR
          simp only [Option.getD_some, Option.isSome_some, Option.getD_none, Option.isSome_none] at kL kR
          have HLL := Lib.hid hLL
          clear hLL
          have HRR := Lib.hid hRR
          clear hRR
          clear hkl hkr
          have tok1 : True := trivial
          go_enter Try.func42, Try.ntmps42
          go_wp2_with (first
            | ((go_at_call 59; (with_reducible refine (k1 _).mono ?_)); rintro e wA ⟨rfl, uA⟩; have uA1 := uA.alloc (.cells #[.int .i64 x] 3))
            | ((go_at_call 56; (with_reducible refine (kL _ (uA.alloc _)).mono ?_)); rintro e wB ⟨rfl, hbB⟩; have hoB := owns_upd (own0 _ uA) hbB (by simp); have uB := (uA.alloc (.cells #[.int .i64 x] 3)).trans hbB)
            | ((go_at_call 56; (with_reducible refine (kR _ uB).mono ?_)); rintro e wE ⟨rfl, hbE⟩; have hoE := owns_upd hoB hbE (by simp); have uE := uB.trans hbE))
          go_ret
          refine ⟨_, rfl, ?_, ((Upd.refl [] w).alloc _).trans uE⟩
          have e1 : (x :: (LL ++ RR)).length = 1 := by rw [← HLL.out, ← HRR.out]; rfl
          have e2 : intsZ (x :: (LL ++ RR)) = [.int .i64 x] := by rw [← HLL.out, ← HRR.out]; rfl
          unfold OwnZ
          rw [e1, e2]
          exact owns_mono hoE (by omega)
        | some z =>
          rw [hkl] at kL hLL
          rw [hkr] at kR hRR
          simp only [kidA] at hLL hRR
          unfold ov ob at kL kR
          simp only [Option.getD_some, Option.isSome_some, Option.getD_none, Option.isSome_none] at kL kR
          have HLL := Lib.hid hLL
          clear hLL
          have ihR := fun W hW => IH.out z W (by omega) hW (by rw [hRR]; omega)
          rw [hRR] at ihR
          clear hkl hkr hRR
          have tok1 : True := trivial
          go_enter Try.func42, Try.ntmps42
          go_wp2_with (first
            | ((go_at_call 59; (with_reducible refine (k1 _).mono ?_)); rintro e wA ⟨rfl, uA⟩; have uA1 := uA.alloc (.cells #[.int .i64 x] 3))
            | ((go_at_call 56; (with_reducible refine (kL _ (uA.alloc _)).mono ?_)); rintro e wB ⟨rfl, hbB⟩; have hoB := owns_upd (own0 _ uA) hbB (by simp); have uB := (uA.alloc (.cells #[.int .i64 x] 3)).trans hbB)
            | ((go_at_call 56; (with_reducible refine (kR _ uB).mono ?_)); rintro e wE ⟨rfl, hbE⟩; have hoE := owns_upd hoB hbE (by simp); have uE := uB.trans hbE)
            | ((go_at_call 42; (with_reducible refine (ihR _ (H.out.upd uE (by simp))).mono ?_)); rintro e wF ⟨vF, rfl, hoF, hbF⟩; unfold OwnZ at hoF; have hoE2 := owns_upd hoE hbF (by simp); have uF := uE.trans hbF)
            | (at_builtin; refine wpList_append_lst rfl _ _ 29 rfl (w.heap.size + 1) 3 (.int .i64 0) 1 8 Try.underlying29 intInfo rfl (by decide) _ 1 [.int .i64 x] rfl hoE2 0 RR.length (intsZ RR) vF rfl ((LstAt.of_owns hoF).mono (Nat.zero_le _)) (by rw [intsZ_len]; omega) (intsZ_one _) (by unfold maxLen; omega) (by omega) (by have := uF.size; simpa using this) ?_; intro vG wG hoG huG; have uG := uF.over (below_of_own hoE2 (by have := uF.size; simpa using this) huG) (by simp)))
          go_ret
          refine ⟨_, rfl, ?_, ((Upd.refl [] w).alloc _).trans uG⟩
          have e1 : (x :: (LL ++ RR)).length = (1 + RR.length) := by rw [← HLL.out]; simp; omega
          have e2 : intsZ (x :: (LL ++ RR)) = ([.int .i64 x] ++ intsZ RR) := by rw [← HLL.out]; simp [intsZ]
          unfold OwnZ
          rw [e1, e2]
          exact owns_mono hoG (by omega)
      | some y =>
        cases hkr : kidL l x true with
        | none =>
          rw [hkl] at kL hLL
          rw [hkr] at kR hRR
          simp only [kidA] at hLL hRR
          unfold ov ob at kL kR
          simp only [Option.getD_some, Option.isSome_some, Option.getD_none, Option.isSome_none] at kL kR
          have ihL := fun W hW => IH.out y W (by omega) hW (by rw [hLL]; omega)
          rw [hLL] at ihL
          have HRR := Lib.hid hRR
          clear hRR
          clear hkl hkr hLL
          have tok1 : True := trivial
          go_enter Try.func42, Try.ntmps42
          go_wp2_with (first
            | ((go_at_call 59; (with_reducible refine (k1 _).mono ?_)); rintro e wA ⟨rfl, uA⟩; have uA1 := uA.alloc (.cells #[.int .i64 x] 3))
            | ((go_at_call 56; (with_reducible refine (kL _ (uA.alloc _)).mono ?_)); rintro e wB ⟨rfl, hbB⟩; have hoB := owns_upd (own0 _ uA) hbB (by simp); have uB := (uA.alloc (.cells #[.int .i64 x] 3)).trans hbB)
            | ((go_at_call 42; (with_reducible refine (ihL _ (H.out.upd uB (by simp))).mono ?_)); rintro e wC ⟨vC, rfl, hoC, hbC⟩; unfold OwnZ at hoC; have hoB2 := owns_upd hoB hbC (by simp); have uC := uB.trans hbC)
            | (at_builtin; have _t := tok1; refine wpList_append_lst rfl _ _ 29 rfl (w.heap.size + 1) 3 (.int .i64 0) 1 8 Try.underlying29 intInfo rfl (by decide) _ 1 [.int .i64 x] rfl hoB2 0 LL.length (intsZ LL) vC rfl ((LstAt.of_owns hoC).mono (Nat.zero_le _)) (by rw [intsZ_len]; omega) (intsZ_one _) (by unfold maxLen; omega) (by omega) (by have := uC.size; simpa using this) ?_; intro vD wD hoD huD; have uD := uC.over (below_of_own hoB2 (by have := uC.size; simpa using this) huD) (by simp); clear tok1)
            | ((go_at_call 56; (with_reducible refine (kR _ uD).mono ?_)); rintro e wE ⟨rfl, hbE⟩; have hoE := owns_upd hoD hbE (by simp); have uE := uD.trans hbE))
          go_ret
          refine ⟨_, rfl, ?_, ((Upd.refl [] w).alloc _).trans uE⟩
          have e1 : (x :: (LL ++ RR)).length = (1 + LL.length) := by rw [← HRR.out]; simp; omega
          have e2 : intsZ (x :: (LL ++ RR)) = ([.int .i64 x] ++ intsZ LL) := by rw [← HRR.out]; simp [intsZ]
          unfold OwnZ
          rw [e1, e2]
          exact owns_mono hoE (by omega)
        | some z =>
          rw [hkl] at kL hLL
          rw [hkr] at kR hRR
          simp only [kidA] at hLL hRR
          unfold ov ob at kL kR
          simp only [Option.getD_some, Option.isSome_some, Option.getD_none, Option.isSome_none] at kL kR
          have ihL := fun W hW => IH.out y W (by omega) hW (by rw [hLL]; omega)
          rw [hLL] at ihL
          have ihR := fun W hW => IH.out z W (by omega) hW (by rw [hRR]; omega)
          rw [hRR] at ihR
          clear hkl hkr hLL hRR
          have tok1 : True := trivial
          go_enter Try.func42, Try.ntmps42
          go_wp2_with (first
            | ((go_at_call 59; (with_reducible refine (k1 _).mono ?_)); rintro e wA ⟨rfl, uA⟩; have uA1 := uA.alloc (.cells #[.int .i64 x] 3))
            | ((go_at_call 56; (with_reducible refine (kL _ (uA.alloc _)).mono ?_)); rintro e wB ⟨rfl, hbB⟩; have hoB := owns_upd (own0 _ uA) hbB (by simp); have uB := (uA.alloc (.cells #[.int .i64 x] 3)).trans hbB)
            | ((go_at_call 42; (with_reducible refine (ihL _ (H.out.upd uB (by simp))).mono ?_)); rintro e wC ⟨vC, rfl, hoC, hbC⟩; unfold OwnZ at hoC; have hoB2 := owns_upd hoB hbC (by simp); have uC := uB.trans hbC)
            | (at_builtin; have _t := tok1; refine wpList_append_lst rfl _ _ 29 rfl (w.heap.size + 1) 3 (.int .i64 0) 1 8 Try.underlying29 intInfo rfl (by decide) _ 1 [.int .i64 x] rfl hoB2 0 LL.length (intsZ LL) vC rfl ((LstAt.of_owns hoC).mono (Nat.zero_le _)) (by rw [intsZ_len]; omega) (intsZ_one _) (by unfold maxLen; omega) (by omega) (by have := uC.size; simpa using this) ?_; intro vD wD hoD huD; have uD := uC.over (below_of_own hoB2 (by have := uC.size; simpa using this) huD) (by simp); clear tok1)
            | ((go_at_call 56; (with_reducible refine (kR _ uD).mono ?_)); rintro e wE ⟨rfl, hbE⟩; have hoE := owns_upd hoD hbE (by simp); have uE := uD.trans hbE)
            | ((go_at_call 42; (with_reducible refine (ihR _ (H.out.upd uE (by simp))).mono ?_)); rintro e wF ⟨vF, rfl, hoF, hbF⟩; unfold OwnZ at hoF; have hoE2 := owns_upd hoE hbF (by simp); have uF := uE.trans hbF)
            | (at_builtin; refine wpList_append_lst rfl _ _ 29 rfl (w.heap.size + 1) 3 (.int .i64 0) 1 8 Try.underlying29 intInfo rfl (by decide) vD (1 + LL.length) ([.int .i64 x] ++ intsZ LL) rfl hoE2 0 RR.length (intsZ RR) vF rfl ((LstAt.of_owns hoF).mono (Nat.zero_le _)) (by rw [intsZ_len]; omega) (intsZ_one _) (by unfold maxLen; omega) (by omega) (by have := uF.size; simpa using this) ?_; intro vG wG hoG huG; have uG := uF.over (below_of_own hoE2 (by have := uF.size; simpa using this) huG) (by simp)))
          go_ret
          refine ⟨_, rfl, ?_, ((Upd.refl [] w).alloc _).trans uG⟩
          have e1 : (x :: (LL ++ RR)).length = ((1 + LL.length) + RR.length) := by simp; try omega
          have e2 : intsZ (x :: (LL ++ RR)) = (([.int .i64 x] ++ intsZ LL) ++ intsZ RR) := by simp [intsZ]
          unfold OwnZ
          rw [e1, e2]
          exact owns_mono hoG (by omega)
    · have e0 : allL n l (f + 1) x = [] := by rw [allL, if_neg hx]
      rw [e0]
      exact (rall_no w n x _ v hv hx).mono fun e w' ⟨he, hu⟩ => ⟨_, he, World.ownsRow_nil _ _ _ _, hu⟩
end Go.Proofs.Ytdgfibcbnlkbpaa
