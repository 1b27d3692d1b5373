/-
  The trees of package spine, what is told of whole trees: Root, Spine, All, in terms of lists that obey the rule of the trees. Conditions: those of each lemma.
-/
import Derived.Test.YtdgfibcbnlkbpaaSpine2
import Derived.WalkSmall
set_option linter.unusedVariables false
set_option linter.unusedSimpArgs false
namespace Go.Proofs.Ytdgfibcbnlkbpaa
open Go Go.RowKit

def opt (P : Nat → List Nat) (z : Int) : List Nat := if z = -1 then [] else P z.toNat
def ints (l : List Nat) : List Value := l.map (fun (x : Nat) => Value.int .i64 (x : Int))
theorem ints_append (a b : List Nat) : ints (a ++ b) = ints a ++ ints b := by unfold ints; rw [List.map_append]
theorem ints_len (a : List Nat) : (ints a).length = a.length := by unfold ints; simp
theorem opt_none (P : Nat → List Nat) : opt P (-1) = [] := rfl
theorem opt_some (P : Nat → List Nat) (y : Nat) : opt P (y : Int) = P y := by unfold opt; rw [if_neg (by omega)]; simp
def InR (n : Nat) (f : Nat → Int) : Prop := ∀ x, x < n → f x = -1 ∨ ∃ y, y < n ∧ f x = (y : Int)

theorem intInfo : (Try.prog.info? 3).map (fun i => (i.zero, i.size, i.bytes)) = some (some (.int .i64 0), 1, 8) := by kernel_rfl

set_option maxHeartbeats 400000 in
theorem root_any (bt ba n : Nat) (S : TS) (x : Nat) (w : World) (h : TreesAt w bt ba n S) (hx : x < n) (A : Nat → List Nat) (hA : ∀ y, y < n → A y = y :: opt A (S.u y)) (hr : InR n S.u) (r : Nat) (hl : (A x).getLast? = some r) :
    Calls Try.prog 33 #[.pointer (some ⟨bt, 0, none⟩), .int .i64 (x : Int)] w fun e w' => e = .returned (.tuple #[.int .i64 (r : Int), .bool true]) ∧ w' = w := by
  have k1 := has_any bt ba n S x w h true (by simp [hx])
  have k2 := fun (y : Nat) => above_any bt ba n S y w h
  have HA := Lib.hid hA
  have HL := Lib.hid hl
  have HR := Lib.hid hr
  clear hA hl hr
  go_enter Try.func33, Try.ntmps33
  go_wp2_with ((go_at_call 50; (with_reducible refine (k1).mono ?_); rintro e w' ⟨rfl, rfl⟩))
  go_loopw [1] (fun v wr => ∃ y : Nat, y < n ∧ v = .int .i64 (y : Int) ∧ (A y).getLast? = some r ∧ wr = w') (fun v _ => (A (intOf v).toNat).length)
  case atStart => exact ⟨x, hx, rfl, HL.out, rfl⟩
  case round =>
    obtain ⟨y, hy, rfl, hly, rfl⟩ := hrel
    have k3 := k2 y
    rw [show upOf n S y = S.u y by unfold upOf; rw [if_pos (by omega)]; simp] at k3
    have HY := Lib.hid hly
    clear hly
    rcases HR.out y hy with hu | ⟨p, hp, hu⟩
    · rw [hu] at k3
      have e1 : r = y := by have := HY.out; rw [HA.out y hy, hu, opt_none] at this; simpa using this.symm
      have E1 := Lib.hid e1
      clear hu e1
      go_wp2_with ((go_at_call 49; (with_reducible refine (k3).mono ?_); rintro e w' ⟨rfl, rfl⟩))
      go_ret2
      exact ⟨by rw [E1.out]; rfl, rfl⟩
    · rw [hu] at k3
      have e1 : A y = y :: A p := by rw [HA.out y hy, hu, opt_some]
      have hl2 : (A p).getLast? = some r := by
        have := HY.out; rw [e1] at this
        rw [HA.out p hp] at this ⊢
        simpa using this
      have hm : (A p).length < (A y).length := by rw [e1]; simp
      have E1 := Lib.hid (And.intro hl2 hm)
      have hp1 : ((p : Int) != -1) = true := by simp
      clear hu e1 hl2 hm
      go_wp2_with ((go_at_call 49; (with_reducible refine (k3).mono ?_); rintro e w' ⟨rfl, rfl⟩))
      go_roundw
      case rel => exact ⟨p, hp, rfl, E1.out.1, by first | rfl | trivial⟩
      case measure => simpa [intOf] using E1.out.2

set_option maxHeartbeats 400000 in
theorem root_no (bt ba n : Nat) (S : TS) (x : Int) (w : World) (h : TreesAt w bt ba n S) (hx : ¬ (0 ≤ x ∧ x < n)) :
    Calls Try.prog 33 #[.pointer (some ⟨bt, 0, none⟩), .int .i64 x] w fun e w' => e = .returned (.tuple #[.int .i64 0, .bool false]) ∧ w' = w := by
  have k1 := has_any bt ba n S x w h false (by simpa using hx)
  clear h hx
  go_enter Try.func33, Try.ntmps33
  go_wp2_with ((go_at_call 50; (with_reducible refine (k1).mono ?_); rintro e w' ⟨rfl, rfl⟩))
  go_ret2
  exact ⟨rfl, rfl⟩

theorem spine_no (bt ba n : Nat) (S : TS) (x : Int) (w : World) (h : TreesAt w bt ba n S) (hx : ¬ (0 ≤ x ∧ x < n)) :
    Calls Try.prog 35 #[.pointer (some ⟨bt, 0, none⟩), .int .i64 x] w fun e w' => e = .returned (.slice none 0 0) ∧ w' = w := by
  have k1 := has_any bt ba n S x w h false (by simpa using hx)
  clear h hx
  go_enter Try.func35, Try.ntmps35
  go_wp2
  go_loopw [1, 5] (fun v o wr => v = .int .i64 x ∧ o = .slice none 0 0 ∧ wr = w) (fun v _ _ => 0)
  case atStart => exact ⟨rfl, rfl, rfl⟩
  case round =>
    obtain ⟨rfl, rfl, rfl⟩ := hrel
    go_wp2_with ((go_at_call 50; (with_reducible refine (k1).mono ?_); rintro e w' ⟨rfl, rfl⟩))
    go_ret
    exact ⟨rfl, rfl⟩

set_option maxHeartbeats 400000 in
theorem spine_any (bt ba n : Nat) (S : TS) (x : Nat) (w : World) (h : TreesAt w bt ba n S) (hx : x < n) (A : Nat → List Nat) (hA : ∀ y, y < n → A y = y :: opt A (S.r y)) (hr : InR n S.r) (hlen : (A x).length ≤ 65536) :
    Calls Try.prog 35 #[.pointer (some ⟨bt, 0, none⟩), .int .i64 (x : Int)] w fun e w' => ∃ v, e = .returned v ∧ w'.ownsRow w.heap.size 3 1 v (A x).length (ints (A x)) ∧ Upd [] w w' := by
  have hbt := h.head.lt
  have hba := h.row.lt
  have HH := Lib.hid h
  have HA := Lib.hid hA
  have HR := Lib.hid hr
  have e0 := opt_some A x
  have HE := Lib.hid e0
  clear h hA hr e0
  go_enter Try.func35, Try.ntmps35
  go_wp2
  go_loopw [1, 5] (fun v o wr => ∃ (z : Int) (l : List Nat), (z = -1 ∨ ∃ y : Nat, y < n ∧ z = y) ∧ v = .int .i64 z ∧ l ++ opt A z = A x ∧ wr.ownsRow w.heap.size 3 1 o l.length (ints l) ∧ Upd [] w wr) (fun v _ _ => (opt A (intOf v)).length)
  case atStart => exact ⟨x, [], Or.inr ⟨x, hx, rfl⟩, rfl, by rw [HE.out]; rfl, World.ownsRow_nil _ _ _ _, Upd.refl _ _⟩
  case round =>
    obtain ⟨z, l, hz, rfl, hl, hown, hu⟩ := hrel
    have hT := HH.out.upd hu (by simp) (by simp)
    rcases hz with rfl | ⟨y, hy, rfl⟩
    · rw [opt_none, List.append_nil] at hl
      subst hl
      have k1 := has_any bt ba n S (-1) wr hT false (by simp)
      clear hT
      go_wp2_with ((go_at_call 50; (with_reducible refine (k1).mono ?_); rintro e w' ⟨rfl, rfl⟩))
      go_ret
      exact ⟨_, rfl, hown, hu⟩
    · have k1 := has_any bt ba n S y wr hT true (by simp [hy])
      have hopt : opt A (y : Int) = y :: opt A (S.r y) := by rw [opt_some]; exact HA.out y hy
      have hl2 : (l ++ [y]) ++ opt A (S.r y) = A x := by rw [← hl, hopt]; simp
      have hll : l.length + 1 ≤ 65536 := by have := congrArg List.length hl2; simp at this; omega
      have hm : (opt A (S.r y)).length < (opt A (y : Int)).length := by rw [hopt]; simp
      have H1 := Lib.hid hl2
      have H2 := Lib.hid hm
      have H3 := Lib.hid (HR.out y hy)
      have k4 := fun W (hW : TreesAt W bt ba n S) => kid_any bt ba n S y true W hW
      rw [show kidOf n S y true = S.r y by unfold kidOf TS.kid; rw [if_pos (by omega)]; simp] at k4
      clear hl hopt hl2 hm hT
      go_wp2_with (first
        | (go_at_call 50; (with_reducible refine (k1).mono ?_); rintro e w' ⟨rfl, rfl⟩)
        | (at_builtin; refine wpList_append_one rfl _ _ 29 rfl w.heap.size 3 (.int .i64 0) 1 8 Try.underlying29 intInfo rfl (by decide) _ _ _ rfl hown [.int .i64 (y : Int)] rfl (by simp [Value.oneCell']) rfl (by unfold maxLen; omega) (by omega) hu.size ?_; intro v' w2 hown2 hu2; have hu3 := hu.own hown (Nat.le_refl _) hu2)
        | (go_at_call 48; refine (k4 w2 (HH.out.upd hu3 (by simp) (by simp))).mono ?_; rintro e w' ⟨rfl, kd, rfl⟩))
      go_roundw
      case rel => exact ⟨S.r y, l ++ [y], H3.out, rfl, H1.out, by rw [ints_append, List.length_append]; exact owns_upd (S := []) hown2 ((Upd.refl _ _).drewN _) (by simp), hu3.drewN _⟩
      case measure => simpa [intOf] using H2.out

theorem all_no (bt ba n : Nat) (S : TS) (x : Int) (w : World) (h : TreesAt w bt ba n S) (hx : ¬ (0 ≤ x ∧ x < n)) :
    Calls Try.prog 34 #[.pointer (some ⟨bt, 0, none⟩), .int .i64 x] w fun e w' => e = .returned (.slice none 0 0) ∧ w' = w := by
  have k1 := has_any bt ba n S x w h false (by simpa using hx)
  clear h hx
  go_enter Try.func34, Try.ntmps34
  go_wp2_with ((go_at_call 50; (with_reducible refine (k1).mono ?_); rintro e w' ⟨rfl, rfl⟩))
  go_ret
  exact ⟨rfl, rfl⟩

def one (z : Int) : List Nat := if z = -1 then [] else [z.toNat]
theorem one_some (y : Nat) : one (y : Int) = [y] := by unfold one; rw [if_neg (by omega)]; simp
theorem one_flat (A : Nat → List Nat) (z : Int) : (one z).flatMap A = opt A z := by
  unfold one opt; split <;> simp
theorem one_rev (z : Int) : (one z).reverse = one z := by unfold one; split <;> simp
def lenOf : Value → Nat | .slice _ l _ => l | _ => 0
/-- Two rows of a call's own lie apart. -/
def apart (a b : Value) : Prop := ∀ k, a.ownBlock = some k → b.ownBlock ≠ some k
theorem own_slice {w : World} {base size n : Nat} {e : TypeId} {v : Value} {xs : List Value} (h : w.ownsRow base e size v n xs) : ∃ a cap, v = .slice a n cap ∧ cap ≤ 9223372036854775807 := by
  rcases h.2 with ⟨rfl, rfl⟩ | ⟨g, cap, cur, rfl, _, _, _, hc, _⟩
  · exact ⟨_, _, rfl, by omega⟩
  · exact ⟨_, _, rfl, by unfold maxLen at hc; exact hc⟩

theorem flat_len {L R : Nat → List Nat} (A : Nat → List Nat) (n : Nat) (hA : ∀ y, y < n → A y = y :: (L y ++ R y)) (l : List Nat) (h : ∀ z ∈ l, z < n) : l.length ≤ (l.flatMap A).length := by
  induction l with
  | nil => simp
  | cons z r ih =>
    have h1 := hA z (h z (by simp))
    have h2 := ih (fun z hz => h z (by simp [hz]))
    simp only [List.flatMap_cons, List.length_append, List.length_cons, h1]
    omega
theorem one_lt {n : Nat} {f : Nat → Int} (h : InR n f) {y z : Nat} (hy : y < n) (hz : z ∈ one (f y)) : z < n := by
  rcases h y hy with e | ⟨k, hk, e⟩
  · rw [e] at hz; simp [one] at hz
  · rw [e, one_some] at hz; simp at hz; omega

theorem index0 (w : World) : (Instr.index 75 (.agg #[.bool true, .bool false]) (.int .i64 0)).run Try.prog w = .ok (.bool true) w := by kernel_rfl
theorem index1 (w : World) : (Instr.index 75 (.agg #[.bool true, .bool false]) (.int .i64 1)).run Try.prog w = .ok (.bool false) w := by kernel_rfl
theorem one_len (z : Int) : (one z).length ≤ 1 := by unfold one; split <;> simp

set_option maxHeartbeats 2000000 in
theorem all_any (bt ba n : Nat) (S : TS) (x : Nat) (w : World) (h : TreesAt w bt ba n S) (hx : x < n) (A : Nat → List Nat) (hA : ∀ y, y < n → A y = y :: (opt A (S.l y) ++ opt A (S.r y))) (hl : InR n S.l) (hr : InR n S.r) (hlen : (A x).length ≤ 65536) :
    Calls Try.prog 34 #[.pointer (some ⟨bt, 0, none⟩), .int .i64 (x : Int)] w fun e w' => ∃ v, e = .returned v ∧ w'.ownsRow w.heap.size 3 1 v (A x).length (ints (A x)) ∧ Upd [] w w' := by
  have hbt := h.head.lt
  have hba := h.row.lt
  have k1 := has_any bt ba n S x w h true (by simp [hx])
  have i0 := index0
  have i1 := index1
  have HH := Lib.hid h
  have HA := Lib.hid hA
  have HL := Lib.hid hl
  have HR := Lib.hid hr
  clear h hA hl hr
  go_enter Try.func34, Try.ntmps34
  go_wp2_with ((go_at_call 50; (with_reducible refine (k1).mono ?_); rintro e w' ⟨rfl, rfl⟩))
  clear k1
  go_loopw [5, 6] (fun o t wr => ∃ lo td : List Nat, wr.ownsRow w'.heap.size 3 1 o lo.length (ints lo) ∧ wr.ownsRow w'.heap.size 3 1 t td.length (ints td) ∧ apart o t ∧ (∀ y ∈ td, y < n) ∧ lo ++ td.reverse.flatMap A = A x ∧ Upd [] w' wr) (fun o _ _ => (A x).length - lenOf o)
  case atStart =>
    exact ⟨[], [x], World.ownsRow_nil _ _ _ _, own_lit _ (ints [x]) _ _ 1 1 rfl (Nat.le_refl _) (by unfold maxLen; omega), fun k hk => by simp [Value.ownBlock] at hk, by simpa using hx, by simp, (Upd.refl _ _).alloc _⟩
  case round =>
    obtain ⟨lo, td, ho, ht, hap, htd, hsum, hu⟩ := hrel
    rcases List.eq_nil_or_concat td with rfl | ⟨ts, y, hty⟩
    · obtain ⟨ao, co, rfl, hco⟩ := own_slice ho
      obtain ⟨at', ct, rfl, hct⟩ := own_slice ht
      have e1 : lo = A x := by simpa using hsum
      have E1 := Lib.hid e1
      clear e1 hsum htd
      simp only [List.length_nil] at *
      go_wp2
      go_ret
      refine ⟨_, rfl, ?_, hu⟩
      rw [← E1.out]; exact ho
    · rw [List.concat_eq_append] at hty
      subst hty
      have hy : y < n := htd y (by simp)
      have hAy := HA.out y hy
      have hopt : lo ++ [y] ++ ((ts ++ one (S.r y) ++ one (S.l y)).reverse.flatMap A) = A x := by
        rw [← hsum, List.reverse_append, List.flatMap_append, List.reverse_append, List.flatMap_append, List.reverse_append, List.flatMap_append, one_rev, one_rev, one_flat, one_flat]
        simp [hAy]
      have hll : lo.length + ts.length + 1 ≤ 65536 := by
        have h1 := congrArg List.length hopt
        have h2 := flat_len A n HA.out (ts ++ one (S.r y) ++ one (S.l y)).reverse (fun z hz => by
          simp only [List.mem_reverse, List.mem_append] at hz
          rcases hz with (hz | hz) | hz
          · exact htd z (by simp [hz])
          · exact one_lt HR.out hy hz
          · exact one_lt HL.out hy hz)
        simp only [List.length_append, List.length_reverse, List.length_singleton] at h1 h2
        omega
      have ht' := ht
      rw [List.length_append, ints_append, List.length_singleton, show ints [y] = [.int .i64 (y : Int)] from rfl] at ht'
      clear ht
      obtain ⟨g, ct, rfl, hg1, hg2, hn1, hc1, hx1, hf1⟩ := own_shape ht' (by omega)
      obtain ⟨ao, co, rfl, hco⟩ := own_slice ho
      have c1 : wr.cell? ⟨g, ts.length, none⟩ = some (.int .i64 (y : Int)) := hx1 _ _ (by simp [ints])
      have htp : wr.ownsRow w'.heap.size 3 1 (.slice (some ⟨g, 0, none⟩) ts.length ct) ts.length (ints ts) := ownsRow_pop (by rw [ints_len]; omega) ht'
      clear ht'
      generalize hm : ts.length = m at *
      have HM := Lib.hid hm
      clear hm
      have hn0 : ((m : Int) + 1 == 0) = false := by simp; omega
      clear hx1 hf1 hAy hsum
      go_wp2_with ((at_builtin; refine wpList_append_sep rfl _ _ 29 rfl w'.heap.size 3 (.int .i64 0) 1 8 Try.underlying29 intInfo rfl (by decide) _ _ _ rfl (ho) [.int .i64 (y : Int)] rfl (by simp [Value.oneCell']) (by first | rfl | (rw [World.size_alloc]; rfl)) (by unfold maxLen; omega) (by omega) (hu.size) ?_; intro v1 w1 ho1 hu1 hs1))
      have hu' : Upd [] w' w1 := hu.own ho (Nat.le_refl _) hu1
      have ht1 := owns_upd htp hu1 (fun k hk hm => by simp only [Option.mem_toList] at hm; exact hap k hm (by simpa [Value.ownBlock] using hk))
      have hap1 : apart v1 (.slice (some ⟨g, 0, none⟩) m ct) := fun k hk hk2 => by
        rcases hs1 with e | e
        · rw [e] at hk; exact hap k hk (by simpa [Value.ownBlock] using hk2)
        · have h1 := e k hk; simp [Value.ownBlock] at hk2; omega
      have HO := Lib.hid hopt
      have HV : Hid (lenOf v1 = lo.length + 1) := by obtain ⟨a, c, e, _⟩ := own_slice ho1; show _ = _; rw [e]; rfl
      have HTD := Lib.hid htd
      clear hap htd hopt htp ho hn0 c1
      go_loopw [6, 36] (fun t i wr => ∃ td : List Nat, ((i = .int .i64 0 ∧ ts = td) ∨ (i = .int .i64 1 ∧ ts ++ one (S.r y) = td) ∨ (i = .int .i64 2 ∧ ts ++ one (S.r y) ++ one (S.l y) = td)) ∧ wr.ownsRow w'.heap.size 3 1 t td.length (ints td) ∧ wr.ownsRow w'.heap.size 3 1 v1 (lo.length + 1) (ints lo ++ [.int .i64 (y : Int)]) ∧ apart v1 t ∧ Upd [] w' wr) (fun _ i _ => 2 - (intOf i).toNat)
      case atStart => exact ⟨ts, Or.inl ⟨rfl, rfl⟩, by rw [HM.out]; exact ht1, ho1, hap1, hu'⟩
      case round =>
        clear hu hu1 ho1 hs1 ht1 hap1 hu'
        obtain ⟨td, hj, ht, hv, hap, hu⟩ := hrel
        have hT := HH.out.upd hu (by simp) (by simp)
        rcases hj with ⟨rfl, rfl⟩ | ⟨rfl, rfl⟩ | ⟨rfl, rfl⟩
        · -- the child on this side
          have k4 := kid_any bt ba n S y true wr hT
          rw [show kidOf n S y true = S.r y by unfold kidOf TS.kid; rw [if_pos (by omega)]; simp] at k4
          have HT := Lib.hid hT
          clear hT
          rcases HR.out y hy with hz | ⟨z, hz1, hz⟩
          · rw [hz] at k4
            have E1 := Lib.hid (show ts = (ts ++ one (S.r y)) by rw [hz]; simp [one])
            clear hz
            go_wp2_with ((go_at_call 48; (with_reducible refine (k4).mono ?_); rintro e w' ⟨rfl, kd, rfl⟩))
            go_roundw
            case rel => exact ⟨_, Or.inr (Or.inl ⟨rfl, E1.out.symm⟩), owns_upd (S := []) ht ((Upd.refl _ _).drewN _) (by simp), owns_upd (S := []) hv ((Upd.refl _ _).drewN _) (by simp), hap, hu.drewN _⟩
            case measure => simp [intOf]
          · rw [hz] at k4
            have E1 := Lib.hid (show ts ++ [z] = (ts ++ one (S.r y)) by rw [hz, one_some])
            have hz2 : ((z : Int) != -1) = true := by simp
            have hl3 : (ts).length + 1 ≤ 65540 := by have := HM.out; omega
            clear hz
            go_wp2_with (first | (go_at_call 48; (with_reducible refine (k4).mono ?_); rintro e w' ⟨rfl, kd, rfl⟩) | (at_builtin; refine wpList_append_sep rfl _ _ 29 rfl w'.heap.size 3 (.int .i64 0) 1 8 Try.underlying29 intInfo rfl (by decide) _ _ _ rfl (owns_upd (S := []) ht ((Upd.refl _ _).drewN _) (by simp)) [.int .i64 (z : Int)] rfl (by simp [Value.oneCell']) (by first | rfl | (rw [World.size_alloc]; rfl)) (by unfold maxLen; omega) (by omega) (hu.size) ?_; intro v2 w2 ht2 hu2 hs2))
            have hu3 := (hu.drewN kd).own (owns_upd (S := []) ht ((Upd.refl _ _).drewN kd) (by simp)) (Nat.le_refl _) hu2
            have hv3 := owns_upd (owns_upd (S := []) hv ((Upd.refl _ _).drewN kd) (by simp)) hu2 (fun k hk hm => by simp only [Option.mem_toList] at hm; exact hap k hk hm)
            have hap3 : apart v1 v2 := fun k hk hk2 => by
              rcases hs2 with e | e
              · rw [e] at hk2; exact hap k hk hk2
              · have h1 := e k hk2; have h2 := (hv.lt k hk).2; simp at h1; omega
            go_roundw
            case rel => exact ⟨_, Or.inr (Or.inl ⟨rfl, rfl⟩), by rw [← E1.out, ints_append, List.length_append]; exact ht2, hv3, hap3, hu3⟩
            case measure => simp [intOf]
        · -- the child on this side
          have k4 := kid_any bt ba n S y false wr hT
          rw [show kidOf n S y false = S.l y by unfold kidOf TS.kid; rw [if_pos (by omega)]; simp] at k4
          have HT := Lib.hid hT
          clear hT
          rcases HL.out y hy with hz | ⟨z, hz1, hz⟩
          · rw [hz] at k4
            have E1 := Lib.hid (show (ts ++ one (S.r y)) = (ts ++ one (S.r y) ++ one (S.l y)) by rw [hz]; simp [one])
            clear hz
            go_wp2_with ((go_at_call 48; (with_reducible refine (k4).mono ?_); rintro e w' ⟨rfl, kd, rfl⟩))
            go_roundw
            case rel => exact ⟨_, Or.inr (Or.inr ⟨rfl, E1.out.symm⟩), owns_upd (S := []) ht ((Upd.refl _ _).drewN _) (by simp), owns_upd (S := []) hv ((Upd.refl _ _).drewN _) (by simp), hap, hu.drewN _⟩
            case measure => simp [intOf]
          · rw [hz] at k4
            have E1 := Lib.hid (show (ts ++ one (S.r y)) ++ [z] = (ts ++ one (S.r y) ++ one (S.l y)) by rw [hz, one_some])
            have hz2 : ((z : Int) != -1) = true := by simp
            have hl3 : ((ts ++ one (S.r y))).length + 1 ≤ 65540 := by have := HM.out; have := one_len (S.l y); have := one_len (S.r y); simp only [List.length_append]; omega
            clear hz
            go_wp2_with (first | (go_at_call 48; (with_reducible refine (k4).mono ?_); rintro e w' ⟨rfl, kd, rfl⟩) | (at_builtin; refine wpList_append_sep rfl _ _ 29 rfl w'.heap.size 3 (.int .i64 0) 1 8 Try.underlying29 intInfo rfl (by decide) _ _ _ rfl (owns_upd (S := []) ht ((Upd.refl _ _).drewN _) (by simp)) [.int .i64 (z : Int)] rfl (by simp [Value.oneCell']) (by first | rfl | (rw [World.size_alloc]; rfl)) (by unfold maxLen; omega) (by omega) (hu.size) ?_; intro v2 w2 ht2 hu2 hs2))
            have hu3 := (hu.drewN kd).own (owns_upd (S := []) ht ((Upd.refl _ _).drewN kd) (by simp)) (Nat.le_refl _) hu2
            have hv3 := owns_upd (owns_upd (S := []) hv ((Upd.refl _ _).drewN kd) (by simp)) hu2 (fun k hk hm => by simp only [Option.mem_toList] at hm; exact hap k hk hm)
            have hap3 : apart v1 v2 := fun k hk hk2 => by
              rcases hs2 with e | e
              · rw [e] at hk2; exact hap k hk hk2
              · have h1 := e k hk2; have h2 := (hv.lt k hk).2; simp at h1; omega
            go_roundw
            case rel => exact ⟨_, Or.inr (Or.inr ⟨rfl, rfl⟩), by rw [← E1.out, ints_append, List.length_append]; exact ht2, hv3, hap3, hu3⟩
            case measure => simp [intOf]
        · clear hT
          go_wp2
          go_roundw
          case rel =>
            refine ⟨lo ++ [y], _, by rw [ints_append, List.length_append]; exact hv, ht, hap, fun z hz => ?_, HO.out, hu⟩
            simp only [List.mem_append] at hz
            rcases hz with (hz | hz) | hz
            · exact HTD.out z (by simp [hz])
            · exact one_lt HR.out hy hz
            · exact one_lt HL.out hy hz
          case measure =>
            have h1 := HV.out
            have h2 := congrArg List.length HO.out
            simp only [List.length_append, List.length_singleton] at h2
            rw [h1]
            show _ - (lo.length + 1) < _ - lo.length
            omega

end Go.Proofs.Ytdgfibcbnlkbpaa
