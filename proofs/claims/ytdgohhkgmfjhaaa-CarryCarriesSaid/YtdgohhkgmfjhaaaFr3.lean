/-
  The document's forests of layer 12 in memory: Link, Split, Lift. Conditions: those of each lemma.
-/
import Derived.Test.YtdgohhkgmfjhaaaFr2
import Derived.Deep.RegionHeldLaw
set_option linter.unusedVariables false
set_option linter.unusedSimpArgs false
namespace Go.Proofs.Ytdgohhkgmfjhaaa
open Go Go.RowKit

theorem run_append_none_c {P : Program} {w : World} (base : Nat) (t ty e : TypeId) (i : TypeInfo) (size : Nat) (ht : P.underlying t = some (.slice e)) (hi : P.info? e = some i) (v : Value) (n : Nat) (xs : List Value) (hown : w.ownsRow base e size v n xs) (c : Nat) :
    (Builtin.append_ #[t, t] ty #[v, .slice none 0 c]).run P w = .ok v w := by
  rcases hown.2 with ⟨rfl, rfl⟩ | ⟨g, cap, cur, rfl, _, _, hnc, _⟩
  · simp [Builtin.append_, run_underlying ht, sizeOf, typeInfo, hi, Builtin.lenOf, Builtin.firstCells, storeCells]
  · simp [Builtin.append_, run_underlying ht, sizeOf, typeInfo, hi, Builtin.lenOf, hnc, Builtin.firstCells, storeCells]
/-- append(s, x...) of integers wherever they lie. -/
theorem wpList_append_sli {ops : Array Oper} {rest : List Oper} {o : Oper} {a : Act} {w : World} {Q : Exit → Act → World → Prop} (hgd : o.guard = none) (s x : Operand) (t : TypeId)
    (ho : o.op = .call { callee := .builtin .append, args := #[s, x], argTypes := #[t, t] }) (ht : Try.prog.underlying t = some (.slice 3))
    (base : Nat) (v : Value) (n : Nat) (xs : List Value) (hs : a.eval s = v) (hown : w.ownsRow base 3 1 v n xs)
    (F : List Nat) (v2 : Value) (l : List Int) (hx : a.eval x = v2) (hl : SlI w F v2 l) (hn : n + l.length ≤ 1000000) (hbase : base ≤ w.heap.size)
    (h : ∀ v' w', w'.ownsRow base 3 1 v' (n + l.length) (xs ++ intsZ l) → Upd v.ownBlock.toList w w' → wpList Try.prog ops Q rest (a.put o.dst v') w') : wpList Try.prog ops Q (o :: rest) a w := by
  obtain ⟨i, hi, hz0, hz1, hz2⟩ := info_parts intInfo
  obtain ⟨ax, c, rfl, h1, h2, h3⟩ := hl
  cases ax with
  | none =>
    have hl0 : l = [] := by
      cases l with
      | nil => rfl
      | cons y t => obtain ⟨g, off, he, _⟩ := h3 0 y rfl; cases he
    subst hl0
    refine wpList_plain hgd fun K hK => ?_
    have hr := run_append_none_c (P := Try.prog) base t o.type 3 i 1 ht hi v n xs hown c
    unfold Oper.wp execOp
    simp only [List.length_nil] at hx
    simp only [ho, resolve, invoke, builtin, Sem.run_bind, Sem.run_pure, Result.andThen_ok, List.map_toArray, List.map_cons, List.map_nil, hs, hx, hr]
    exact hK _ _ (h v w (by simpa [intsZ] using hown) (Upd.refl _ _))
  | some ad =>
    have hnews : ∀ j u, (intsZ l)[j]? = some u → w.cell? (ad.add j) = some u := fun j u hj => by
      unfold intsZ at hj
      rw [List.getElem?_map] at hj
      cases hq : l[j]? with
      | none => rw [hq] at hj; cases hj
      | some y =>
        rw [hq] at hj
        simp at hj
        subst hj
        obtain ⟨g, off, he, _, _, hc⟩ := h3 j y hq
        cases he
        rw [Addr.add_lit]; exact hc
    exact wpList_plain hgd fun _ hK => wp_append_own w s x t ho base 3 i (.int .i64 0) 1 8 ht hi hz0 hz1 hz2 rfl (by decide) v n xs hs hown ad l.length c (intsZ l) hx (by rw [intsZ_len, Nat.mul_one]) hnews (intsZ_one l) (by unfold maxLen; omega) (by omega) hbase (fun v' w' h2 h3 _ => hK _ _ (h v' w' h2 ((Upd.refl _ _).grown h3 (fun k hk => Or.inl (by simp [hk])))))
theorem FrAt.drewN {w : World} {F : List Nat} {v : Value} {Z : List (List Int)} (h : FrAt w F v Z) (n : Nat) : FrAt (w.drewN n) F v Z := h.upd ((Upd.refl [] _).drewN n) (by simp)

theorem kidsZ_at {Z : List (List Int)} {x : Nat} (hx : x < Z.length) : kidsZ Z x = Z[x] := by unfold kidsZ; rw [if_pos (by omega)]; simp [List.getD_eq_getElem?_getD, hx]
theorem rootZ_lt {Z : List (List Int)} {x : Int} (h : rootZ Z x = true) : 0 ≤ x ∧ x < Z.length := by
  unfold rootZ at h
  simp only [Bool.and_eq_true, decide_eq_true_eq] at h
  exact h.1

set_option maxHeartbeats 2000000 in
theorem zlink_no (w : World) (F : List Nat) (v : Value) (Z : List (List Int)) (a b : Int) (h : FrAt w F v Z) (ho : (rootZ Z a && (rootZ Z b && (!(a == b) && (kidsZ Z a).length == (kidsZ Z b).length))) = false) :
    Calls Try.prog 43 #[v, .int .i64 a, .int .i64 b] w fun e w' => e = .returned (.tuple #[v, .bool false]) ∧ ∃ k, w' = w.drewN k := by
  have kR := fun x n => zroot_any (w.drewN n) F v Z x (h.drewN n)
  have hra' := fun h => rootZ_lt (Z := Z) (x := a) h
  have hrb' := fun h => rootZ_lt (Z := Z) (x := b) h
  obtain ⟨af, cap, rfl, h1, h2⟩ := h.shape
  generalize rootZ Z = r at *
  cases hra : r a with
  | false =>
    clear h ho hra' hrb'
    generalize Z.length = n at *
    go_enter Try.func43, Try.ntmps43
    go_wp2
    go_quiet ((go_at_call 48; exact Calls.quiet_of_same (kR _ _)))
    go_wp2
    go_ret2
    exact ⟨rfl, _, rfl⟩
  | true =>
    rw [hra] at ho
    cases hrb : r b with
    | false =>
      clear h ho hra' hrb'
      generalize Z.length = n at *
      go_enter Try.func43, Try.ntmps43
      go_wp2
      go_quiet ((go_at_call 48; exact Calls.quiet_of_same (kR _ _)))
      go_wp2
      go_ret2
      exact ⟨rfl, _, rfl⟩
    | true =>
      rw [hrb] at ho
      by_cases hab : a = b
      · subst hab
        have b1 : (a == a) = true := by simp
        clear h ho hra' hrb' hrb
        generalize Z.length = n at *
        go_enter Try.func43, Try.ntmps43
        go_wp2
        go_quiet ((go_at_call 48; exact Calls.quiet_of_same (kR _ _)))
        go_wp2
        go_ret2
        exact ⟨rfl, _, rfl⟩
      · have ha2 := hra' hra
        have hb2 := hrb' hrb
        obtain ⟨x, rfl⟩ := Int.eq_ofNat_of_zero_le ha2.1
        obtain ⟨y, rfl⟩ := Int.eq_ofNat_of_zero_le hb2.1
        have hx : x < Z.length := by omega
        have hy : y < Z.length := by omega
        obtain ⟨g, off, ax, cx, rfl, hg, hcx, -, -⟩ := h.at x hx
        obtain ⟨g2, off2, ay, cy, he, -, hcy, -, -⟩ := h.at y hy
        simp only [Option.some.injEq, Addr.mk.injEq, and_true] at he
        obtain ⟨rfl, rfl⟩ := he
        have b1 : ((x : Int) == (y : Int)) = false := by simpa using hab
        rw [kidsZ_at hx, kidsZ_at hy, b1] at ho
        have hlen : ((Z[x].length : Int) != (Z[y].length : Int)) = true := by simp at ho; simp; omega
        clear h ho hra' hrb' hab ha2 hb2
        generalize Z[x].length = lx at *
        generalize Z[y].length = ly at *
        generalize Z.length = n at *
        go_enter Try.func43, Try.ntmps43
        go_wp2
        go_quiet ((go_at_call 48; exact Calls.quiet_of_same (kR _ _)))
        go_wp2
        go_ret2
        exact ⟨rfl, _, rfl⟩

set_option maxHeartbeats 2000000 in
theorem zlink_yes (w : World) (F : List Nat) (v : Value) (Z : List (List Int)) (x y : Nat) (h : FrAt w F v Z) (hx : x < Z.length) (hy : y < Z.length) (hra : rootZ Z x = true) (hrb : rootZ Z y = true) (hne : x ≠ y) (hl : Z[x].length = Z[y].length) (hZ : Z.length ≤ 65536) (hZx : Z[x].length ≤ 65536) (hF : ∀ g, g ∈ F → g < w.heap.size) :
    Calls Try.prog 43 #[v, .int .i64 (x : Int), .int .i64 (y : Int)] w fun e w' => ∃ a c, e = .returned (.tuple #[.slice a Z.length c, .bool true]) ∧ FrAt w' F (.slice a Z.length c) (Z.set x (Z[x] ++ [(y : Int)])) ∧ Upd [] w w' := by
  have kR := fun x n => zroot_any (w.drewN n) F v Z x (h.drewN n)
  obtain ⟨af, cap, rfl, h1, h2⟩ := h.shape
  obtain ⟨g, off, ax, cx, rfl, hg, hcx, -, hsx⟩ := h.at x hx
  obtain ⟨g2, off2, ay, cy, he, -, hcy, -, -⟩ := h.at y hy
  simp only [Option.some.injEq, Addr.mk.injEq, and_true] at he
  obtain ⟨rfl, rfl⟩ := he
  have b1 : ((x : Int) == (y : Int)) = false := by simp; omega
  rw [← hl] at hcy
  have kW := fun W (hW : Upd [] w W) vk (hk : SlI W F vk (Z[x] ++ [(y : Int)])) => zwith_any W F _ vk Z x _ (h.upd hW (by simp)) hk hx hZ (fun g hg => Nat.lt_of_lt_of_le (hF g hg) hW.size)
  have hFL := Lib.hid hF
  clear h hl hne hF
  generalize rootZ Z = r at *
  generalize Z[x] = lx at *
  have hZl := intsZ_len lx
  have hsl := hsx.shape'
  go_enter Try.func43, Try.ntmps43
  go_wp2
  go_quiet ((go_at_call 48; exact Calls.quiet_of_same (kR _ _)))
  have hu1 : Upd [] w (w.drewN nq) := (Upd.refl _ _).drewN _
  have hs1 := hsx.upd hu1 (by simp)
  have hc1 : (w.drewN nq).cell? ⟨g, off + x, none⟩ = some (.slice ax lx.length cx) := hcx
  have hFW : ∀ g, g ∈ F → g < (w.drewN nq).heap.size := fun g hg => Nat.lt_of_lt_of_le (hFL.out g hg) hu1.size
  generalize w.drewN nq = W1 at *
  have hO := own_lit W1 [] 3 W1.heap.size 1 0 rfl (Nat.le_refl _) (by unfold maxLen; omega)
  have hc2 := ((Upd.refl [] W1).alloc (.cells #[] 3)).was hc1
  have hs2 := hs1.upd ((Upd.refl [] W1).alloc (.cells #[] 3)) (by simp)
  clear hcx hcy kR
  go_wp2_with (first
    | (at_builtin; refine wpList_append_at rfl _ _ 30 rfl W1.heap.size 3 (.int .i64 0) 1 8 Try.underlying30 intInfo rfl (by decide) _ lx.length (intsZ lx) rfl (ho2'.alloc (.cells #[.int .i64 (y : Int)] 3)) w2.heap.size [.int .i64 (y : Int)] rfl rfl (fun j u hj => newCell0 w2 [.int .i64 (y : Int)] 3 j u hj) (by simp [Value.oneCell']) (by unfold maxLen; omega) (by omega) (by have := hu2'.size; simp at this ⊢; omega) ?_; intro v3 w3 ho3 hu3 hv3)
    | (at_builtin; refine wpList_append_sli rfl _ _ 30 rfl Try.underlying30 W1.heap.size _ 0 [] rfl hO F _ lx rfl hs2 (by omega) (by simp) ?_; intro v2 w2 ho2 hu2; have hu2' : Upd [W1.heap.size] (W1.alloc (.cells #[] 3)) w2 := hu2; obtain ⟨a2, c2, rfl, _⟩ := own_slice ho2; have ho2' : w2.ownsRow W1.heap.size 3 1 (.slice a2 lx.length c2) lx.length (intsZ lx) := by (simpa using ho2)))
  have hsz1 := hu1.size
  have hw2 : Upd [] w w2 := (hu1.alloc _).joined hu2' (fun g hg => Or.inr (by simp at hg; omega))
  have hu3' : Upd (Value.slice a2 lx.length c2).ownBlock.toList (w2.alloc (.cells #[.int .i64 (y : Int)] 3)) w3 := hu3
  have hw3 : Upd [] w w3 := (hw2.alloc _).joined hu3' (fun g hg => Or.inr (Nat.le_trans hsz1 (ho2'.lt g (by simpa using hg)).1))
  have ho3' : w3.ownsRow W1.heap.size 3 1 v3 (lx ++ [(y : Int)]).length (intsZ (lx ++ [(y : Int)])) := by rw [List.length_append, intsZ_append]; exact ho3
  have hk : SlI w3 F v3 (lx ++ [(y : Int)]) := SlI.of_lst (LstAt.of_owns ho3') hFW
  (with_reducible refine (kW _ hw3 v3 hk).mono ?_)
  rintro e w4 ⟨a4, c4, rfl, hF4, hu4⟩
  go_wp2_with fail
  go_ret2
  exact ⟨_, _, rfl, hF4, hw3.trans hu4⟩

theorem zsplit_no (w : World) (F : List Nat) (v : Value) (Z : List (List Int)) (x : Int) (h : FrAt w F v Z) (hr : rootZ Z x = false) :
    Calls Try.prog 45 #[v, .int .i64 x] w fun e w' => e = .returned (.tuple #[v, .slice none 0 0]) ∧ w' = w := by
  have kR := zroot_any w F v Z x h
  rw [hr] at kR
  obtain ⟨af, cap, rfl, h1, h2⟩ := h.shape
  clear h hr
  generalize Z.length = n at *
  go_enter Try.func45, Try.ntmps45
  go_wp2_with ((go_at_call 48; (with_reducible refine (kR).mono ?_); rintro e w9 ⟨rfl, hw9⟩; rw [hw9]; clear hw9 w9))
  go_ret2
  exact ⟨rfl, rfl⟩
theorem SlI.nil (w : World) (F : List Nat) : SlI w F (.slice none 0 0) [] := ⟨none, 0, rfl, by simp, by omega, fun j u hj => by simp at hj⟩
set_option maxHeartbeats 1000000 in
theorem zsplit_yes (w : World) (F : List Nat) (v : Value) (Z : List (List Int)) (x : Nat) (h : FrAt w F v Z) (hx : x < Z.length) (hr : rootZ Z x = true) (hZ : Z.length ≤ 65536) (hF : ∀ g, g ∈ F → g < w.heap.size) :
    Calls Try.prog 45 #[v, .int .i64 (x : Int)] w fun e w' => ∃ a c a2 c2, e = .returned (.tuple #[.slice a Z.length c, .slice a2 Z[x].length c2]) ∧ FrAt w' F (.slice a Z.length c) (Z.set x []) ∧ SlI w' F (.slice a2 Z[x].length c2) Z[x] ∧ Upd [] w w' := by
  have kR := zroot_any w F v Z x h
  rw [hr] at kR
  obtain ⟨af, cap, rfl, h1, h2⟩ := h.shape
  obtain ⟨g, off, ax, cx, rfl, hg, hcx, -, hsx⟩ := h.at x hx
  have kW := fun W (hW : Upd [] w W) => zwith_any W F _ (.slice none 0 0) Z x [] (h.upd hW (by simp)) (SlI.nil _ _) hx hZ (fun g hg => Nat.lt_of_lt_of_le (hF g hg) hW.size)
  have r1 : ∀ W, Upd [] w W → W.cell? ⟨g, off + x, none⟩ = some (.slice ax Z[x].length cx) := fun W hW => hW.was hcx
  clear h hr
  generalize Z[x] = lx at *
  go_enter Try.func45, Try.ntmps45
  go_wp2_with ((go_at_call 48; (with_reducible refine (kR).mono ?_); rintro e w9 ⟨rfl, hw9⟩; rw [hw9]; clear hw9 w9))
  go_region_held3 (fun W => Upd [] w W)
    (first | assumption | exact (Upd.refl _ _).drew | (have hS := (by assumption : Upd [] _ _); exact hS.alloc _))
    (first
      | (have hS : Upd [] w w.drew := (Upd.refl _ _).drew
         (go_at_call 59; (with_reducible refine (kW _ hS).mono ?_)); rintro e w2 ⟨a2, c2, rfl, hF2, hu2⟩; have hS2 := hS.trans hu2))
  go_wp2
  go_ret2
  exact ⟨_, _, _, _, rfl, hF2, hsx.upd hS2 (by simp), hS2⟩

theorem zlift_no (w : World) (F : List Nat) (v : Value) (Z : List (List Int)) (x : Int) (h : FrAt w F v Z) (hr : upZ Z x = none) :
    Calls Try.prog 47 #[v, .int .i64 x] w fun e w' => e = .returned (.tuple #[v, .bool false]) ∧ w' = w := by
  have kU := zup_any w F v Z x h
  rw [hr, show ov none = 0 from rfl, show ob none = false from rfl] at kU
  obtain ⟨af, cap, rfl, h1, h2⟩ := h.shape
  clear h hr
  generalize Z.length = n at *
  go_enter Try.func47, Try.ntmps47
  go_wp2_with ((go_at_call 19; (with_reducible refine (kU).mono ?_); rintro e w9 ⟨rfl, hw9⟩; rw [hw9]; clear hw9 w9))
  go_ret2
  exact ⟨rfl, rfl⟩
def liftZ1 (Z : List (List Int)) (x p : Nat) : List (List Int) := (Z.set x (putL (Z.getD p []) x p)).set p (Z.getD x [])
theorem putL_len (l : List Int) (x y : Int) : (putL l x y).length = l.length := by unfold putL; simp
theorem getD_at {Z : List (List Int)} {x : Nat} (hx : x < Z.length) : Z.getD x [] = Z[x] := by simp [List.getD_eq_getElem?_getD, hx]
set_option maxHeartbeats 2000000 in
theorem zlift_yes (w : World) (F : List Nat) (v : Value) (Z : List (List Int)) (x p : Nat) (h : FrAt w F v Z) (hx : x < Z.length) (hp : p < Z.length) (hu : upZ Z x = some (p : Int)) (hZ : Z.length ≤ 65536) (hZp : ∀ l, l ∈ Z → l.length ≤ 65536) (hF : ∀ g, g ∈ F → g < w.heap.size)
    (top : upZ Z p = none ∨ ∃ q : Nat, q < Z.length ∧ upZ Z p = some (q : Int)) :
    Calls Try.prog 47 #[v, .int .i64 (x : Int)] w fun e w' => ∃ a c, e = .returned (.tuple #[.slice a Z.length c, .bool true]) ∧ FrAt w' F (.slice a Z.length c) (match upZ Z p with | some q => (liftZ1 Z x p).set q.toNat (putL (Z.getD q.toNat []) p x) | none => liftZ1 Z x p) ∧ Upd [] w w' := by
  have kU := zup_any w F v Z x h
  rw [hu, show ov (some (p : Int)) = (p : Int) from rfl, show ob (some (p : Int)) = true from rfl] at kU
  have kU2 := zup_any w F v Z p h
  obtain ⟨af, cap, rfl, h1, h2⟩ := h.shape
  obtain ⟨g, off, ax, cx, rfl, hg, hcx, -, hsx⟩ := h.at x hx
  obtain ⟨g2, off2, ap, cp, he, -, hcp, -, hsp⟩ := h.at p hp
  simp only [Option.some.injEq, Addr.mk.injEq, and_true] at he
  obtain ⟨rfl, rfl⟩ := he
  have hlp := hZp Z[p] (List.getElem_mem hp)
  have hFw := fun W (hW : Upd [] w W) => (fun g hg => Nat.lt_of_lt_of_le (hF g hg) hW.size : ∀ g, g ∈ F → g < W.heap.size)
  have kP := fun W (hW : Upd [] w W) => zput_any W F _ Z[p] x p (hsp.upd hW (by simp)) hlp (hFw W hW)
  have kW1 := fun W (hW : Upd [] w W) vk (hk : SlI W F vk (putL Z[p] x p)) => zwith_any W F _ vk Z x _ (h.upd hW (by simp)) hk hx hZ (hFw W hW)
  have kW2 := fun W (hW : Upd [] w W) v3 (h3 : FrAt W F v3 (Z.set x (putL Z[p] x p))) => zwith_any W F v3 (.slice ax Z[x].length cx) _ p Z[x] h3 (hsx.upd hW (by simp)) (by simpa using hp) (by simpa using hZ) (hFw W hW)
  rw [List.length_set] at kW2
  have r1 : ∀ W, Upd [] w W → W.cell? ⟨g, off + x, none⟩ = some (.slice ax Z[x].length cx) := fun W hW => hW.was hcx
  have r2 : ∀ W, Upd [] w W → W.cell? ⟨g, off + p, none⟩ = some (.slice ap Z[p].length cp) := fun W hW => hW.was hcp
  have hz1 : liftZ1 Z x p = (Z.set x (putL Z[p] x p)).set p Z[x] := by unfold liftZ1; rw [getD_at hx, getD_at hp]
  have hS0 : Upd [] w w.drew := (Upd.refl _ _).drew
  rcases top with ht | ⟨q, hq, ht⟩
  · rw [ht] at kU2 ⊢
    simp only
    rw [show ov none = 0 from rfl, show ob none = false from rfl] at kU2
    rw [hz1]
    have H := Lib.hid h
    clear h hu ht hz1 hZp
    generalize Z[p] = lp at *
    generalize Z[x] = lx at *
    go_enter Try.func47, Try.ntmps47
    go_wp2_with (first | (go_at_call 19; (with_reducible refine (kU).mono ?_); rintro e w9 ⟨rfl, hw9⟩; rw [hw9]; clear hw9 w9) | (go_at_call 19; (with_reducible refine (kU2).mono ?_); rintro e w9 ⟨rfl, hw9⟩; rw [hw9]; clear hw9 w9))
    go_region_held3 (fun W => Upd [] w W)
      (first | assumption | (have hS := (by assumption : Upd [] _ _); exact hS.alloc _))
      (first
        | ((go_at_call 60; (with_reducible refine (kP _ hS0).mono ?_)); rintro e w2 ⟨a3, c3, rfl, hs3, hu3⟩; have hS2 := hS0.trans hu3)
        | ((go_at_call 59; (with_reducible refine (kW1 _ hS2 _ hs3).mono ?_)); rintro e w4 ⟨a4, c4, rfl, hF4, hu4⟩; have hS4 := hS2.trans hu4)
        | ((go_at_call 59; (with_reducible refine (kW2 _ hS4 _ hF4).mono ?_)); rintro e w5 ⟨a5, c5, rfl, hF5, hu5⟩; have hS5 := hS4.trans hu5))
    go_wp2
    go_ret2
    exact ⟨_, _, rfl, hF5, hS5⟩
  · obtain ⟨g3, off3, aq, cq, he, -, hcq, -, hsq⟩ := h.at q hq
    simp only [Option.some.injEq, Addr.mk.injEq, and_true] at he
    obtain ⟨rfl, rfl⟩ := he
    have hlq := hZp Z[q] (List.getElem_mem hq)
    have kP2 := fun W (hW : Upd [] w W) => zput_any W F _ Z[q] p x (hsq.upd hW (by simp)) hlq (hFw W hW)
    have kW3 := fun W (hW : Upd [] w W) v5 vk (h5 : FrAt W F v5 ((Z.set x (putL Z[p] x p)).set p Z[x])) (hk : SlI W F vk (putL Z[q] p x)) => zwith_any W F v5 vk _ q _ h5 hk (by simpa using hq) (by simpa using hZ) (hFw W hW)
    rw [List.length_set, List.length_set] at kW3
    have r3 : ∀ W, Upd [] w W → W.cell? ⟨g, off + q, none⟩ = some (.slice aq Z[q].length cq) := fun W hW => hW.was hcq
    rw [ht] at kU2 ⊢
    simp only [Int.toNat_natCast]
    rw [show ov (some (q : Int)) = (q : Int) from rfl, show ob (some (q : Int)) = true from rfl] at kU2
    rw [hz1, getD_at hq]
    have H := Lib.hid h
    clear h hu ht hz1 hZp
    generalize Z[p] = lp at *
    generalize Z[x] = lx at *
    generalize Z[q] = lq at *
    go_enter Try.func47, Try.ntmps47
    go_wp2_with (first | (go_at_call 19; (with_reducible refine (kU).mono ?_); rintro e w9 ⟨rfl, hw9⟩; rw [hw9]; clear hw9 w9) | (go_at_call 19; (with_reducible refine (kU2).mono ?_); rintro e w9 ⟨rfl, hw9⟩; rw [hw9]; clear hw9 w9))
    go_region_held3 (fun W => Upd [] w W)
      (first | assumption | (have hS := (by assumption : Upd [] _ _); exact hS.alloc _))
      (first
        | ((go_at_call 60; (with_reducible refine (kP _ hS0).mono ?_)); rintro e w2 ⟨a3, c3, rfl, hs3, hu3⟩; have hS2 := hS0.trans hu3)
        | ((go_at_call 59; (with_reducible refine (kW1 _ hS2 _ hs3).mono ?_)); rintro e w4 ⟨a4, c4, rfl, hF4, hu4⟩; have hS4 := hS2.trans hu4)
        | ((go_at_call 59; (with_reducible refine (kW2 _ hS4 _ hF4).mono ?_)); rintro e w5 ⟨a5, c5, rfl, hF5, hu5⟩; have hS5 := hS4.trans hu5))
    have g3 := r3 _ hS5
    go_wp2_with (first
      | ((go_at_call 60; (with_reducible refine (kP2 _ hS5).mono ?_)); rintro e w6 ⟨a6, c6, rfl, hs6, hu6⟩; have hS6 := hS5.trans hu6; have hF6 := hF5.upd hu6 (by simp))
      | ((go_at_call 59; (with_reducible refine (kW3 _ hS6 _ _ hF6 hs6).mono ?_)); rintro e w7 ⟨a7, c7, rfl, hF7, hu7⟩; have hS7 := hS6.trans hu7))
    go_ret2
    exact ⟨_, _, rfl, hF7, hS7⟩
end Go.Proofs.Ytdgohhkgmfjhaaa
