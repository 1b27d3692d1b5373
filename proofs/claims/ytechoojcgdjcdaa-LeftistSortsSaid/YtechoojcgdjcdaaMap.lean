/-
  A map from integers to integers that the program itself has made: what it holds, as a function; reading, storing, striking out. Conditions: keys from 1 to 65536.
-/
import Derived.Test.YtechoojcgdjcdaaBase
import Derived.Test.YtechoojcgdjcdaaProg
import Derived.Maps.OwnSet
import Derived.Maps.OwnOps
import Derived.Maps.RangeWalk
set_option linter.unusedVariables false
set_option linter.unusedSimpArgs false
namespace Go.Proofs.Ytechoojcgdjcdaa
open Go Go.RowKit Go.Maps

theorem nodup_range : ∀ (n : Nat) (l : List Int), l.Nodup → (∀ x, x ∈ l → 0 ≤ x ∧ x < n) → l.length ≤ n
  | 0, l, _, h => by
    cases l with
    | nil => simp
    | cons x r => have := h x (by simp); omega
  | n + 1, l, hn, h => by
    have h1 := nodup_range n (l.filter (fun x => x != (n : Int))) (hn.filter _) (fun x hx => by
      simp only [List.mem_filter] at hx
      have := h x hx.1
      have h2 : x ≠ n := by simpa using hx.2
      omega)
    have h2 : l.length ≤ (l.filter (fun x => x != (n : Int))).length + 1 := by
      clear h1 h
      induction l with
      | nil => simp
      | cons y r ih =>
        rw [List.nodup_cons] at hn
        by_cases hy : y = n
        · subst hy
          have e : r.filter (fun x => x != (n : Int)) = r := by
            rw [List.filter_eq_self]; intro a ha; simp; intro e; subst e; exact hn.1 ha
          rw [List.filter_cons_of_neg (by simp), e]; simp
        · rw [List.filter_cons_of_pos (by simpa using hy)]
          have := ih hn.2
          simp only [List.length_cons]; omega
    omega

/-- Block b is a map that holds f. -/
def MapI (w : World) (b : Nat) (f : Int → Option Int) : Prop :=
  ∃ D : DataW Unit, w.ownsMap Try.prog 3 (plainElem Try.prog 3) b (Maps.size D) D ∧
    (∀ kl, Maps.has D kl = true → ∃ k : Int, kl = .int .i64 k ∧ 1 ≤ k ∧ k ≤ 65536 ∧ (f k).isSome = true) ∧
    (∀ k z, f k = some z → Maps.has D (.int .i64 k) = true ∧ ∀ d, D.atKey (.int .i64 k) d = .lit (.int .i64 z))
theorem ownsMap_size {w : World} {k : TypeId} {R : Value → Option (DataW Unit × List MemPlace)} {b n : Nat} {D : DataW Unit} (h : w.ownsMap Try.prog k R b n D) : w.ownsMap Try.prog k R b (Maps.size D) D := by
  obtain ⟨es, clock, hb, F, hs, rfl⟩ := h
  exact ⟨es, clock, hb, F, by simp [Maps.size, length_sorted], rfl⟩
theorem intKeyed : Keyed Try.prog 3 := int_keyed Try.underlying3
theorem intZero (w : World) : (zeroValue 3).run Try.prog w = .ok (.int .i64 0) w := by kernel_rfl
theorem MapI.same {w w' : World} {b : Nat} {f : Int → Option Int} (h : MapI w b f) (hb : w'.heap[b]? = w.heap[b]?) : MapI w' b f := by
  obtain ⟨D, ⟨es, clock, h1, h2⟩, h3⟩ := h
  exact ⟨D, ⟨es, clock, hb.trans h1, h2⟩, h3⟩
theorem MapI.lt {w : World} {b : Nat} {f : Int → Option Int} (h : MapI w b f) : b < w.heap.size := by
  obtain ⟨D, h1, _⟩ := h
  exact h1.lt
theorem MapI.upd {w w' : World} {S : List Nat} {b : Nat} {f : Int → Option Int} (h : MapI w b f) (hu : Upd S w w') (hn : b ∉ S) : MapI w' b f := h.same (hu.block b h.lt hn)
theorem MapI.ext {w : World} {b : Nat} {f g : Int → Option Int} (h : MapI w b f) (hg : ∀ k, f k = g k) : MapI w b g := by
  rwa [show f = g from funext hg] at h
theorem key_of_entry {P : Program} {k : TypeId} {R : Value → Option (DataW Unit × List MemPlace)} {es' : Array MapEntry} {clock : Nat} (K : Keyed P k) (F : Go.WideElems.Fit P k R es' clock) {p : Lit × DataW Unit}
    (hp : p ∈ (es'.toList.map (Go.WideElems.rg P k R)).foldr DataW.insert []) : WideAt.IsKeyLit p.1 := by
  have hp2 := (Go.WideShapes.sorted_perm _).mem_iff.1 hp
  obtain ⟨x, hx, rfl⟩ := List.mem_map.1 hp2
  obtain ⟨y, hy⟩ := F.reads x hx
  rw [Go.WideElems.rg_of hy]
  exact K.key (Go.WideElems.rd_key hy)
theorem MapI.small {w : World} {b : Nat} {f : Int → Option Int} {D : DataW Unit} (h1 : w.ownsMap Try.prog 3 (plainElem Try.prog 3) b (Maps.size D) D)
    (h2 : ∀ kl, Maps.has D kl = true → ∃ k : Int, kl = .int .i64 k ∧ 1 ≤ k ∧ k ≤ 65536 ∧ (f k).isSome = true) : Maps.size D ≤ 65537 := by
  obtain ⟨es, rfl, hp⟩ := h1.tidy intKeyed
  let num : Lit → Int := fun l => match l with | .int _ k => k | _ => 0
  have hk : ∀ p ∈ es, ∃ k : Int, p.1 = .int .i64 k ∧ 1 ≤ k ∧ k ≤ 65536 := fun p hp => by
    have hh : Maps.has (DataW.map es) p.1 = true := by
      rw [has_eq]
      refine List.any_eq_true.2 ⟨p, hp, WideAt.sameKey_self ?_⟩
      obtain ⟨es', clock, _, F, _, he⟩ := h1
      have hes : es = (es'.toList.map (Go.WideElems.rg Try.prog 3 (plainElem Try.prog 3))).foldr DataW.insert [] := by simpa using he
      rw [hes] at hp
      exact key_of_entry intKeyed F hp
    obtain ⟨k, hk, h3, h4, _⟩ := h2 _ hh
    exact ⟨k, hk, h3, h4⟩
  have := nodup_range 65537 (es.map fun p => num p.1) (by
    unfold List.Nodup
    rw [List.pairwise_map]
    refine (List.Pairwise.imp_of_mem ?_ hp)
    intro a b ha hb hab e
    obtain ⟨k1, e1, _⟩ := hk a ha
    obtain ⟨k2, e2, _⟩ := hk b hb
    rw [e1, e2] at e hab
    exact hab (by rw [show k1 = k2 from e])) (fun x hx => by
    obtain ⟨p, hp, rfl⟩ := List.mem_map.1 hx
    obtain ⟨k, e, h3, h4⟩ := hk p hp
    rw [e]; show 0 ≤ k ∧ k < ((65537 : Nat) : Int); omega)
  simpa [size_eq] using this
theorem keyOfInt {k : Int} (h : -9223372036854775808 ≤ k ∧ k ≤ 9223372036854775807) : keyOf Try.prog 3 (.int .i64 k) = some (.int .i64 k) := keyOf_int_mk Try.underlying3 (WalkArith.wf_i64 h)
/-- m[k] -/
theorem MapI.look {w : World} {b : Nat} {f : Int → Option Int} (h : MapI w b f) (k : Int) (hk : -9223372036854775808 ≤ k ∧ k ≤ 9223372036854775807) :
    (Instr.lookup 37 (.map (some b)) (.int .i64 k) false).run Try.prog w = .ok (.int .i64 ((f k).getD 0)) w := by
  obtain ⟨D, h1, h2, h3⟩ := h
  obtain ⟨c, hrun, hat, _⟩ := h1.lookup_int intKeyed Try.underlying37 Try.underlying3 (intZero w) (keyOfInt hk)
  rw [hrun]
  cases hf : f k with
  | some z =>
    rw [(h3 k z hf).2] at hat
    have : z = c := by simpa using hat
    rw [this]; rfl
  | none =>
    have : Maps.has D (.int .i64 k) = false := by
      cases hh : Maps.has D (.int .i64 k)
      · rfl
      · obtain ⟨k', e, _, _, h4⟩ := h2 _ hh
        cases e; rw [hf] at h4; cases h4
    rw [atKey_of_not_has this] at hat
    have : (0 : Int) = c := by simpa using hat
    rw [← this]; rfl
/-- v, ok := m[k] -/
theorem MapI.look_ok {w : World} {b : Nat} {f : Int → Option Int} (h : MapI w b f) (k : Int) (hk : -9223372036854775808 ≤ k ∧ k ≤ 9223372036854775807) :
    (Instr.lookup 37 (.map (some b)) (.int .i64 k) true).run Try.prog w = .ok (.tuple #[.int .i64 ((f k).getD 0), .bool (f k).isSome]) w := by
  obtain ⟨D, h1, h2, h3⟩ := h
  obtain ⟨v, ps, hrun, hv⟩ := h1.look_ok intKeyed Try.underlying37 (intZero w) (plainElem_int Try.underlying3 (a := 0) (by decide)) (keyOfInt hk)
  obtain ⟨c, rfl, hc, _⟩ := plainElem_int_inv Try.underlying3 hv
  simp only [Prod.mk.injEq] at hc
  have hat := hc.1
  rw [hrun]
  cases hf : f k with
  | some z =>
    rw [(h3 k z hf).2] at hat
    rw [(h3 k z hf).1]
    have : z = c := by simpa using hat
    rw [this]; rfl
  | none =>
    have : Maps.has D (.int .i64 k) = false := by
      cases hh : Maps.has D (.int .i64 k)
      · rfl
      · obtain ⟨k', e, _, _, h4⟩ := h2 _ hh
        cases e; rw [hf] at h4; cases h4
    rw [atKey_of_not_has this] at hat
    rw [this]
    have : (0 : Int) = c := by simpa using hat
    rw [← this]; rfl
theorem mapTurned_upd {w w' : World} {b : Nat} (h : w.mapTurned w' b) : Upd [b] w w' := (Upd.refl [b] w).grown h.grown (fun k hk => Or.inl (by cases hk; simp))
theorem MapI.store {w : World} {b : Nat} {f : Int → Option Int} (h : MapI w b f) (k z : Int) (hk : 1 ≤ k ∧ k ≤ 65536) (hz : -9223372036854775808 ≤ z ∧ z ≤ 9223372036854775807) :
    ∃ w', (Instr.mapUpdate 37 (.map (some b)) (.int .i64 k) (.int .i64 z)).run Try.prog w = .ok () w' ∧ MapI w' b (fun q => if q = k then some z else f q) ∧ Upd [b] w w' := by
  obtain ⟨D, h1, h2, h3⟩ := h
  have hs := MapI.small h1 h2
  obtain ⟨w', hrun, ho, ht⟩ := h1.store intKeyed Try.underlying37 (by unfold maxLen; omega) (keyOfInt (k := k) (by omega)) (plainElem_int Try.underlying3 (a := z) (WalkArith.wf_i64 hz))
  have hD := h1.isMap
  refine ⟨w', hrun, ⟨_, ownsMap_size ho, fun kl hkl => ?_, fun q y hq => ?_⟩, mapTurned_upd ht⟩
  · by_cases e : kl = .int .i64 k
    · exact ⟨k, e, hk.1, hk.2, by simp⟩
    · rw [has_put_other e] at hkl
      obtain ⟨q, rfl, a, b, c⟩ := h2 kl hkl
      refine ⟨q, rfl, a, b, ?_⟩
      show (if q = k then some z else f q).isSome = true
      split
      · rfl
      · exact c
  · by_cases e : q = k
    · subst e
      simp only [if_true, Option.some.injEq] at hq
      subst hq
      exact ⟨has_put_same hD (show WideAt.IsKeyLit (.int .i64 q) from True.intro) _, fun d => atKey_put_same hD (show WideAt.IsKeyLit (.int .i64 q) from True.intro) _ _⟩
    · simp only [if_neg e] at hq
      have hne : (Lit.int .i64 q) ≠ .int .i64 k := fun h => e (by cases h; rfl)
      rw [has_put_other hne]
      exact ⟨(h3 q y hq).1, fun d => by rw [atKey_put_other hne]; exact (h3 q y hq).2 d⟩
theorem MapI.drop {w : World} {b : Nat} {f : Int → Option Int} (h : MapI w b f) (k : Int) (hk : -9223372036854775808 ≤ k ∧ k ≤ 9223372036854775807) (ty : TypeId) :
    ∃ w', (Builtin.delete_ #[37, 3] ty #[.map (some b), .int .i64 k]).run Try.prog w = .ok (.tuple #[]) w' ∧ MapI w' b (fun q => if q = k then none else f q) ∧ Upd [b] w w' := by
  obtain ⟨D, h1, h2, h3⟩ := h
  obtain ⟨w', hrun, ho, ht⟩ := h1.drop intKeyed Try.underlying37 (keyOfInt hk) ty
  refine ⟨w', hrun, ⟨_, ownsMap_size ho, fun kl hkl => ?_, fun q y hq => ?_⟩, mapTurned_upd ht⟩
  · by_cases e : kl = .int .i64 k
    · subst e; rw [has_del_same] at hkl; cases hkl
    · rw [has_del_other e] at hkl
      obtain ⟨q, rfl, a, b, c⟩ := h2 kl hkl
      exact ⟨q, rfl, a, b, by show (if q = k then none else f q).isSome = true; rw [if_neg (fun h => e (by rw [h]))]; exact c⟩
  · by_cases e : q = k
    · subst e; simp at hq
    · simp only [if_neg e] at hq
      have hne : (Lit.int .i64 q) ≠ .int .i64 k := fun h => e (by cases h; rfl)
      rw [has_del_other hne]
      exact ⟨(h3 q y hq).1, fun d => by rw [atKey_del_other hne]; exact (h3 q y hq).2 d⟩
theorem MapI.made (w : World) : MapI (w.alloc (.map #[] 0)) w.heap.size (fun _ => none) :=
  ⟨.map [], World.ownsMap_made w _ _ _, fun kl hkl => by simp [has_eq] at hkl, fun k z hz => by cases hz⟩
/-- The laws at the operations, for a walk. -/
theorem wpList_mput {w : World} {ops : Array Oper} {rest : List Oper} {o : Oper} {a : Act} {Q : Exit → Act → World → Prop} (hg : o.guard = none) (m x v : Operand) (hop : o.op = Op.mapUpdate 37 m x v)
    (b : Nat) (f : Int → Option Int) (hm : a.eval m = .map (some b)) (h : MapI w b f) (k z : Int) (hx : a.eval x = .int .i64 k) (hv : a.eval v = .int .i64 z) (hk : 1 ≤ k ∧ k ≤ 65536) (hz : -9223372036854775808 ≤ z ∧ z ≤ 9223372036854775807)
    (hK : ∀ w', MapI w' b (fun q => if q = k then some z else f q) → Upd [b] w w' → wpList Try.prog ops Q rest (a.put o.dst undef) w') : wpList Try.prog ops Q (o :: rest) a w := by
  refine wpList_plain hg fun K' hK' => ?_
  obtain ⟨w', hrun, r1, r2⟩ := h.store k z hk hz
  unfold Oper.wp
  simp [execOp, hop, hm, hx, hv, hrun, Result.andThen]
  exact hK' _ _ (hK w' r1 r2)
theorem wpList_mdel {w : World} {ops : Array Oper} {rest : List Oper} {o : Oper} {a : Act} {Q : Exit → Act → World → Prop} (hg : o.guard = none) (m x : Operand) (hop : o.op = Op.call { callee := Callee.builtin Builtin.delete, args := #[m, x], argTypes := #[37, 3] })
    (b : Nat) (f : Int → Option Int) (hm : a.eval m = .map (some b)) (h : MapI w b f) (k : Int) (hx : a.eval x = .int .i64 k) (hk : -9223372036854775808 ≤ k ∧ k ≤ 9223372036854775807)
    (hK : ∀ w', MapI w' b (fun q => if q = k then none else f q) → Upd [b] w w' → wpList Try.prog ops Q rest (a.put o.dst (.tuple #[])) w') : wpList Try.prog ops Q (o :: rest) a w := by
  refine wpList_plain hg fun K' hK' => ?_
  obtain ⟨w', hrun, r1, r2⟩ := h.drop k hk o.type
  unfold Oper.wp
  simp [execOp, hop, resolve, invoke, builtin, hm, hx, hrun, Result.andThen]
  exact hK' _ _ (hK w' r1 r2)
theorem wpList_mlook {w : World} {ops : Array Oper} {rest : List Oper} {o : Oper} {a : Act} {Q : Exit → Act → World → Prop} (hg : o.guard = none) (m x : Operand) (hop : o.op = Op.lookup 37 m x false)
    (b : Nat) (f : Int → Option Int) (hm : a.eval m = .map (some b)) (h : MapI w b f) (k : Int) (hx : a.eval x = .int .i64 k) (hk : -9223372036854775808 ≤ k ∧ k ≤ 9223372036854775807) (z : Int) (hz : (f k).getD 0 = z)
    (hK : wpList Try.prog ops Q rest (a.put o.dst (.int .i64 z)) w) : wpList Try.prog ops Q (o :: rest) a w := by
  refine wpList_plain hg fun K' hK' => ?_
  have hrun := h.look k hk
  rw [hz] at hrun
  unfold Oper.wp
  simp [execOp, hop, hm, hx, hrun, Result.andThen]
  exact hK' _ _ hK
theorem wpList_mlook_ok {w : World} {ops : Array Oper} {rest : List Oper} {o : Oper} {a : Act} {Q : Exit → Act → World → Prop} (hg : o.guard = none) (m x : Operand) (hop : o.op = Op.lookup 37 m x true)
    (b : Nat) (f : Int → Option Int) (hm : a.eval m = .map (some b)) (h : MapI w b f) (k : Int) (hx : a.eval x = .int .i64 k) (hk : -9223372036854775808 ≤ k ∧ k ≤ 9223372036854775807)
    (hK : wpList Try.prog ops Q rest (a.put o.dst (.tuple #[.int .i64 ((f k).getD 0), .bool (f k).isSome])) w) : wpList Try.prog ops Q (o :: rest) a w := by
  refine wpList_plain hg fun K' hK' => ?_
  have hrun := h.look_ok k hk
  unfold Oper.wp
  simp [execOp, hop, hm, hx, hrun, Result.andThen]
  exact hK' _ _ hK
end Go.Proofs.Ytechoojcgdjcdaa
