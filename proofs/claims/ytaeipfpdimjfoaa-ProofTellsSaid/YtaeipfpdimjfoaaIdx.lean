/-
  Is there one among edges, or among numbers, of which something holds? The library's IndexFunc and ContainsFunc over a function that answers. Conditions: those of each lemma.
-/
import Derived.Test.YtaeipfpdimjfoaaEdg
import Derived.IntWalk
set_option linter.unusedVariables false
set_option linter.unusedSimpArgs false
namespace Go.Proofs.Ytaeipfpdimjfoaa
open Go Go.RowKit

def Enters (f : FuncId) : Prop := ∀ (args : Array Value) (W : World), (callFunc f args).run Try.prog W = .ok (.enter f args) W
/-- An index, or minus one. -/
def SomeIdx (b : Bool) (w : World) (r : Ending) (w' : World) : Prop := ∃ i : Int, r = .returned (.int .i64 i) ∧ decide (0 ≤ i) = b ∧ Upd [] w w'
theorem any_take {α : Type} (P : α → Bool) (l : List α) (k : Nat) (x : α) (hx : l[k]? = some x) : (l.take (k + 1)).any P = ((l.take k).any P || P x) := by
  rw [List.take_add_one, hx]; simp
set_option maxHeartbeats 2000000 in
theorem idxE_any (w : World) (va : Value) (E : List Ed) (P : Ed → Bool) (f : FuncId) (caps : Array Value) (hE : SlE w va E) (hen : Enters f)
    (hc : ∀ (W : World) (e : Ed), Upd [] w W → e ∈ E → Calls Try.prog f (#[e.val] ++ caps) W fun r w' => r = .returned (.bool (P e)) ∧ Upd [] W w') :
    Calls Try.prog 28 #[va, .func (Fn.func f) #[] caps] w (SomeIdx (E.any P) w) := by
  obtain ⟨a, cap, rfl, hcap⟩ := hE.shape
  have HE := Lib.hid hE
  have HC := Lib.hid hc
  unfold Enters at hen
  have hcp : E.length ≤ 9223372036854775807 := by obtain ⟨_, _, _, _, h, _⟩ := hE; exact h
  clear hE hc
  generalize hn : E.length = n at *
  have HN := Lib.hid hn
  clear hn
  go_enter Try.func28, Try.ntmps28
  go_wp2
  go_loopw [5, 8] (fun _ i wr => ∃ k : Nat, k ≤ n ∧ i = .int .i64 (k : Int) ∧ (E.take k).any P = false ∧ Upd [] w wr) (fun _ i _ => n - (intOf i).toNat)
  case atStart => exact ⟨0, by omega, rfl, by simp, Upd.refl _ _⟩
  case round =>
    obtain ⟨k, hk, rfl, hany, hu⟩ := hrel
    rename World => wr
    by_cases hkn : k < n
    · have hkE : k < E.length := by rw [HN.out]; exact hkn
      have hx : E[k]? = some (E.getD k default) := by simp [List.getD_eq_getElem?_getD, hkE]
      have hmem : E.getD k default ∈ E := List.mem_of_getElem? hx
      obtain ⟨g, off, rfl, hg, c0, c1, c2⟩ := (HE.out.upd hu).at k hkE
      have kc := HC.out wr _ hu hmem
      generalize E.getD k default = e at *
      obtain ⟨ef, et, ew⟩ := e
      have HM := Lib.hid hmem
      have HT := Lib.hid (any_take P E k _ hx)
      have HA := Lib.hid hany
      have hwr : IntKind.i64.wrap ((k : Int) + 1) = (k : Int) + 1 := IntWalk.i64_in _ (by omega)
      dsimp only at c0 c1 c2
      unfold Ed.val at kc
      clear hx hmem hany
      cases hp : P ⟨ef, et, ew⟩ with
      | false =>
        rw [hp] at kc
        have HP := Lib.hid hp
        clear hp
        go_wp2_with (first
          | ((with_reducible refine (kc).mono ?_); rintro e w2 ⟨rfl, hu2⟩)
          | fail)
        go_roundw
        case rel => exact ⟨k + 1, by omega, by go_num, by rw [HT.out, HA.out, HP.out]; rfl, hu.trans hu2⟩
        case measure => simp [intOf]; omega
      | true =>
        rw [hp] at kc
        have HP := Lib.hid hp
        clear hp
        go_wp2_with (first
          | ((with_reducible refine (kc).mono ?_); rintro e w2 ⟨rfl, hu2⟩)
          | fail)
        go_ret
        refine ⟨(k : Int), rfl, ?_, hu.trans hu2⟩
        rw [List.any_eq_true.2 ⟨_, HM.out, HP.out⟩]
        simp
    · obtain rfl : k = n := by omega
      have hfin : E.any P = false := by rw [← hany, ← HN.out, List.take_length]
      have HF := Lib.hid hfin
      clear hany hfin
      go_wp2
      go_ret
      exact ⟨-1, rfl, by rw [HF.out]; rfl, hu⟩
set_option maxHeartbeats 2000000 in
theorem idxI_any (w : World) (va : Value) (E : List Int) (P : Int → Bool) (f : FuncId) (caps : Array Value) (hE : SlI w [] va E) (hen : Enters f)
    (hc : ∀ (W : World) (e : Int), Upd [] w W → e ∈ E → Calls Try.prog f (#[.int .i64 e] ++ caps) W fun r w' => r = .returned (.bool (P e)) ∧ Upd [] W w') :
    Calls Try.prog 21 #[va, .func (Fn.func f) #[] caps] w (SomeIdx (E.any P) w) := by
  obtain ⟨a, cap, rfl, hcap, hcap2, hcell⟩ := hE
  have HE := Lib.hid hcell
  have HC := Lib.hid hc
  unfold Enters at hen
  have hcp : E.length ≤ 9223372036854775807 := by omega
  clear hcell hc
  generalize hn : E.length = n at *
  have HN := Lib.hid hn
  clear hn
  go_enter Try.func21, Try.ntmps21
  go_wp2
  go_loopw [5, 8] (fun _ i wr => ∃ k : Nat, k ≤ n ∧ i = .int .i64 (k : Int) ∧ (E.take k).any P = false ∧ Upd [] w wr) (fun _ i _ => n - (intOf i).toNat)
  case atStart => exact ⟨0, by omega, rfl, by simp, Upd.refl _ _⟩
  case round =>
    obtain ⟨k, hk, rfl, hany, hu⟩ := hrel
    rename World => wr
    by_cases hkn : k < n
    · have hkE : k < E.length := by rw [HN.out]; exact hkn
      have hx : E[k]? = some (E.getD k 0) := by simp [List.getD_eq_getElem?_getD, hkE]
      have hmem : E.getD k 0 ∈ E := List.mem_of_getElem? hx
      obtain ⟨g, off, rfl, hg, _, c0'⟩ := HE.out k _ hx
      have c0 := hu.was c0'
      have kc := HC.out wr _ hu hmem
      generalize E.getD k 0 = e at *
      have HM := Lib.hid hmem
      have HT := Lib.hid (any_take P E k _ hx)
      have HA := Lib.hid hany
      have hwr : IntKind.i64.wrap ((k : Int) + 1) = (k : Int) + 1 := IntWalk.i64_in _ (by omega)
      clear c0'
      clear hx hmem hany
      cases hp : P e with
      | false =>
        rw [hp] at kc
        have HP := Lib.hid hp
        clear hp
        go_wp2_with (first
          | ((with_reducible refine (kc).mono ?_); rintro e w2 ⟨rfl, hu2⟩)
          | fail)
        go_roundw
        case rel => exact ⟨k + 1, by omega, by go_num, by rw [HT.out, HA.out, HP.out]; rfl, hu.trans hu2⟩
        case measure => simp [intOf]; omega
      | true =>
        rw [hp] at kc
        have HP := Lib.hid hp
        clear hp
        go_wp2_with (first
          | ((with_reducible refine (kc).mono ?_); rintro e w2 ⟨rfl, hu2⟩)
          | fail)
        go_ret
        refine ⟨(k : Int), rfl, ?_, hu.trans hu2⟩
        rw [List.any_eq_true.2 ⟨_, HM.out, HP.out⟩]
        simp
    · obtain rfl : k = n := by omega
      have hfin : E.any P = false := by rw [← hany, ← HN.out, List.take_length]
      have HF := Lib.hid hfin
      clear hany hfin
      go_wp2
      go_ret
      exact ⟨-1, rfl, by rw [HF.out]; rfl, hu⟩
theorem conE_any (w : World) (va : Value) (E : List Ed) (P : Ed → Bool) (f : FuncId) (caps : Array Value) (hE : SlE w va E) (hen : Enters f)
    (hc : ∀ (W : World) (e : Ed), Upd [] w W → e ∈ E → Calls Try.prog f (#[e.val] ++ caps) W fun r w' => r = .returned (.bool (P e)) ∧ Upd [] W w') :
    Calls Try.prog 22 #[va, .func (Fn.func f) #[] caps] w fun r w' => r = .returned (.bool (E.any P)) ∧ Upd [] w w' := by
  have k := idxE_any w va E P f caps hE hen hc
  generalize E.any P = b at *
  go_enter Try.func22, Try.ntmps22
  go_wp2_with (first
    | ((go_at_call 28; (with_reducible refine (k).mono ?_)); rintro e w1 ⟨i, rfl, hi, hu⟩)
    | fail)
  go_ret
  exact ⟨ret_bool (by rw [← hi]), hu⟩
theorem conI_any (w : World) (va : Value) (E : List Int) (P : Int → Bool) (f : FuncId) (caps : Array Value) (hE : SlI w [] va E) (hen : Enters f)
    (hc : ∀ (W : World) (e : Int), Upd [] w W → e ∈ E → Calls Try.prog f (#[.int .i64 e] ++ caps) W fun r w' => r = .returned (.bool (P e)) ∧ Upd [] W w') :
    Calls Try.prog 12 #[va, .func (Fn.func f) #[] caps] w fun r w' => r = .returned (.bool (E.any P)) ∧ Upd [] w w' := by
  have k := idxI_any w va E P f caps hE hen hc
  generalize E.any P = b at *
  go_enter Try.func12, Try.ntmps12
  go_wp2_with (first
    | ((go_at_call 21; (with_reducible refine (k).mono ?_)); rintro e w1 ⟨i, rfl, hi, hu⟩)
    | fail)
  go_ret
  exact ⟨ret_bool (by rw [← hi]), hu⟩
end Go.Proofs.Ytaeipfpdimjfoaa
