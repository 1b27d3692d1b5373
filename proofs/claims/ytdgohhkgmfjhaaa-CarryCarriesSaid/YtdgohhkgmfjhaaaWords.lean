/-
  Lists of integers in memory, and the document's Same. Conditions: those of each lemma.
-/
import Derived.Test.YtdgohhkgmfjhaaaRow
import Derived.Test.YtdgohhkgmfjhaaaProg
set_option linter.unusedVariables false
set_option linter.unusedSimpArgs false
namespace Go.Proofs.Ytdgohhkgmfjhaaa
open Go Go.RowKit

theorem find_here {α : Type} (f : α → Bool) (l : List α) (k : Nat) (h : α) (hn : (l.take k).find? f = none) (hk : l[k]? = some h) (hf : f h = true) : l.find? f = some h := by
  induction l generalizing k with
  | nil => simp at hk
  | cons x r ih =>
    cases k with
    | zero => simp at hk; subst hk; simp [hf]
    | succ k =>
      simp only [List.take_succ_cons, List.find?_cons] at hn ⊢
      split at hn
      · cases hn
      · exact ih k hn (by simpa using hk)
theorem find_past {α : Type} (f : α → Bool) (l : List α) (k : Nat) (h : α) (hn : (l.take k).find? f = none) (hk : l[k]? = some h) (hf : f h = false) : (l.take (k + 1)).find? f = none := by
  rw [List.take_add_one, hk, List.find?_append, hn]
  simp [hf]

def ov (o : Option Int) : Int := o.getD 0
def ob (o : Option Int) : Bool := o.isSome

theorem intInfo : (Try.prog.info? 3).map (fun i => (i.zero, i.size, i.bytes)) = some (some (.int .i64 0), 1, 8) := by kernel_rfl
def intsZ (l : List Int) : List Value := l.map (fun x => Value.int .i64 x)
theorem intsZ_append (a b : List Int) : intsZ (a ++ b) = intsZ a ++ intsZ b := by unfold intsZ; rw [List.map_append]
theorem intsZ_len (a : List Int) : (intsZ a).length = a.length := by unfold intsZ; simp
theorem intsZ_one (l : List Int) : ∀ u ∈ intsZ l, u.oneCell' = true := by
  intro u hu; unfold intsZ at hu; simp only [List.mem_map] at hu; obtain ⟨x, _, rfl⟩ := hu; rfl
/-- A slice of the call's own, of these integers. -/
def OwnZ (w : World) (base : Nat) (v : Value) (l : List Int) : Prop := w.ownsRow base 3 1 v l.length (intsZ l)
theorem OwnZ.lst {w : World} {base : Nat} {v : Value} {l : List Int} (h : OwnZ w base v l) : LstAt w base v l.length (intsZ l) := LstAt.of_owns h
theorem same_len_ne {a b : List Int} (h : a.length ≠ b.length) : a ≠ b := fun e => h (by rw [e])
theorem same_at {a b : List Int} (hl : a.length = b.length) (h : ∀ k, k < a.length → a.getD k 0 = b.getD k 0) : a = b := by
  apply List.ext_getElem hl
  intro i h1 h2
  have := h i h1
  simpa [List.getD_eq_getElem?_getD, h1, h2] using this

set_option maxHeartbeats 1000000 in
theorem rsame_any (w : World) (lo : Nat) (va vb : Value) (za zb : List Int) (ha : LstAt w lo va za.length (intsZ za)) (hb : LstAt w lo vb zb.length (intsZ zb)) :
    Calls Try.prog 25 #[va, vb] w fun e w' => e = .returned (.bool (decide (za = zb))) ∧ ∃ k, w' = w.drewN k := by
  obtain ⟨a, ca, rfl, hca, hla, hpa⟩ := ha.open
  obtain ⟨b, cb, rfl, hcb, hlb, hpb⟩ := hb.open
  have HA := Lib.hid hpa
  have HB := Lib.hid hpb
  clear hpa hpb ha hb
  by_cases hl : za.length = zb.length
  · have hl' : ((za.length : Int) != (zb.length : Int)) = false := by rw [hl]; simp
    generalize hlen : za.length = len at *
    have HLEN := Lib.hid (And.intro hlen hl)
    have hll : zb.length = len := hl.symm
    rw [hll] at *
    clear hl hll hlen hl'
    go_enter Try.func25, Try.ntmps25
    go_wp2
    go_loopw [13] (fun i wr => ∃ k : Nat, k ≤ len ∧ i = .int .i64 (k : Int) ∧ (∀ j, j < k → za.getD j 0 = zb.getD j 0) ∧ ∃ d, wr = w.drewN d) (fun i _ => len - (intOf i).toNat)
    case atStart => exact ⟨0, by omega, rfl, fun j hj => by omega, 0, rfl⟩
    case round =>
      obtain ⟨k, hk, rfl, he, d, rfl⟩ := hrel
      have HE := Lib.hid he
      clear he
      by_cases hlt : k < len
      · obtain ⟨ga, rfl, _, _, hxa⟩ := HA.out (by omega)
        obtain ⟨gb, rfl, _, _, hxb⟩ := HB.out (by have := HLEN.out.2; omega)
        have c1 := hxa k (.int .i64 (za.getD k 0)) (by unfold intsZ; simp [List.getD_eq_getElem?_getD, HLEN.out.1, hlt])
        have c2 := hxb k (.int .i64 (zb.getD k 0)) (by unfold intsZ; simp [List.getD_eq_getElem?_getD, ← HLEN.out.2, hlt])
        have HP : Hid (∀ j, j < k + 1 → za.getD k 0 = zb.getD k 0 → za.getD j 0 = zb.getD j 0) := fun j hj e => by
          rcases (by omega : j < k ∨ j = k) with h | h
          · exact HE.out j h
          · rw [h]; exact e
        have HN : Hid (za.getD k 0 ≠ zb.getD k 0 → ¬ za = zb) := fun e1 e2 => e1 (by rw [e2])
        clear hxa hxb
        generalize za.getD k 0 = x1 at *
        generalize zb.getD k 0 = x2 at *
        by_cases hxx : x1 = x2
        · have b1 : (x1 != x2) = false := by simpa using hxx
          have HXX := Lib.hid hxx
          clear hxx
          go_wp2
          go_quiet (fail)
          go_wp2
          go_roundw
          case rel => exact ⟨k + 1, by omega, by go_num, fun j hj => HP.out j hj HXX.out, _, rfl⟩
          case measure => simp [intOf]; omega
        · have b1 : (x1 != x2) = true := by simpa using hxx
          have HXX := Lib.hid (HN.out hxx)
          clear hxx
          go_wp2
          go_quiet (fail)
          go_wp2
          go_ret
          exact ⟨ret_bool (by simp [HXX.out]), _, by rw [World.drewN_drewN]⟩
      · obtain rfl : k = len := by omega
        have HE2 := Lib.hid (same_at (by rw [HLEN.out.1, HLEN.out.2]) (fun j hj => HE.out j (by rw [← HLEN.out.1]; exact hj)))
        go_wp2
        go_ret
        exact ⟨ret_bool (by simp [HE2.out]), _, rfl⟩
  · have hl' : ((za.length : Int) != (zb.length : Int)) = true := by simp; omega
    have hne := Lib.hid (same_len_ne hl)
    clear hl
    go_enter Try.func25, Try.ntmps25
    go_wp2
    go_ret
    exact ⟨ret_bool (by simp [hne.out]), 0, rfl⟩


theorem rsame_true (w : World) (lo : Nat) (va vb : Value) (z : List Int) (ha : LstAt w lo va z.length (intsZ z)) (hb : LstAt w lo vb z.length (intsZ z)) :
    Calls Try.prog 25 #[va, vb] w fun e w' => e = .returned (.bool true) ∧ ∃ k, w' = w.drewN k :=
  (rsame_any w lo va vb z z ha hb).mono fun e w' ⟨he, h⟩ => ⟨by rw [he, decide_eq_true rfl], h⟩

theorem own_slice {w : World} {base size n : Nat} {e : TypeId} {v : Value} {xs : List Value} (h : w.ownsRow base e size v n xs) : ∃ a cap, v = .slice a n cap ∧ cap ≤ 9223372036854775807 := by
  rcases h.2 with ⟨rfl, rfl⟩ | ⟨g, cap, cur, rfl, _, _, _, hc, _⟩
  · exact ⟨none, 0, rfl, by omega⟩
  · exact ⟨_, cap, rfl, by unfold maxLen at hc; exact hc⟩
end Go.Proofs.Ytdgohhkgmfjhaaa
