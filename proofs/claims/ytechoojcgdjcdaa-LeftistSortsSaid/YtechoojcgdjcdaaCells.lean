/-
  Slots that are in heaps (package cells): what its memory holds, told as the document's nest; what its functions that read alone do. Conditions: those of each lemma.
-/
import Derived.Test.YtechoojcgdjcdaaEnt
import Derived.Test.YtechoojcgdjcdaaNames
import Derived.Test.YtechoojcgdjcdaaMap
set_option linter.unusedVariables false
set_option linter.unusedSimpArgs false
namespace Go.Proofs.Ytechoojcgdjcdaa
open Go Go.RowKit

def clCell (raw : Nat → Cl) (j : Nat) : Value := if j % 3 = 0 then .int .i64 (raw (j / 3)).i else if j % 3 = 1 then .int .i64 (raw (j / 3)).k else .int .u64 (raw (j / 3)).s
theorem clCell0 (raw : Nat → Cl) (x : Nat) : clCell raw (x * 3) = .int .i64 (raw x).i := by unfold clCell; rw [if_pos (by omega), show x * 3 / 3 = x by omega]
theorem clCell1 (raw : Nat → Cl) (x : Nat) : clCell raw (x * 3 + 1) = .int .i64 (raw x).k := by unfold clCell; rw [if_neg (by omega), if_pos (by omega), show (x * 3 + 1) / 3 = x by omega]
theorem clCell2 (raw : Nat → Cl) (x : Nat) : clCell raw (x * 3 + 2) = .int .u64 (raw x).s := by unfold clCell; rw [if_neg (by omega), if_neg (by omega), show (x * 3 + 2) / 3 = x by omega]
/-- How many are in each heap, as the map has it. -/
def manyF (A : NS) (h : Int) : Option Int := if 0 < lenN A h then some (lenN A h : Int) else none
theorem manyF_get (A : NS) (h : Int) : (manyF A h).getD 0 = lenN A h := by unfold manyF; split; rfl; simp; omega

structure CM (w : World) (c ca nm mb g cap : Nat) (l : List Int) (rt dp : Nat → Nat) (raw : Nat → Cl) (A : NS) (st : Nat) : Prop where
  head : RowAt w c 39 4 (fun j => [Value.int .i64 (st : Int), .slice (some ⟨ca, 0, none⟩) A.cs.length A.cs.length, .pointer (some ⟨nm, 0, none⟩), .map (some mb)].getD j undef)
  row : RowAt w ca 122 (A.cs.length * 3) (clCell raw)
  nms : NmAt w nm g cap l
  many : MapI w mb (manyF A)
  nok : NmOk l rt dp
  ok : A.Ok
  st62 : st ≤ 4611686018427387904
  rel : ∀ x, x < A.cs.length → (raw x = Cl.z ∧ A.c x = Cl.z) ∨ (1 ≤ (raw x).i ∧ (raw x).i < l.length ∧ A.c x = ⟨rt (raw x).i.toNat, (raw x).k, (raw x).s⟩)
  hlen : A.hs.length = l.length
  has : ∀ i, 1 ≤ i → i < l.length → A.hs.getD i false = decide (l.getD i 0 = i)
  sep : (c ≠ ca ∧ c ≠ nm ∧ c ≠ mb ∧ c ≠ g) ∧ (ca ≠ nm ∧ ca ≠ mb ∧ ca ≠ g) ∧ (nm ≠ mb ∧ mb ≠ g)
theorem CM.upd {w w' : World} {S : List Nat} {c ca nm mb g cap : Nat} {l : List Int} {rt dp : Nat → Nat} {raw : Nat → Cl} {A : NS} {st : Nat} (h : CM w c ca nm mb g cap l rt dp raw A st) (hu : Upd S w w') (hS : ∀ x, x ∈ S → x ∉ [c, ca, nm, mb, g]) : CM w' c ca nm mb g cap l rt dp raw A st :=
  ⟨h.head.upd hu (fun m => hS _ m (by simp)), h.row.upd hu (fun m => hS _ m (by simp)), h.nms.upd hu (fun m => hS _ m (by simp)) (fun m => hS _ m (by simp)), h.many.upd hu (fun m => hS _ m (by simp)), h.nok, h.ok, h.st62, h.rel, h.hlen, h.has, h.sep⟩
/-- The memory of a nest's cells, by its blocks F: the document's nest A, and how many steps were counted. -/
def CellsAt (w : World) (c : Nat) (F : List Nat) (A : NS) (st : Nat) : Prop := ∃ ca nm mb g cap l rt dp raw, CM w c ca nm mb g cap l rt dp raw A st ∧ F = [c, ca, nm, mb, g]
theorem CellsAt.upd {w w' : World} {S F : List Nat} {c : Nat} {A : NS} {st : Nat} (h : CellsAt w c F A st) (hu : Upd S w w') (hS : ∀ x, x ∈ S → x ∉ F) : CellsAt w' c F A st := by
  obtain ⟨ca, nm, mb, g, cap, l, rt, dp, raw, h, rfl⟩ := h
  exact ⟨ca, nm, mb, g, cap, l, rt, dp, raw, h.upd hu hS, rfl⟩
theorem CellsAt.upd0 {w w' : World} {F : List Nat} {c : Nat} {A : NS} {st : Nat} (h : CellsAt w c F A st) (hu : Upd [] w w') : CellsAt w' c F A st := h.upd hu (by simp)
theorem CellsAt.ok {w : World} {F : List Nat} {c : Nat} {A : NS} {st : Nat} (h : CellsAt w c F A st) : A.Ok := by
  obtain ⟨ca, nm, mb, g, cap, l, rt, dp, raw, h, rfl⟩ := h
  exact h.ok
theorem CellsAt.st62 {w : World} {F : List Nat} {c : Nat} {A : NS} {st : Nat} (h : CellsAt w c F A st) : st ≤ 4611686018427387904 := by
  obtain ⟨ca, nm, mb, g, cap, l, rt, dp, raw, h, rfl⟩ := h
  exact h.st62
theorem CellsAt.lt {w : World} {F : List Nat} {c : Nat} {A : NS} {st : Nat} (h : CellsAt w c F A st) : ∀ x, x ∈ F → x < w.heap.size := by
  obtain ⟨ca, nm, mb, g, cap, l, rt, dp, raw, h, rfl⟩ := h
  intro x hx
  have := h.head.lt; have := h.row.lt; have := h.nms.lt; have := h.many.lt
  simp at hx
  omega
theorem CellsAt.mem {w : World} {F : List Nat} {c : Nat} {A : NS} {st : Nat} (h : CellsAt w c F A st) : c ∈ F := by
  obtain ⟨ca, nm, mb, g, cap, l, rt, dp, raw, h, rfl⟩ := h
  simp
/-- What becomes of a nest's blocks: only they may have turned, and new ones may have come. -/
def Goes (F : List Nat) (w w' : World) (P : List Nat → Prop) : Prop := ∃ F', P F' ∧ Upd F w w' ∧ ∀ x, x ∈ F' → x ∈ F ∨ w.heap.size ≤ x
theorem Goes.stay {F : List Nat} {w w' : World} {P : List Nat → Prop} (h : P F) (hu : Upd F w w') : Goes F w w' P := ⟨F, h, hu, fun x hx => Or.inl hx⟩
theorem Goes.upd0 {F : List Nat} {w w' w'' : World} {P Q : List Nat → Prop} (h : Goes F w w' P) (hu : Upd [] w' w'') (hP : ∀ F', P F' → Q F') : Goes F w w'' Q := by
  obtain ⟨F', h1, h2, h3⟩ := h
  exact ⟨F', hP _ h1, h2.then hu, h3⟩
theorem Goes.pre {F : List Nat} {w0 w w' : World} {P : List Nat → Prop} (h : Goes F w w' P) (hu : Upd [] w0 w) : Goes F w0 w' P := by
  obtain ⟨F', h1, h2, h3⟩ := h
  exact ⟨F', h1, (hu.mono (by simp)).trans h2, fun x hx => by rcases h3 x hx with h' | h'; exact Or.inl h'; exact Or.inr (Nat.le_trans hu.size h')⟩

section
variable {w : World} {c ca nm mb g cap : Nat} {l : List Int} {rt dp : Nat → Nat} {raw : Nat → Cl} {A : NS} {st : Nat}
theorem CM.c0 (h : CM w c ca nm mb g cap l rt dp raw A st) : w.cell? ⟨c, 0, none⟩ = some (.int .i64 (st : Int)) := h.head.cellAt 0 (by omega) rfl
theorem CM.c1 (h : CM w c ca nm mb g cap l rt dp raw A st) : w.cell? ⟨c, 1, none⟩ = some (.slice (some ⟨ca, 0, none⟩) A.cs.length A.cs.length) := h.head.cellAt 1 (by omega) rfl
theorem CM.c2 (h : CM w c ca nm mb g cap l rt dp raw A st) : w.cell? ⟨c, 2, none⟩ = some (.pointer (some ⟨nm, 0, none⟩)) := h.head.cellAt 2 (by omega) rfl
theorem CM.c3 (h : CM w c ca nm mb g cap l rt dp raw A st) : w.cell? ⟨c, 3, none⟩ = some (.map (some mb)) := h.head.cellAt 3 (by omega) rfl
theorem CM.in_raw (h : CM w c ca nm mb g cap l rt dp raw A st) {x : Nat} (hx : x < A.cs.length) : decide (0 < (A.c x).i) = decide (0 < (raw x).i) := by
  rcases h.rel x hx with ⟨h1, h2⟩ | ⟨h1, h2, h3⟩
  · rw [h1, h2]
  · have := h.nok.rt_in (i := (raw x).i.toNat) (by omega) (by omega)
    rw [h3, decide_eq_decide]
    simp only
    omega
theorem CM.hasZ (h : CM w c ca nm mb g cap l rt dp raw A st) (x : Int) : hasZ l x = hasN A x := by
  unfold Go.Proofs.Ytechoojcgdjcdaa.hasZ hasN
  rw [h.hlen]
  by_cases hx : 0 < x ∧ x < l.length
  · rw [h.has x.toNat (by omega) (by omega), Bool.eq_iff_iff]
    simp only [Bool.and_eq_true, decide_eq_true_eq, beq_iff_eq]
    constructor
    · rintro ⟨_, h2⟩; exact ⟨⟨by omega, by omega⟩, by omega⟩
    · rintro ⟨_, h2⟩; exact ⟨⟨by omega, by omega⟩, by omega⟩
  · have e1 : (decide (0 < x) && decide (x < (l.length : Int))) = false := by simp; omega
    have e2 : (decide (1 ≤ x) && decide (x < (l.length : Int))) = false := by simp; omega
    rw [e1, e2]; rfl
end

theorem ccap_any {w : World} {c st : Nat} {F : List Nat} {A : NS} (h : CellsAt w c F A st) :
    Calls Try.prog 17 #[.pointer (some ⟨c, 0, none⟩)] w fun e w' => e = .returned (.int .i64 (A.cs.length : Int)) ∧ w' = w := by
  obtain ⟨ca, nm, mb, g, cap, l, rt, dp, raw, h, rfl⟩ := h
  have c1 := h.c1
  have h1 := h.ok.c1
  clear h
  go_enter Try.func17, Try.ntmps17
  go_wp2
  go_ret
  exact ⟨rfl, rfl⟩
theorem csteps_any {w : World} {c st : Nat} {F : List Nat} {A : NS} (h : CellsAt w c F A st) :
    Calls Try.prog 18 #[.pointer (some ⟨c, 0, none⟩)] w fun e w' => e = .returned (.int .i64 (st : Int)) ∧ w' = w := by
  obtain ⟨ca, nm, mb, g, cap, l, rt, dp, raw, h, rfl⟩ := h
  have c0 := h.c0
  clear h
  go_enter Try.func18, Try.ntmps18
  go_wp2
  go_ret
  exact ⟨rfl, rfl⟩
theorem chas_any {w : World} {c st : Nat} {F : List Nat} {A : NS} (h : CellsAt w c F A st) (x : Int) :
    Calls Try.prog 19 #[.pointer (some ⟨c, 0, none⟩), .int .i64 x] w fun e w' => e = .returned (.bool (hasN A x)) ∧ w' = w := by
  obtain ⟨ca, nm, mb, g, cap, l, rt, dp, raw, h, rfl⟩ := h
  have c2 := h.c2
  have k := nhas_any nm g cap l x w h.nms h.nok.len2
  rw [h.hasZ] at k
  clear h
  go_enter Try.func19, Try.ntmps19
  go_wp2_with ((go_at_call 43; (with_reducible refine (k).mono ?_); rintro e w9 ⟨rfl, hw9⟩; rw [hw9]; clear hw9 w9))
  go_ret
  exact ⟨rfl, rfl⟩
theorem clen_any {w : World} {c st : Nat} {F : List Nat} {A : NS} (h : CellsAt w c F A st) (x : Int) (hx : -9223372036854775808 ≤ x ∧ x ≤ 9223372036854775807) :
    Calls Try.prog 20 #[.pointer (some ⟨c, 0, none⟩), .int .i64 x] w fun e w' => e = .returned (.int .i64 (lenN A x : Int)) ∧ w' = w := by
  obtain ⟨ca, nm, mb, g, cap, l, rt, dp, raw, h, rfl⟩ := h
  have c3 := h.c3
  have hl := h.many.look x hx
  rw [manyF_get] at hl
  clear h
  go_enter Try.func20, Try.ntmps20
  go_wp2
  go_ret
  exact ⟨rfl, rfl⟩
theorem cthere_any {w : World} {c st : Nat} {F : List Nat} {A : NS} (h : CellsAt w c F A st) (x : Int) :
    Calls Try.prog 84 #[.pointer (some ⟨c, 0, none⟩), .int .i64 x] w fun e w' => e = .returned (.bool (slotN A x)) ∧ w' = w := by
  obtain ⟨ca, nm, mb, g, cap, l, rt, dp, raw, h, rfl⟩ := h
  have c1 := h.c1
  have h1 := h.ok.c1
  clear h
  unfold slotN
  by_cases h0 : 0 ≤ x
  · go_enter Try.func84, Try.ntmps84
    go_wp2
    go_ret
    exact ⟨ret_bool (by simp [h0]), rfl⟩
  · go_enter Try.func84, Try.ntmps84
    go_wp2
    go_ret
    exact ⟨ret_bool (by simp; omega), rfl⟩
theorem cin_any {w : World} {c st : Nat} {F : List Nat} {A : NS} (h : CellsAt w c F A st) (x : Int) :
    Calls Try.prog 71 #[.pointer (some ⟨c, 0, none⟩), .int .i64 x] w fun e w' => e = .returned (.bool (inN A x)) ∧ w' = w := by
  have k := cthere_any h x
  obtain ⟨ca, nm, mb, g, cap, l, rt, dp, raw, h, rfl⟩ := h
  have c1 := h.c1
  have h1 := h.ok.c1
  unfold inN
  cases hs : slotN A x
  · rw [hs] at k
    clear h
    go_enter Try.func71, Try.ntmps71
    go_wp2_with ((go_at_call 84; (with_reducible refine (k).mono ?_); rintro e w9 ⟨rfl, hw9⟩; rw [hw9]; clear hw9 w9))
    go_ret
    exact ⟨rfl, rfl⟩
  · rw [hs] at k
    have hx := (slotN_iff _ _).1 hs
    obtain ⟨i, rfl⟩ : ∃ i : Nat, x = i := ⟨x.toNat, by omega⟩
    have hi : i < A.cs.length := by omega
    have d0 := h.row.cellAt (i * 3) (by omega) (clCell0 raw i)
    simp only [Int.toNat_natCast]
    rw [h.in_raw hi]
    clear h hs
    go_enter Try.func71, Try.ntmps71
    go_wp2_with ((go_at_call 84; (with_reducible refine (k).mono ?_); rintro e w9 ⟨rfl, hw9⟩; rw [hw9]; clear hw9 w9))
    go_ret
    exact ⟨ret_bool (by simp), rfl⟩
end Go.Proofs.Ytechoojcgdjcdaa
