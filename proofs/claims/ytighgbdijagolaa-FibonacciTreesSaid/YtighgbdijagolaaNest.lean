/-
  A nest of heaps of whatever kind, as those see it who call it through an interface: its contracts. Conditions: those of each lemma.
-/
import Derived.Test.YtighgbdijagolaaGd
import Derived.Test.YtighgbdijagolaaGr
import Derived.Test.YtighgbdijagolaaRefN4
import Derived.Test.YtighgbdijagolaaGp
import Derived.Test.YtighgbdijagolaaGq
import Derived.Deep.RegionLaw
set_option linter.unusedVariables false
set_option linter.unusedSimpArgs false
namespace Go.Proofs.Ytighgbdijagolaa
open Go Go.RowKit

/-- Something done: its kind, a heap, a slot (or heap), a key and its number. -/
structure AC where
  kind : Int
  h : Int
  x : Int
  k : Int
  s : Int
structure AC.Ok (a : AC) : Prop where
  h : -9223372036854775808 ≤ a.h ∧ a.h ≤ 9223372036854775807
  x : -9223372036854775808 ≤ a.x ∧ a.x ≤ 9223372036854775807
  k : -9223372036854775808 ≤ a.k ∧ a.k ≤ 9223372036854775807 ∧ 0 ≤ a.s ∧ a.s ≤ 18446744073709551615
def AC.v (a : AC) : Value := .agg #[.int .i64 a.kind, .int .i64 a.h, .int .i64 a.x, .int .i64 a.k, .int .u64 a.s]
def extN (A : NS) (h : Int) : NS := match minN A h with | some m => dropN A m | none => A
/-- The document's nest behind it. -/
def doN (A : NS) (a : AC) : NS :=
  if a.kind = 0 then makeN A else if a.kind = 1 then putN A a.h a.x a.k a.s else if a.kind = 3 then extN A a.h else if a.kind = 4 then lowN A a.x a.k a.s else if a.kind = 5 then dropN A a.x else if a.kind = 6 then joinN A a.h a.x else A
theorem extN_ok {A : NS} (h : A.Ok) (g : Int) : (extN A g).Ok := by
  unfold extN; split
  · exact dropN_ok h _
  · exact h
theorem doN_ok {A : NS} (h : A.Ok) {a : AC} (ha : a.Ok) : (doN A a).Ok := by
  unfold doN
  split; exact makeN_ok h
  split; exact putN_ok h _ _ _ _ ha.k
  split; exact extN_ok h _
  split; exact lowN_ok h _ _ _ ha.k
  split; exact dropN_ok h _
  split; exact joinN_ok h _ _
  exact h
def Enters (f : FuncId) : Prop := ∀ (args : Array Value) (W : World), (callFunc f args).run Try.prog W = .ok (.enter f args) W
def Mth (ty : TypeId) (p : Nat) (name : String) (w : World) (mk : Value → Array Value) (Q : World → Ending → World → Prop) : Prop :=
  ∃ f v, Enters f ∧ ∀ W, Upd [] w W → (method 282 ty (.pointer (some ⟨p, 0, none⟩)) name).run Try.prog W = .ok (f, v) W ∧ Calls Try.prog f (mk v) W (Q W)
theorem Mth.now {ty : TypeId} {p : Nat} {name : String} {w : World} {mk : Value → Array Value} {Q : World → Ending → World → Prop} (h : Mth ty p name w mk Q) :
    ∃ f v, Enters f ∧ (method 282 ty (.pointer (some ⟨p, 0, none⟩)) name).run Try.prog w = .ok (f, v) w ∧ Calls Try.prog f (mk v) w (Q w) := by
  obtain ⟨f, v, he, h⟩ := h
  exact ⟨f, v, he, h w (Upd.refl _ _)⟩
structure NestK where
  ty : TypeId
  G : Type
  at_ : World → Nat → List Nat → NS → Nat → G → Prop
  cost : NS → AC → G → Nat
  next : NS → AC → G → G
  upd : ∀ {w w' : World} {p : Nat} {F S : List Nat} {A : NS} {st : Nat} {g : G}, at_ w p F A st g → Upd S w w' → (∀ x, x ∈ S → x ∉ F) → at_ w' p F A st g
  lt : ∀ {w : World} {p : Nat} {F : List Nat} {A : NS} {st : Nat} {g : G}, at_ w p F A st g → ∀ x, x ∈ F → x < w.heap.size
  ok : ∀ {w : World} {p : Nat} {F : List Nat} {A : NS} {st : Nat} {g : G}, at_ w p F A st g → A.Ok
  st62 : ∀ {w : World} {p : Nat} {F : List Nat} {A : NS} {st : Nat} {g : G}, at_ w p F A st g → st ≤ 4611686018427387904
  idle : ∀ (A : NS) (a : AC) (g : G), a.kind ≠ 0 ∧ a.kind ≠ 1 ∧ a.kind ≠ 2 ∧ a.kind ≠ 3 ∧ a.kind ≠ 4 ∧ a.kind ≠ 5 ∧ a.kind ≠ 6 → cost A a g = 0 ∧ next A a g = g
  make : ∀ {w : World} {p : Nat} {F : List Nat} {A : NS} {st : Nat} {g : G} (h x k s : Int), at_ w p F A st g → Mth ty p "Make" w (fun v => #[v]) fun w e w' => e = .returned (.int .i64 (makeV A)) ∧ Goes F w w' (fun F' => at_ w' p F' (makeN A) (satS st (cost A ⟨0, h, x, k, s⟩ g)) (next A ⟨0, h, x, k, s⟩ g))
  insert : ∀ {w : World} {p : Nat} {F : List Nat} {A : NS} {st : Nat} {g : G} (a : AC), a.Ok → a.kind = 1 → at_ w p F A st g → Mth ty p "Insert" w (fun v => #[v, .int .i64 a.h, .int .i64 a.x, .agg #[.int .i64 a.k, .int .u64 a.s]]) fun w e w' => e = .returned (.bool (putB A a.h a.x)) ∧ Goes F w w' (fun F' => at_ w' p F' (putN A a.h a.x a.k a.s) (satS st (cost A a g)) (next A a g))
  min : ∀ {w : World} {p : Nat} {F : List Nat} {A : NS} {st : Nat} {g : G} (a : AC), a.Ok → a.kind = 2 → at_ w p F A st g → Mth ty p "Min" w (fun v => #[v, .int .i64 a.h]) fun w e w' => e = .returned (.tuple #[.int .i64 (slotV (minN A a.h)), .bool (minN A a.h).isSome]) ∧ Goes F w w' (fun F' => at_ w' p F' A (satS st (cost A a g)) (next A a g))
  extract : ∀ {w : World} {p : Nat} {F : List Nat} {A : NS} {st : Nat} {g : G} (a : AC), a.Ok → a.kind = 3 → at_ w p F A st g → Mth ty p "Extract" w (fun v => #[v, .int .i64 a.h]) fun w e w' => e = .returned (.tuple #[.int .i64 (slotV (minN A a.h)), .bool (minN A a.h).isSome]) ∧ Goes F w w' (fun F' => at_ w' p F' (extN A a.h) (satS st (cost A a g)) (next A a g))
  decrease : ∀ {w : World} {p : Nat} {F : List Nat} {A : NS} {st : Nat} {g : G} (a : AC), a.Ok → a.kind = 4 → at_ w p F A st g → Mth ty p "Decrease" w (fun v => #[v, .int .i64 a.x, .agg #[.int .i64 a.k, .int .u64 a.s]]) fun w e w' => e = .returned (.bool (lowB A a.x a.k a.s)) ∧ Goes F w w' (fun F' => at_ w' p F' (lowN A a.x a.k a.s) (satS st (cost A a g)) (next A a g))
  delete : ∀ {w : World} {p : Nat} {F : List Nat} {A : NS} {st : Nat} {g : G} (a : AC), a.Ok → a.kind = 5 → at_ w p F A st g → Mth ty p "Delete" w (fun v => #[v, .int .i64 a.x]) fun w e w' => e = .returned (.bool (inN A a.x)) ∧ Goes F w w' (fun F' => at_ w' p F' (dropN A a.x) (satS st (cost A a g)) (next A a g))
  meld : ∀ {w : World} {p : Nat} {F : List Nat} {A : NS} {st : Nat} {g : G} (a : AC), a.Ok → a.kind = 6 → at_ w p F A st g → Mth ty p "Meld" w (fun v => #[v, .int .i64 a.h, .int .i64 a.x]) fun w e w' => e = .returned (.bool (joinB A a.h a.x)) ∧ Goes F w w' (fun F' => at_ w' p F' (joinN A a.h a.x) (satS st (cost A a g)) (next A a g))
  has : ∀ {w : World} {p : Nat} {F : List Nat} {A : NS} {st : Nat} {g : G} (x : Int), at_ w p F A st g → Mth ty p "Has" w (fun v => #[v, .int .i64 x]) fun w e w' => e = .returned (.bool (hasN A x)) ∧ w' = w
  len : ∀ {w : World} {p : Nat} {F : List Nat} {A : NS} {st : Nat} {g : G} (x : Int), -9223372036854775808 ≤ x ∧ x ≤ 9223372036854775807 → at_ w p F A st g → Mth ty p "Len" w (fun v => #[v, .int .i64 x]) fun w e w' => e = .returned (.int .i64 (lenN A x : Int)) ∧ w' = w
  entry : ∀ {w : World} {p : Nat} {F : List Nat} {A : NS} {st : Nat} {g : G} (x : Int), at_ w p F A st g → Mth ty p "Entry" w (fun v => #[v, .int .i64 x]) fun w e w' => e = .returned (.tuple #[.agg #[.int .i64 (if inN A x then (A.c x.toNat).k else 0), .int .u64 (if inN A x then (A.c x.toNat).s else 0)], .bool (inN A x)]) ∧ Upd [] w w'
  home : ∀ {w : World} {p : Nat} {F : List Nat} {A : NS} {st : Nat} {g : G} (x : Int), at_ w p F A st g → Mth ty p "Home" w (fun v => #[v, .int .i64 x]) fun w e w' => e = .returned (.tuple #[.int .i64 (if inN A x then (A.c x.toNat).i else 0), .bool (inN A x)]) ∧ Goes F w w' (fun F' => at_ w' p F' A st g)
  capacity : ∀ {w : World} {p : Nat} {F : List Nat} {A : NS} {st : Nat} {g : G}, at_ w p F A st g → Mth ty p "Capacity" w (fun v => #[v]) fun w e w' => e = .returned (.int .i64 (A.cs.length : Int)) ∧ w' = w
  steps : ∀ {w : World} {p : Nat} {F : List Nat} {A : NS} {st : Nat} {g : G}, at_ w p F A st g → Mth ty p "Steps" w (fun v => #[v]) fun w e w' => e = .returned (.int .i64 (st : Int)) ∧ w' = w
end Go.Proofs.Ytighgbdijagolaa
