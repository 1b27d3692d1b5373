/-
  An order of things behind an interface: its contract. Conditions: those of each lemma.
-/
import Derived.Test.YtighgbdijagolaaKarDef
import Derived.Test.YtighgbdijagolaaNest
set_option linter.unusedVariables false
set_option linter.unusedSimpArgs false
namespace Go.Proofs.Ytighgbdijagolaa
open Go Go.RowKit

/-- An order of things behind an interface; q tells how often it was asked. -/
structure OrdK where
  ty : TypeId
  p : Nat
  rd : List Nat
  wr : List Nat
  lt : Int → Int → Bool
  dom : Int → Prop
  at_ : World → Nat → Prop
  sub : ∀ x, x ∈ wr → x ∈ rd
  low : ∀ {w : World} {q : Nat}, at_ w q → ∀ x, x ∈ rd → x < w.heap.size
  upd : ∀ {w w' : World} {S : List Nat} {q : Nat}, at_ w q → Upd S w w' → (∀ x, x ∈ S → x ∉ rd) → at_ w' q
  asym : ∀ a b, lt a b = true → lt b a = false
  ahead : ∀ {w : World} {q : Nat} (x y : Int), at_ w q → dom x → dom y → q ≤ 1000000 → Mth ty p "Ahead" w (fun v => #[v, .int .i64 x, .int .i64 y]) fun w e w' => e = .returned (.bool (lt x y)) ∧ at_ w' (q + 1) ∧ Upd wr w w'
/-- What keeps a forest and an order apart. -/
structure Apart (O : OrdK) (bt ba n : Nat) (S : CS) : Prop where
  bt : bt ∉ O.rd
  ba : ba ∉ O.rd
  blk : ∀ g, g ∈ S.blk n → g ∉ O.rd
theorem Apart.rd {O : OrdK} {bt ba n : Nat} {S : CS} (h : Apart O bt ba n S) : ∀ g, g ∈ ba :: S.blk n → g ∉ O.rd := fun g hg => by
  rcases List.mem_cons.1 hg with rfl | hg
  · exact h.ba
  · exact h.blk g hg
theorem Apart.wr {O : OrdK} {bt ba n : Nat} {S : CS} (h : Apart O bt ba n S) : bt ∉ O.wr ∧ ba ∉ O.wr ∧ ∀ g, g ∈ S.blk n → g ∉ O.wr :=
  ⟨fun hm => h.bt (O.sub _ hm), fun hm => h.ba (O.sub _ hm), fun g hg hm => h.blk g hg (O.sub _ hm)⟩
end Go.Proofs.Ytighgbdijagolaa
