/-
  No cell of these rows narrows 'for every input' (looked for: loops, veiled, ifaces, maps, wideKeys, modest, calm, conditions, laid).
  DERIVED. THE GIVEN ROWS OF THIS SEAT. 13 by the template 'for every input the law returns true; each argument reads behind the call as it read before'; 0 by the template 'total and deterministic' (their statements: YtighgbdijagolaaTotals.lean).
  GIVEN WITH THE SEED: the statements are not yours to turn. If you find one false, say at which input.
  Laid BY PROGRAM, IN A SANDBOX (cutbox-rows.mjs): the forced cells as the released guide's own fill.sh prints them over the translation a336c903e5fb79c6… (all of the seat's roots in one cut). By AI agents, Wed Nov 11 2026. No macro, syntax, notation, axiom, sorry.
-/
import Derived.Test.YtighgbdijagolaaChecked
import GoSem.Claim
import GoSem.ClaimJoined
import GoSem.ClaimMapViews
import Derived.JoinedTies
import Derived.KernelRfl
namespace Go.Proofs.Ytighgbdijagolaa
/- THE CELL 'sum', in the pinned program and in every row, IS THE sha256 OF THE DUMP (.gsa) THAT YtighgbdijagolaaProg.lean LOADS. Nothing in Lean hashes anything: it is a label: what it is worth is what the hold of that sum in a sandbox is worth. -/
noncomputable def Try.pinned : Pinned := { name := "ytighgbdijagolaa", sum := "a336c903e5fb79c65011c0c8d1b025f9972b24a25c7c51db49727f541e5cdb5c", checked := Try.checked }
namespace Rows
def none {H : Type} : Left H := { results := [], args := [] }

/-- 'haycocklaw13.BinomialNew': WHATEVER THE INPUT: true; the input reads as it did. -/
def binomialNewSpec : ChangeSpec := { name := "binomialNew", fn := fun _ => fun
  | [d] => { results := [.lit (.bool true)], args := [d] }
  | _ => none }
def binomialNewRow : OpenClaim := { program := "ytighgbdijagolaa", sum := "a336c903e5fb79c65011c0c8d1b025f9972b24a25c7c51db49727f541e5cdb5c", func := "haycock/haycocklaw13.BinomialNew", spec := "binomialNew", unfollowed := true, recurses := true, apart := false }
def BinomialNewSaid : Prop := binomialNewRow.holds Try.pinned (OpenSpec.ofChange binomialNewSpec)

/-- ITS FALSE NEIGHBOUR: 'it returns false'. Refute it at one input. -/
def binomialNewWrong : ChangeSpec := { name := "binomialNew", fn := fun _ => fun
  | [d] => { results := [.lit (.bool false)], args := [d] }
  | _ => none }
def BinomialNewWrongFalsely : Prop := binomialNewRow.holds Try.pinned (OpenSpec.ofChange binomialNewWrong)

/-- 'haycocklaw13.BinomialSorts': WHATEVER THE INPUT: true; the input reads as it did. -/
def binomialSortsSpec : ChangeSpec := { name := "binomialSorts", fn := fun _ => fun
  | [d] => { results := [.lit (.bool true)], args := [d] }
  | _ => none }
def binomialSortsRow : OpenClaim := { program := "ytighgbdijagolaa", sum := "a336c903e5fb79c65011c0c8d1b025f9972b24a25c7c51db49727f541e5cdb5c", func := "haycock/haycocklaw13.BinomialSorts", spec := "binomialSorts", unfollowed := true, recurses := true, apart := false }
def BinomialSortsSaid : Prop := binomialSortsRow.holds Try.pinned (OpenSpec.ofChange binomialSortsSpec)

/-- ITS FALSE NEIGHBOUR: 'it returns false'. Refute it at one input. -/
def binomialSortsWrong : ChangeSpec := { name := "binomialSorts", fn := fun _ => fun
  | [d] => { results := [.lit (.bool false)], args := [d] }
  | _ => none }
def BinomialSortsWrongFalsely : Prop := binomialSortsRow.holds Try.pinned (OpenSpec.ofChange binomialSortsWrong)

/-- 'haycocklaw13.BinomialMelds': WHATEVER THE INPUT: true; the input reads as it did. -/
def binomialMeldsSpec : ChangeSpec := { name := "binomialMelds", fn := fun _ => fun
  | [d1, d2] => { results := [.lit (.bool true)], args := [d1, d2] }
  | _ => none }
def binomialMeldsRow : OpenClaim := { program := "ytighgbdijagolaa", sum := "a336c903e5fb79c65011c0c8d1b025f9972b24a25c7c51db49727f541e5cdb5c", func := "haycock/haycocklaw13.BinomialMelds", spec := "binomialMelds", unfollowed := true, recurses := true, apart := false }
def BinomialMeldsSaid : Prop := binomialMeldsRow.holds Try.pinned (OpenSpec.ofChange binomialMeldsSpec)

/-- ITS FALSE NEIGHBOUR: 'it returns false'. Refute it at one input. -/
def binomialMeldsWrong : ChangeSpec := { name := "binomialMelds", fn := fun _ => fun
  | [d1, d2] => { results := [.lit (.bool false)], args := [d1, d2] }
  | _ => none }
def BinomialMeldsWrongFalsely : Prop := binomialMeldsRow.holds Try.pinned (OpenSpec.ofChange binomialMeldsWrong)

/-- 'haycocklaw13.BinomialDegrees': WHATEVER THE INPUT: true; the input reads as it did. -/
def binomialDegreesSpec : ChangeSpec := { name := "binomialDegrees", fn := fun _ => fun
  | [d1, d2] => { results := [.lit (.bool true)], args := [d1, d2] }
  | _ => none }
def binomialDegreesRow : OpenClaim := { program := "ytighgbdijagolaa", sum := "a336c903e5fb79c65011c0c8d1b025f9972b24a25c7c51db49727f541e5cdb5c", func := "haycock/haycocklaw13.BinomialDegrees", spec := "binomialDegrees", unfollowed := true, recurses := true, apart := false }
def BinomialDegreesSaid : Prop := binomialDegreesRow.holds Try.pinned (OpenSpec.ofChange binomialDegreesSpec)

/-- ITS FALSE NEIGHBOUR: 'it returns false'. Refute it at one input. -/
def binomialDegreesWrong : ChangeSpec := { name := "binomialDegrees", fn := fun _ => fun
  | [d1, d2] => { results := [.lit (.bool false)], args := [d1, d2] }
  | _ => none }
def BinomialDegreesWrongFalsely : Prop := binomialDegreesRow.holds Try.pinned (OpenSpec.ofChange binomialDegreesWrong)

/-- 'haycocklaw13.BinomialRuns': WHATEVER THE INPUT: true; the input reads as it did. -/
def binomialRunsSpec : ChangeSpec := { name := "binomialRuns", fn := fun _ => fun
  | [d1, d2] => { results := [.lit (.bool true)], args := [d1, d2] }
  | _ => none }
def binomialRunsRow : OpenClaim := { program := "ytighgbdijagolaa", sum := "a336c903e5fb79c65011c0c8d1b025f9972b24a25c7c51db49727f541e5cdb5c", func := "haycock/haycocklaw13.BinomialRuns", spec := "binomialRuns", unfollowed := true, recurses := true, apart := false }
def BinomialRunsSaid : Prop := binomialRunsRow.holds Try.pinned (OpenSpec.ofChange binomialRunsSpec)

/-- ITS FALSE NEIGHBOUR: 'it returns false'. Refute it at one input. -/
def binomialRunsWrong : ChangeSpec := { name := "binomialRuns", fn := fun _ => fun
  | [d1, d2] => { results := [.lit (.bool false)], args := [d1, d2] }
  | _ => none }
def BinomialRunsWrongFalsely : Prop := binomialRunsRow.holds Try.pinned (OpenSpec.ofChange binomialRunsWrong)

/-- 'haycocklaw13.BinomialLimits': WHATEVER THE INPUT: true; the input reads as it did. -/
def binomialLimitsSpec : ChangeSpec := { name := "binomialLimits", fn := fun _ => fun
  | [d1, d2] => { results := [.lit (.bool true)], args := [d1, d2] }
  | _ => none }
def binomialLimitsRow : OpenClaim := { program := "ytighgbdijagolaa", sum := "a336c903e5fb79c65011c0c8d1b025f9972b24a25c7c51db49727f541e5cdb5c", func := "haycock/haycocklaw13.BinomialLimits", spec := "binomialLimits", unfollowed := true, recurses := true, apart := false }
def BinomialLimitsSaid : Prop := binomialLimitsRow.holds Try.pinned (OpenSpec.ofChange binomialLimitsSpec)

/-- ITS FALSE NEIGHBOUR: 'it returns false'. Refute it at one input. -/
def binomialLimitsWrong : ChangeSpec := { name := "binomialLimits", fn := fun _ => fun
  | [d1, d2] => { results := [.lit (.bool false)], args := [d1, d2] }
  | _ => none }
def BinomialLimitsWrongFalsely : Prop := binomialLimitsRow.holds Try.pinned (OpenSpec.ofChange binomialLimitsWrong)

/-- 'haycocklaw16.FibonacciNew': WHATEVER THE INPUT: true; the input reads as it did. -/
def fibonacciNewSpec : ChangeSpec := { name := "fibonacciNew", fn := fun _ => fun
  | [d] => { results := [.lit (.bool true)], args := [d] }
  | _ => none }
def fibonacciNewRow : OpenClaim := { program := "ytighgbdijagolaa", sum := "a336c903e5fb79c65011c0c8d1b025f9972b24a25c7c51db49727f541e5cdb5c", func := "haycock/haycocklaw16.FibonacciNew", spec := "fibonacciNew", apart := false }
def FibonacciNewSaid : Prop := fibonacciNewRow.holds Try.pinned (OpenSpec.ofChange fibonacciNewSpec)

/-- ITS FALSE NEIGHBOUR: 'it returns false'. Refute it at one input. -/
def fibonacciNewWrong : ChangeSpec := { name := "fibonacciNew", fn := fun _ => fun
  | [d] => { results := [.lit (.bool false)], args := [d] }
  | _ => none }
def FibonacciNewWrongFalsely : Prop := fibonacciNewRow.holds Try.pinned (OpenSpec.ofChange fibonacciNewWrong)

/-- 'haycocklaw16.FibonacciSorts': WHATEVER THE INPUT: true; the input reads as it did. -/
def fibonacciSortsSpec : ChangeSpec := { name := "fibonacciSorts", fn := fun _ => fun
  | [d] => { results := [.lit (.bool true)], args := [d] }
  | _ => none }
def fibonacciSortsRow : OpenClaim := { program := "ytighgbdijagolaa", sum := "a336c903e5fb79c65011c0c8d1b025f9972b24a25c7c51db49727f541e5cdb5c", func := "haycock/haycocklaw16.FibonacciSorts", spec := "fibonacciSorts", unfollowed := true, recurses := true, apart := false }
def FibonacciSortsSaid : Prop := fibonacciSortsRow.holds Try.pinned (OpenSpec.ofChange fibonacciSortsSpec)

/-- ITS FALSE NEIGHBOUR: 'it returns false'. Refute it at one input. -/
def fibonacciSortsWrong : ChangeSpec := { name := "fibonacciSorts", fn := fun _ => fun
  | [d] => { results := [.lit (.bool false)], args := [d] }
  | _ => none }
def FibonacciSortsWrongFalsely : Prop := fibonacciSortsRow.holds Try.pinned (OpenSpec.ofChange fibonacciSortsWrong)

/-- 'haycocklaw16.FibonacciMelds': WHATEVER THE INPUT: true; the input reads as it did. -/
def fibonacciMeldsSpec : ChangeSpec := { name := "fibonacciMelds", fn := fun _ => fun
  | [d1, d2] => { results := [.lit (.bool true)], args := [d1, d2] }
  | _ => none }
def fibonacciMeldsRow : OpenClaim := { program := "ytighgbdijagolaa", sum := "a336c903e5fb79c65011c0c8d1b025f9972b24a25c7c51db49727f541e5cdb5c", func := "haycock/haycocklaw16.FibonacciMelds", spec := "fibonacciMelds", unfollowed := true, recurses := true, apart := false }
def FibonacciMeldsSaid : Prop := fibonacciMeldsRow.holds Try.pinned (OpenSpec.ofChange fibonacciMeldsSpec)

/-- ITS FALSE NEIGHBOUR: 'it returns false'. Refute it at one input. -/
def fibonacciMeldsWrong : ChangeSpec := { name := "fibonacciMelds", fn := fun _ => fun
  | [d1, d2] => { results := [.lit (.bool false)], args := [d1, d2] }
  | _ => none }
def FibonacciMeldsWrongFalsely : Prop := fibonacciMeldsRow.holds Try.pinned (OpenSpec.ofChange fibonacciMeldsWrong)

/-- 'haycocklaw16.FibonacciTrees': WHATEVER THE INPUT: true; the input reads as it did. -/
def fibonacciTreesSpec : ChangeSpec := { name := "fibonacciTrees", fn := fun _ => fun
  | [d1, d2] => { results := [.lit (.bool true)], args := [d1, d2] }
  | _ => none }
def fibonacciTreesRow : OpenClaim := { program := "ytighgbdijagolaa", sum := "a336c903e5fb79c65011c0c8d1b025f9972b24a25c7c51db49727f541e5cdb5c", func := "haycock/haycocklaw16.FibonacciTrees", spec := "fibonacciTrees", unfollowed := true, recurses := true, apart := false }
def FibonacciTreesSaid : Prop := fibonacciTreesRow.holds Try.pinned (OpenSpec.ofChange fibonacciTreesSpec)

/-- ITS FALSE NEIGHBOUR: 'it returns false'. Refute it at one input. -/
def fibonacciTreesWrong : ChangeSpec := { name := "fibonacciTrees", fn := fun _ => fun
  | [d1, d2] => { results := [.lit (.bool false)], args := [d1, d2] }
  | _ => none }
def FibonacciTreesWrongFalsely : Prop := fibonacciTreesRow.holds Try.pinned (OpenSpec.ofChange fibonacciTreesWrong)

/-- 'haycocklaw16.FibonacciDegrees': WHATEVER THE INPUT: true; the input reads as it did. -/
def fibonacciDegreesSpec : ChangeSpec := { name := "fibonacciDegrees", fn := fun _ => fun
  | [d1, d2] => { results := [.lit (.bool true)], args := [d1, d2] }
  | _ => none }
def fibonacciDegreesRow : OpenClaim := { program := "ytighgbdijagolaa", sum := "a336c903e5fb79c65011c0c8d1b025f9972b24a25c7c51db49727f541e5cdb5c", func := "haycock/haycocklaw16.FibonacciDegrees", spec := "fibonacciDegrees", unfollowed := true, recurses := true, apart := false }
def FibonacciDegreesSaid : Prop := fibonacciDegreesRow.holds Try.pinned (OpenSpec.ofChange fibonacciDegreesSpec)

/-- ITS FALSE NEIGHBOUR: 'it returns false'. Refute it at one input. -/
def fibonacciDegreesWrong : ChangeSpec := { name := "fibonacciDegrees", fn := fun _ => fun
  | [d1, d2] => { results := [.lit (.bool false)], args := [d1, d2] }
  | _ => none }
def FibonacciDegreesWrongFalsely : Prop := fibonacciDegreesRow.holds Try.pinned (OpenSpec.ofChange fibonacciDegreesWrong)

/-- 'haycocklaw16.FibonacciRuns': WHATEVER THE INPUT: true; the input reads as it did. -/
def fibonacciRunsSpec : ChangeSpec := { name := "fibonacciRuns", fn := fun _ => fun
  | [d1, d2] => { results := [.lit (.bool true)], args := [d1, d2] }
  | _ => none }
def fibonacciRunsRow : OpenClaim := { program := "ytighgbdijagolaa", sum := "a336c903e5fb79c65011c0c8d1b025f9972b24a25c7c51db49727f541e5cdb5c", func := "haycock/haycocklaw16.FibonacciRuns", spec := "fibonacciRuns", unfollowed := true, recurses := true, apart := false }
def FibonacciRunsSaid : Prop := fibonacciRunsRow.holds Try.pinned (OpenSpec.ofChange fibonacciRunsSpec)

/-- ITS FALSE NEIGHBOUR: 'it returns false'. Refute it at one input. -/
def fibonacciRunsWrong : ChangeSpec := { name := "fibonacciRuns", fn := fun _ => fun
  | [d1, d2] => { results := [.lit (.bool false)], args := [d1, d2] }
  | _ => none }
def FibonacciRunsWrongFalsely : Prop := fibonacciRunsRow.holds Try.pinned (OpenSpec.ofChange fibonacciRunsWrong)

/-- 'haycocklaw16.FibonacciWholes': WHATEVER THE INPUT: true; the input reads as it did. -/
def fibonacciWholesSpec : ChangeSpec := { name := "fibonacciWholes", fn := fun _ => fun
  | [d1, d2] => { results := [.lit (.bool true)], args := [d1, d2] }
  | _ => none }
def fibonacciWholesRow : OpenClaim := { program := "ytighgbdijagolaa", sum := "a336c903e5fb79c65011c0c8d1b025f9972b24a25c7c51db49727f541e5cdb5c", func := "haycock/haycocklaw16.FibonacciWholes", spec := "fibonacciWholes", unfollowed := true, recurses := true, apart := false }
def FibonacciWholesSaid : Prop := fibonacciWholesRow.holds Try.pinned (OpenSpec.ofChange fibonacciWholesSpec)

/-- ITS FALSE NEIGHBOUR: 'it returns false'. Refute it at one input. -/
def fibonacciWholesWrong : ChangeSpec := { name := "fibonacciWholes", fn := fun _ => fun
  | [d1, d2] => { results := [.lit (.bool false)], args := [d1, d2] }
  | _ => none }
def FibonacciWholesWrongFalsely : Prop := fibonacciWholesRow.holds Try.pinned (OpenSpec.ofChange fibonacciWholesWrong)

/- THE SECOND FORM. 'bulk': how many values and letters a reading holds, each counted each time it is reached (what is shared counts as often as it is met; a slice's spare places count too). A statement '..UptoSaid' is the law's where the arguments, and the package variables that the reading takes, are together of bulk at most 1048576: NARROWER than '..Said'. Prove '..Said' where nothing that the law and all that it calls make is longer than what came in: it says more and counts as full. Else prove '..UptoSaid'. A law counts once. -/
mutual
def uptoBulk {H : Type} : DataW H → Nat
  | .lit (.string bytes) => bytes.length + 1
  | .lit _ => 1
  | .nil => 1
  | .ptr d => uptoBulk d + 1
  | .slice elems spare => uptoBulkAll elems + uptoBulkAll spare + 1
  | .agg parts => uptoBulkAll parts + 1
  | .iface _ d => uptoBulk d + 1
  | .map entries => uptoBulkEntries entries + 1
  | .held _ => 1
def uptoBulkAll {H : Type} : List (DataW H) → Nat
  | [] => 0
  | d :: r => uptoBulk d + uptoBulkAll r
def uptoBulkEntries {H : Type} : List (Lit × DataW H) → Nat
  | [] => 0
  | x :: r => uptoBulkEntry x + uptoBulkEntries r
def uptoBulkEntry {H : Type} : Lit × DataW H → Nat
  | (.string bytes, d) => bytes.length + uptoBulk d + 1
  | (_, d) => uptoBulk d + 1
 end
def uptoSmall : (H : Type) → List (DataW H) → Bool := fun _ ds => decide (uptoBulkAll ds ≤ 1048576)
def OpenSpec.upto (s : _root_.Go.ChangeSpec) : _root_.Go.OpenSpec := { _root_.Go.OpenSpec.ofChange s with cond := some uptoSmall }

/-- 'haycocklaw13.BinomialNew', WHERE WHAT IT READS IS OF BULK AT MOST 1048576: true; the input reads as it did. -/
def binomialNewUptoRow : OpenClaim := { program := "ytighgbdijagolaa", sum := "a336c903e5fb79c65011c0c8d1b025f9972b24a25c7c51db49727f541e5cdb5c", func := "haycock/haycocklaw13.BinomialNew", spec := "binomialNew", unfollowed := true, recurses := true, apart := false, narrowed := true }
def BinomialNewUptoSaid : Prop := binomialNewUptoRow.holds Try.pinned (OpenSpec.upto binomialNewSpec)

/-- 'haycocklaw13.BinomialSorts', WHERE WHAT IT READS IS OF BULK AT MOST 1048576: true; the input reads as it did. -/
def binomialSortsUptoRow : OpenClaim := { program := "ytighgbdijagolaa", sum := "a336c903e5fb79c65011c0c8d1b025f9972b24a25c7c51db49727f541e5cdb5c", func := "haycock/haycocklaw13.BinomialSorts", spec := "binomialSorts", unfollowed := true, recurses := true, apart := false, narrowed := true }
def BinomialSortsUptoSaid : Prop := binomialSortsUptoRow.holds Try.pinned (OpenSpec.upto binomialSortsSpec)

/-- 'haycocklaw13.BinomialMelds', WHERE WHAT IT READS IS OF BULK AT MOST 1048576: true; the input reads as it did. -/
def binomialMeldsUptoRow : OpenClaim := { program := "ytighgbdijagolaa", sum := "a336c903e5fb79c65011c0c8d1b025f9972b24a25c7c51db49727f541e5cdb5c", func := "haycock/haycocklaw13.BinomialMelds", spec := "binomialMelds", unfollowed := true, recurses := true, apart := false, narrowed := true }
def BinomialMeldsUptoSaid : Prop := binomialMeldsUptoRow.holds Try.pinned (OpenSpec.upto binomialMeldsSpec)

/-- 'haycocklaw13.BinomialDegrees', WHERE WHAT IT READS IS OF BULK AT MOST 1048576: true; the input reads as it did. -/
def binomialDegreesUptoRow : OpenClaim := { program := "ytighgbdijagolaa", sum := "a336c903e5fb79c65011c0c8d1b025f9972b24a25c7c51db49727f541e5cdb5c", func := "haycock/haycocklaw13.BinomialDegrees", spec := "binomialDegrees", unfollowed := true, recurses := true, apart := false, narrowed := true }
def BinomialDegreesUptoSaid : Prop := binomialDegreesUptoRow.holds Try.pinned (OpenSpec.upto binomialDegreesSpec)

/-- 'haycocklaw13.BinomialRuns', WHERE WHAT IT READS IS OF BULK AT MOST 1048576: true; the input reads as it did. -/
def binomialRunsUptoRow : OpenClaim := { program := "ytighgbdijagolaa", sum := "a336c903e5fb79c65011c0c8d1b025f9972b24a25c7c51db49727f541e5cdb5c", func := "haycock/haycocklaw13.BinomialRuns", spec := "binomialRuns", unfollowed := true, recurses := true, apart := false, narrowed := true }
def BinomialRunsUptoSaid : Prop := binomialRunsUptoRow.holds Try.pinned (OpenSpec.upto binomialRunsSpec)

/-- 'haycocklaw13.BinomialLimits', WHERE WHAT IT READS IS OF BULK AT MOST 1048576: true; the input reads as it did. -/
def binomialLimitsUptoRow : OpenClaim := { program := "ytighgbdijagolaa", sum := "a336c903e5fb79c65011c0c8d1b025f9972b24a25c7c51db49727f541e5cdb5c", func := "haycock/haycocklaw13.BinomialLimits", spec := "binomialLimits", unfollowed := true, recurses := true, apart := false, narrowed := true }
def BinomialLimitsUptoSaid : Prop := binomialLimitsUptoRow.holds Try.pinned (OpenSpec.upto binomialLimitsSpec)

/-- 'haycocklaw16.FibonacciNew', WHERE WHAT IT READS IS OF BULK AT MOST 1048576: true; the input reads as it did. -/
def fibonacciNewUptoRow : OpenClaim := { program := "ytighgbdijagolaa", sum := "a336c903e5fb79c65011c0c8d1b025f9972b24a25c7c51db49727f541e5cdb5c", func := "haycock/haycocklaw16.FibonacciNew", spec := "fibonacciNew", apart := false, narrowed := true }
def FibonacciNewUptoSaid : Prop := fibonacciNewUptoRow.holds Try.pinned (OpenSpec.upto fibonacciNewSpec)

/-- 'haycocklaw16.FibonacciSorts', WHERE WHAT IT READS IS OF BULK AT MOST 1048576: true; the input reads as it did. -/
def fibonacciSortsUptoRow : OpenClaim := { program := "ytighgbdijagolaa", sum := "a336c903e5fb79c65011c0c8d1b025f9972b24a25c7c51db49727f541e5cdb5c", func := "haycock/haycocklaw16.FibonacciSorts", spec := "fibonacciSorts", unfollowed := true, recurses := true, apart := false, narrowed := true }
def FibonacciSortsUptoSaid : Prop := fibonacciSortsUptoRow.holds Try.pinned (OpenSpec.upto fibonacciSortsSpec)

/-- 'haycocklaw16.FibonacciMelds', WHERE WHAT IT READS IS OF BULK AT MOST 1048576: true; the input reads as it did. -/
def fibonacciMeldsUptoRow : OpenClaim := { program := "ytighgbdijagolaa", sum := "a336c903e5fb79c65011c0c8d1b025f9972b24a25c7c51db49727f541e5cdb5c", func := "haycock/haycocklaw16.FibonacciMelds", spec := "fibonacciMelds", unfollowed := true, recurses := true, apart := false, narrowed := true }
def FibonacciMeldsUptoSaid : Prop := fibonacciMeldsUptoRow.holds Try.pinned (OpenSpec.upto fibonacciMeldsSpec)

/-- 'haycocklaw16.FibonacciTrees', WHERE WHAT IT READS IS OF BULK AT MOST 1048576: true; the input reads as it did. -/
def fibonacciTreesUptoRow : OpenClaim := { program := "ytighgbdijagolaa", sum := "a336c903e5fb79c65011c0c8d1b025f9972b24a25c7c51db49727f541e5cdb5c", func := "haycock/haycocklaw16.FibonacciTrees", spec := "fibonacciTrees", unfollowed := true, recurses := true, apart := false, narrowed := true }
def FibonacciTreesUptoSaid : Prop := fibonacciTreesUptoRow.holds Try.pinned (OpenSpec.upto fibonacciTreesSpec)

/-- 'haycocklaw16.FibonacciDegrees', WHERE WHAT IT READS IS OF BULK AT MOST 1048576: true; the input reads as it did. -/
def fibonacciDegreesUptoRow : OpenClaim := { program := "ytighgbdijagolaa", sum := "a336c903e5fb79c65011c0c8d1b025f9972b24a25c7c51db49727f541e5cdb5c", func := "haycock/haycocklaw16.FibonacciDegrees", spec := "fibonacciDegrees", unfollowed := true, recurses := true, apart := false, narrowed := true }
def FibonacciDegreesUptoSaid : Prop := fibonacciDegreesUptoRow.holds Try.pinned (OpenSpec.upto fibonacciDegreesSpec)

/-- 'haycocklaw16.FibonacciRuns', WHERE WHAT IT READS IS OF BULK AT MOST 1048576: true; the input reads as it did. -/
def fibonacciRunsUptoRow : OpenClaim := { program := "ytighgbdijagolaa", sum := "a336c903e5fb79c65011c0c8d1b025f9972b24a25c7c51db49727f541e5cdb5c", func := "haycock/haycocklaw16.FibonacciRuns", spec := "fibonacciRuns", unfollowed := true, recurses := true, apart := false, narrowed := true }
def FibonacciRunsUptoSaid : Prop := fibonacciRunsUptoRow.holds Try.pinned (OpenSpec.upto fibonacciRunsSpec)

/-- 'haycocklaw16.FibonacciWholes', WHERE WHAT IT READS IS OF BULK AT MOST 1048576: true; the input reads as it did. -/
def fibonacciWholesUptoRow : OpenClaim := { program := "ytighgbdijagolaa", sum := "a336c903e5fb79c65011c0c8d1b025f9972b24a25c7c51db49727f541e5cdb5c", func := "haycock/haycocklaw16.FibonacciWholes", spec := "fibonacciWholes", unfollowed := true, recurses := true, apart := false, narrowed := true }
def FibonacciWholesUptoSaid : Prop := fibonacciWholesUptoRow.holds Try.pinned (OpenSpec.upto fibonacciWholesSpec)

end Rows
end Go.Proofs.Ytighgbdijagolaa
