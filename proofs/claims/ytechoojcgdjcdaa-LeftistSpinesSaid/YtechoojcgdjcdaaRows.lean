/-
  No cell of these rows narrows 'for every input' (looked for: loops, veiled, ifaces, maps, wideKeys, modest, calm, conditions, laid).
  DERIVED. THE GIVEN ROWS OF THIS SEAT. 12 by the template 'for every input the law returns true; each argument reads behind the call as it read before'; 0 by the template 'total and deterministic' (their statements: YtechoojcgdjcdaaTotals.lean).
  GIVEN WITH THE SEED: the statements are not yours to turn. If you find one false, say at which input.
  Laid BY PROGRAM, IN A SANDBOX (cutbox-rows.mjs): the forced cells as the released guide's own fill.sh prints them over the translation c87853398a3a0ef3… (all of the seat's roots in one cut). By AI agents, Wed Nov 11 2026. No macro, syntax, notation, axiom, sorry.
-/
import Derived.Test.YtechoojcgdjcdaaChecked
import GoSem.Claim
import GoSem.ClaimJoined
import GoSem.ClaimMapViews
import Derived.JoinedTies
import Derived.KernelRfl
namespace Go.Proofs.Ytechoojcgdjcdaa
/- THE CELL 'sum', in the pinned program and in every row, IS THE sha256 OF THE DUMP (.gsa) THAT YtechoojcgdjcdaaProg.lean LOADS. Nothing in Lean hashes anything: it is a label: what it is worth is what the hold of that sum in a sandbox is worth. -/
noncomputable def Try.pinned : Pinned := { name := "ytechoojcgdjcdaa", sum := "c87853398a3a0ef3119f6fdab376d77c85a4984ce1829a2401c75ec2328b5055", checked := Try.checked }
namespace Rows
def none {H : Type} : Left H := { results := [], args := [] }

/-- 'haycocklaw10.LeftistNew': WHATEVER THE INPUT: true; the input reads as it did. -/
def leftistNewSpec : ChangeSpec := { name := "leftistNew", fn := fun _ => fun
  | [d] => { results := [.lit (.bool true)], args := [d] }
  | _ => none }
def leftistNewRow : OpenClaim := { program := "ytechoojcgdjcdaa", sum := "c87853398a3a0ef3119f6fdab376d77c85a4984ce1829a2401c75ec2328b5055", func := "haycock/haycocklaw10.LeftistNew", spec := "leftistNew", apart := false }
def LeftistNewSaid : Prop := leftistNewRow.holds Try.pinned (OpenSpec.ofChange leftistNewSpec)

/-- ITS FALSE NEIGHBOUR: 'it returns false'. Refute it at one input. -/
def leftistNewWrong : ChangeSpec := { name := "leftistNew", fn := fun _ => fun
  | [d] => { results := [.lit (.bool false)], args := [d] }
  | _ => none }
def LeftistNewWrongFalsely : Prop := leftistNewRow.holds Try.pinned (OpenSpec.ofChange leftistNewWrong)

/-- 'haycocklaw10.LeftistSorts': WHATEVER THE INPUT: true; the input reads as it did. -/
def leftistSortsSpec : ChangeSpec := { name := "leftistSorts", fn := fun _ => fun
  | [d] => { results := [.lit (.bool true)], args := [d] }
  | _ => none }
def leftistSortsRow : OpenClaim := { program := "ytechoojcgdjcdaa", sum := "c87853398a3a0ef3119f6fdab376d77c85a4984ce1829a2401c75ec2328b5055", func := "haycock/haycocklaw10.LeftistSorts", spec := "leftistSorts", unfollowed := true, recurses := true, apart := false }
def LeftistSortsSaid : Prop := leftistSortsRow.holds Try.pinned (OpenSpec.ofChange leftistSortsSpec)

/-- ITS FALSE NEIGHBOUR: 'it returns false'. Refute it at one input. -/
def leftistSortsWrong : ChangeSpec := { name := "leftistSorts", fn := fun _ => fun
  | [d] => { results := [.lit (.bool false)], args := [d] }
  | _ => none }
def LeftistSortsWrongFalsely : Prop := leftistSortsRow.holds Try.pinned (OpenSpec.ofChange leftistSortsWrong)

/-- 'haycocklaw10.LeftistMelds': WHATEVER THE INPUT: true; the input reads as it did. -/
def leftistMeldsSpec : ChangeSpec := { name := "leftistMelds", fn := fun _ => fun
  | [d1, d2] => { results := [.lit (.bool true)], args := [d1, d2] }
  | _ => none }
def leftistMeldsRow : OpenClaim := { program := "ytechoojcgdjcdaa", sum := "c87853398a3a0ef3119f6fdab376d77c85a4984ce1829a2401c75ec2328b5055", func := "haycock/haycocklaw10.LeftistMelds", spec := "leftistMelds", unfollowed := true, recurses := true, apart := false }
def LeftistMeldsSaid : Prop := leftistMeldsRow.holds Try.pinned (OpenSpec.ofChange leftistMeldsSpec)

/-- ITS FALSE NEIGHBOUR: 'it returns false'. Refute it at one input. -/
def leftistMeldsWrong : ChangeSpec := { name := "leftistMelds", fn := fun _ => fun
  | [d1, d2] => { results := [.lit (.bool false)], args := [d1, d2] }
  | _ => none }
def LeftistMeldsWrongFalsely : Prop := leftistMeldsRow.holds Try.pinned (OpenSpec.ofChange leftistMeldsWrong)

/-- 'haycocklaw10.LeftistRuns': WHATEVER THE INPUT: true; the input reads as it did. -/
def leftistRunsSpec : ChangeSpec := { name := "leftistRuns", fn := fun _ => fun
  | [d1, d2] => { results := [.lit (.bool true)], args := [d1, d2] }
  | _ => none }
def leftistRunsRow : OpenClaim := { program := "ytechoojcgdjcdaa", sum := "c87853398a3a0ef3119f6fdab376d77c85a4984ce1829a2401c75ec2328b5055", func := "haycock/haycocklaw10.LeftistRuns", spec := "leftistRuns", unfollowed := true, recurses := true, apart := false }
def LeftistRunsSaid : Prop := leftistRunsRow.holds Try.pinned (OpenSpec.ofChange leftistRunsSpec)

/-- ITS FALSE NEIGHBOUR: 'it returns false'. Refute it at one input. -/
def leftistRunsWrong : ChangeSpec := { name := "leftistRuns", fn := fun _ => fun
  | [d1, d2] => { results := [.lit (.bool false)], args := [d1, d2] }
  | _ => none }
def LeftistRunsWrongFalsely : Prop := leftistRunsRow.holds Try.pinned (OpenSpec.ofChange leftistRunsWrong)

/-- 'haycocklaw10.LeftistSpines': WHATEVER THE INPUT: true; the input reads as it did. -/
def leftistSpinesSpec : ChangeSpec := { name := "leftistSpines", fn := fun _ => fun
  | [d1, d2] => { results := [.lit (.bool true)], args := [d1, d2] }
  | _ => none }
def leftistSpinesRow : OpenClaim := { program := "ytechoojcgdjcdaa", sum := "c87853398a3a0ef3119f6fdab376d77c85a4984ce1829a2401c75ec2328b5055", func := "haycock/haycocklaw10.LeftistSpines", spec := "leftistSpines", unfollowed := true, recurses := true, apart := false }
def LeftistSpinesSaid : Prop := leftistSpinesRow.holds Try.pinned (OpenSpec.ofChange leftistSpinesSpec)

/-- ITS FALSE NEIGHBOUR: 'it returns false'. Refute it at one input. -/
def leftistSpinesWrong : ChangeSpec := { name := "leftistSpines", fn := fun _ => fun
  | [d1, d2] => { results := [.lit (.bool false)], args := [d1, d2] }
  | _ => none }
def LeftistSpinesWrongFalsely : Prop := leftistSpinesRow.holds Try.pinned (OpenSpec.ofChange leftistSpinesWrong)

/-- 'haycocklaw10.LeftistLimits': WHATEVER THE INPUT: true; the input reads as it did. -/
def leftistLimitsSpec : ChangeSpec := { name := "leftistLimits", fn := fun _ => fun
  | [d1, d2] => { results := [.lit (.bool true)], args := [d1, d2] }
  | _ => none }
def leftistLimitsRow : OpenClaim := { program := "ytechoojcgdjcdaa", sum := "c87853398a3a0ef3119f6fdab376d77c85a4984ce1829a2401c75ec2328b5055", func := "haycock/haycocklaw10.LeftistLimits", spec := "leftistLimits", unfollowed := true, recurses := true, apart := false }
def LeftistLimitsSaid : Prop := leftistLimitsRow.holds Try.pinned (OpenSpec.ofChange leftistLimitsSpec)

/-- ITS FALSE NEIGHBOUR: 'it returns false'. Refute it at one input. -/
def leftistLimitsWrong : ChangeSpec := { name := "leftistLimits", fn := fun _ => fun
  | [d1, d2] => { results := [.lit (.bool false)], args := [d1, d2] }
  | _ => none }
def LeftistLimitsWrongFalsely : Prop := leftistLimitsRow.holds Try.pinned (OpenSpec.ofChange leftistLimitsWrong)

/-- 'haycocklaw11.SkewNew': WHATEVER THE INPUT: true; the input reads as it did. -/
def skewNewSpec : ChangeSpec := { name := "skewNew", fn := fun _ => fun
  | [d] => { results := [.lit (.bool true)], args := [d] }
  | _ => none }
def skewNewRow : OpenClaim := { program := "ytechoojcgdjcdaa", sum := "c87853398a3a0ef3119f6fdab376d77c85a4984ce1829a2401c75ec2328b5055", func := "haycock/haycocklaw11.SkewNew", spec := "skewNew", apart := false }
def SkewNewSaid : Prop := skewNewRow.holds Try.pinned (OpenSpec.ofChange skewNewSpec)

/-- ITS FALSE NEIGHBOUR: 'it returns false'. Refute it at one input. -/
def skewNewWrong : ChangeSpec := { name := "skewNew", fn := fun _ => fun
  | [d] => { results := [.lit (.bool false)], args := [d] }
  | _ => none }
def SkewNewWrongFalsely : Prop := skewNewRow.holds Try.pinned (OpenSpec.ofChange skewNewWrong)

/-- 'haycocklaw11.SkewSorts': WHATEVER THE INPUT: true; the input reads as it did. -/
def skewSortsSpec : ChangeSpec := { name := "skewSorts", fn := fun _ => fun
  | [d] => { results := [.lit (.bool true)], args := [d] }
  | _ => none }
def skewSortsRow : OpenClaim := { program := "ytechoojcgdjcdaa", sum := "c87853398a3a0ef3119f6fdab376d77c85a4984ce1829a2401c75ec2328b5055", func := "haycock/haycocklaw11.SkewSorts", spec := "skewSorts", unfollowed := true, recurses := true, apart := false }
def SkewSortsSaid : Prop := skewSortsRow.holds Try.pinned (OpenSpec.ofChange skewSortsSpec)

/-- ITS FALSE NEIGHBOUR: 'it returns false'. Refute it at one input. -/
def skewSortsWrong : ChangeSpec := { name := "skewSorts", fn := fun _ => fun
  | [d] => { results := [.lit (.bool false)], args := [d] }
  | _ => none }
def SkewSortsWrongFalsely : Prop := skewSortsRow.holds Try.pinned (OpenSpec.ofChange skewSortsWrong)

/-- 'haycocklaw11.SkewMelds': WHATEVER THE INPUT: true; the input reads as it did. -/
def skewMeldsSpec : ChangeSpec := { name := "skewMelds", fn := fun _ => fun
  | [d1, d2] => { results := [.lit (.bool true)], args := [d1, d2] }
  | _ => none }
def skewMeldsRow : OpenClaim := { program := "ytechoojcgdjcdaa", sum := "c87853398a3a0ef3119f6fdab376d77c85a4984ce1829a2401c75ec2328b5055", func := "haycock/haycocklaw11.SkewMelds", spec := "skewMelds", unfollowed := true, recurses := true, apart := false }
def SkewMeldsSaid : Prop := skewMeldsRow.holds Try.pinned (OpenSpec.ofChange skewMeldsSpec)

/-- ITS FALSE NEIGHBOUR: 'it returns false'. Refute it at one input. -/
def skewMeldsWrong : ChangeSpec := { name := "skewMelds", fn := fun _ => fun
  | [d1, d2] => { results := [.lit (.bool false)], args := [d1, d2] }
  | _ => none }
def SkewMeldsWrongFalsely : Prop := skewMeldsRow.holds Try.pinned (OpenSpec.ofChange skewMeldsWrong)

/-- 'haycocklaw11.SkewTwins': WHATEVER THE INPUT: true; the input reads as it did. -/
def skewTwinsSpec : ChangeSpec := { name := "skewTwins", fn := fun _ => fun
  | [d1, d2] => { results := [.lit (.bool true)], args := [d1, d2] }
  | _ => none }
def skewTwinsRow : OpenClaim := { program := "ytechoojcgdjcdaa", sum := "c87853398a3a0ef3119f6fdab376d77c85a4984ce1829a2401c75ec2328b5055", func := "haycock/haycocklaw11.SkewTwins", spec := "skewTwins", unfollowed := true, recurses := true, apart := false }
def SkewTwinsSaid : Prop := skewTwinsRow.holds Try.pinned (OpenSpec.ofChange skewTwinsSpec)

/-- ITS FALSE NEIGHBOUR: 'it returns false'. Refute it at one input. -/
def skewTwinsWrong : ChangeSpec := { name := "skewTwins", fn := fun _ => fun
  | [d1, d2] => { results := [.lit (.bool false)], args := [d1, d2] }
  | _ => none }
def SkewTwinsWrongFalsely : Prop := skewTwinsRow.holds Try.pinned (OpenSpec.ofChange skewTwinsWrong)

/-- 'haycocklaw11.SkewRuns': WHATEVER THE INPUT: true; the input reads as it did. -/
def skewRunsSpec : ChangeSpec := { name := "skewRuns", fn := fun _ => fun
  | [d1, d2] => { results := [.lit (.bool true)], args := [d1, d2] }
  | _ => none }
def skewRunsRow : OpenClaim := { program := "ytechoojcgdjcdaa", sum := "c87853398a3a0ef3119f6fdab376d77c85a4984ce1829a2401c75ec2328b5055", func := "haycock/haycocklaw11.SkewRuns", spec := "skewRuns", unfollowed := true, recurses := true, apart := false }
def SkewRunsSaid : Prop := skewRunsRow.holds Try.pinned (OpenSpec.ofChange skewRunsSpec)

/-- ITS FALSE NEIGHBOUR: 'it returns false'. Refute it at one input. -/
def skewRunsWrong : ChangeSpec := { name := "skewRuns", fn := fun _ => fun
  | [d1, d2] => { results := [.lit (.bool false)], args := [d1, d2] }
  | _ => none }
def SkewRunsWrongFalsely : Prop := skewRunsRow.holds Try.pinned (OpenSpec.ofChange skewRunsWrong)

/-- 'haycocklaw11.SkewWholes': WHATEVER THE INPUT: true; the input reads as it did. -/
def skewWholesSpec : ChangeSpec := { name := "skewWholes", fn := fun _ => fun
  | [d1, d2] => { results := [.lit (.bool true)], args := [d1, d2] }
  | _ => none }
def skewWholesRow : OpenClaim := { program := "ytechoojcgdjcdaa", sum := "c87853398a3a0ef3119f6fdab376d77c85a4984ce1829a2401c75ec2328b5055", func := "haycock/haycocklaw11.SkewWholes", spec := "skewWholes", unfollowed := true, recurses := true, apart := false }
def SkewWholesSaid : Prop := skewWholesRow.holds Try.pinned (OpenSpec.ofChange skewWholesSpec)

/-- ITS FALSE NEIGHBOUR: 'it returns false'. Refute it at one input. -/
def skewWholesWrong : ChangeSpec := { name := "skewWholes", fn := fun _ => fun
  | [d1, d2] => { results := [.lit (.bool false)], args := [d1, d2] }
  | _ => none }
def SkewWholesWrongFalsely : Prop := skewWholesRow.holds Try.pinned (OpenSpec.ofChange skewWholesWrong)

/- THE SECOND FORM. 'bulk': how many values and letters a reading holds, each counted each time it is reached (what is shared counts as often as it is met; a slice's spare places count too). A statement '..UptoSaid' is the law's where the arguments, and the package variables that the reading takes, are together of bulk at most 1048576: NARROWER than '..Said'. Prove '..Said' where nothing that the law and all that it calls make is longer than what came in: it says more and counts as full. Else prove '..UptoSaid'. A law counts once. -/
mutual
def uptoBulk {H : Type} : DataW H → Nat
  | .lit (.string bytes) => bytes.length + 1
  | .lit _ => 1
  | .nil => 1
  | .ptr d => uptoBulk d + 1
  | .slice elems spare => uptoBulkAll elems + uptoBulkAll spare + 1
  | .agg parts => uptoBulkAll parts + 1
  | .iface _ d => uptoBulk d + 1
  | .map entries => uptoBulkEntries entries + 1
  | .held _ => 1
def uptoBulkAll {H : Type} : List (DataW H) → Nat
  | [] => 0
  | d :: r => uptoBulk d + uptoBulkAll r
def uptoBulkEntries {H : Type} : List (Lit × DataW H) → Nat
  | [] => 0
  | x :: r => uptoBulkEntry x + uptoBulkEntries r
def uptoBulkEntry {H : Type} : Lit × DataW H → Nat
  | (.string bytes, d) => bytes.length + uptoBulk d + 1
  | (_, d) => uptoBulk d + 1
 end
def uptoSmall : (H : Type) → List (DataW H) → Bool := fun _ ds => decide (uptoBulkAll ds ≤ 1048576)
def OpenSpec.upto (s : _root_.Go.ChangeSpec) : _root_.Go.OpenSpec := { _root_.Go.OpenSpec.ofChange s with cond := some uptoSmall }

/-- 'haycocklaw10.LeftistNew', WHERE WHAT IT READS IS OF BULK AT MOST 1048576: true; the input reads as it did. -/
def leftistNewUptoRow : OpenClaim := { program := "ytechoojcgdjcdaa", sum := "c87853398a3a0ef3119f6fdab376d77c85a4984ce1829a2401c75ec2328b5055", func := "haycock/haycocklaw10.LeftistNew", spec := "leftistNew", apart := false, narrowed := true }
def LeftistNewUptoSaid : Prop := leftistNewUptoRow.holds Try.pinned (OpenSpec.upto leftistNewSpec)

/-- 'haycocklaw10.LeftistSorts', WHERE WHAT IT READS IS OF BULK AT MOST 1048576: true; the input reads as it did. -/
def leftistSortsUptoRow : OpenClaim := { program := "ytechoojcgdjcdaa", sum := "c87853398a3a0ef3119f6fdab376d77c85a4984ce1829a2401c75ec2328b5055", func := "haycock/haycocklaw10.LeftistSorts", spec := "leftistSorts", unfollowed := true, recurses := true, apart := false, narrowed := true }
def LeftistSortsUptoSaid : Prop := leftistSortsUptoRow.holds Try.pinned (OpenSpec.upto leftistSortsSpec)

/-- 'haycocklaw10.LeftistMelds', WHERE WHAT IT READS IS OF BULK AT MOST 1048576: true; the input reads as it did. -/
def leftistMeldsUptoRow : OpenClaim := { program := "ytechoojcgdjcdaa", sum := "c87853398a3a0ef3119f6fdab376d77c85a4984ce1829a2401c75ec2328b5055", func := "haycock/haycocklaw10.LeftistMelds", spec := "leftistMelds", unfollowed := true, recurses := true, apart := false, narrowed := true }
def LeftistMeldsUptoSaid : Prop := leftistMeldsUptoRow.holds Try.pinned (OpenSpec.upto leftistMeldsSpec)

/-- 'haycocklaw10.LeftistRuns', WHERE WHAT IT READS IS OF BULK AT MOST 1048576: true; the input reads as it did. -/
def leftistRunsUptoRow : OpenClaim := { program := "ytechoojcgdjcdaa", sum := "c87853398a3a0ef3119f6fdab376d77c85a4984ce1829a2401c75ec2328b5055", func := "haycock/haycocklaw10.LeftistRuns", spec := "leftistRuns", unfollowed := true, recurses := true, apart := false, narrowed := true }
def LeftistRunsUptoSaid : Prop := leftistRunsUptoRow.holds Try.pinned (OpenSpec.upto leftistRunsSpec)

/-- 'haycocklaw10.LeftistSpines', WHERE WHAT IT READS IS OF BULK AT MOST 1048576: true; the input reads as it did. -/
def leftistSpinesUptoRow : OpenClaim := { program := "ytechoojcgdjcdaa", sum := "c87853398a3a0ef3119f6fdab376d77c85a4984ce1829a2401c75ec2328b5055", func := "haycock/haycocklaw10.LeftistSpines", spec := "leftistSpines", unfollowed := true, recurses := true, apart := false, narrowed := true }
def LeftistSpinesUptoSaid : Prop := leftistSpinesUptoRow.holds Try.pinned (OpenSpec.upto leftistSpinesSpec)

/-- 'haycocklaw10.LeftistLimits', WHERE WHAT IT READS IS OF BULK AT MOST 1048576: true; the input reads as it did. -/
def leftistLimitsUptoRow : OpenClaim := { program := "ytechoojcgdjcdaa", sum := "c87853398a3a0ef3119f6fdab376d77c85a4984ce1829a2401c75ec2328b5055", func := "haycock/haycocklaw10.LeftistLimits", spec := "leftistLimits", unfollowed := true, recurses := true, apart := false, narrowed := true }
def LeftistLimitsUptoSaid : Prop := leftistLimitsUptoRow.holds Try.pinned (OpenSpec.upto leftistLimitsSpec)

/-- 'haycocklaw11.SkewNew', WHERE WHAT IT READS IS OF BULK AT MOST 1048576: true; the input reads as it did. -/
def skewNewUptoRow : OpenClaim := { program := "ytechoojcgdjcdaa", sum := "c87853398a3a0ef3119f6fdab376d77c85a4984ce1829a2401c75ec2328b5055", func := "haycock/haycocklaw11.SkewNew", spec := "skewNew", apart := false, narrowed := true }
def SkewNewUptoSaid : Prop := skewNewUptoRow.holds Try.pinned (OpenSpec.upto skewNewSpec)

/-- 'haycocklaw11.SkewSorts', WHERE WHAT IT READS IS OF BULK AT MOST 1048576: true; the input reads as it did. -/
def skewSortsUptoRow : OpenClaim := { program := "ytechoojcgdjcdaa", sum := "c87853398a3a0ef3119f6fdab376d77c85a4984ce1829a2401c75ec2328b5055", func := "haycock/haycocklaw11.SkewSorts", spec := "skewSorts", unfollowed := true, recurses := true, apart := false, narrowed := true }
def SkewSortsUptoSaid : Prop := skewSortsUptoRow.holds Try.pinned (OpenSpec.upto skewSortsSpec)

/-- 'haycocklaw11.SkewMelds', WHERE WHAT IT READS IS OF BULK AT MOST 1048576: true; the input reads as it did. -/
def skewMeldsUptoRow : OpenClaim := { program := "ytechoojcgdjcdaa", sum := "c87853398a3a0ef3119f6fdab376d77c85a4984ce1829a2401c75ec2328b5055", func := "haycock/haycocklaw11.SkewMelds", spec := "skewMelds", unfollowed := true, recurses := true, apart := false, narrowed := true }
def SkewMeldsUptoSaid : Prop := skewMeldsUptoRow.holds Try.pinned (OpenSpec.upto skewMeldsSpec)

/-- 'haycocklaw11.SkewTwins', WHERE WHAT IT READS IS OF BULK AT MOST 1048576: true; the input reads as it did. -/
def skewTwinsUptoRow : OpenClaim := { program := "ytechoojcgdjcdaa", sum := "c87853398a3a0ef3119f6fdab376d77c85a4984ce1829a2401c75ec2328b5055", func := "haycock/haycocklaw11.SkewTwins", spec := "skewTwins", unfollowed := true, recurses := true, apart := false, narrowed := true }
def SkewTwinsUptoSaid : Prop := skewTwinsUptoRow.holds Try.pinned (OpenSpec.upto skewTwinsSpec)

/-- 'haycocklaw11.SkewRuns', WHERE WHAT IT READS IS OF BULK AT MOST 1048576: true; the input reads as it did. -/
def skewRunsUptoRow : OpenClaim := { program := "ytechoojcgdjcdaa", sum := "c87853398a3a0ef3119f6fdab376d77c85a4984ce1829a2401c75ec2328b5055", func := "haycock/haycocklaw11.SkewRuns", spec := "skewRuns", unfollowed := true, recurses := true, apart := false, narrowed := true }
def SkewRunsUptoSaid : Prop := skewRunsUptoRow.holds Try.pinned (OpenSpec.upto skewRunsSpec)

/-- 'haycocklaw11.SkewWholes', WHERE WHAT IT READS IS OF BULK AT MOST 1048576: true; the input reads as it did. -/
def skewWholesUptoRow : OpenClaim := { program := "ytechoojcgdjcdaa", sum := "c87853398a3a0ef3119f6fdab376d77c85a4984ce1829a2401c75ec2328b5055", func := "haycock/haycocklaw11.SkewWholes", spec := "skewWholes", unfollowed := true, recurses := true, apart := false, narrowed := true }
def SkewWholesUptoSaid : Prop := skewWholesUptoRow.holds Try.pinned (OpenSpec.upto skewWholesSpec)

end Rows
end Go.Proofs.Ytechoojcgdjcdaa
