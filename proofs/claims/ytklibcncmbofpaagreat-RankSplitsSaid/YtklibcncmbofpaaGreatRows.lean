/-
  No cell of these rows narrows 'for every input' (looked for: loops, veiled, ifaces, maps, wideKeys, modest, calm, conditions, laid).
  DERIVED. THE GIVEN ROWS OF THIS SEAT. 12 by the template 'for every input the law returns true; each argument reads behind the call as it read before'; 0 by the template 'total and deterministic' (their statements: YtklibcncmbofpaaGreatTotals.lean).
  GIVEN WITH THE SEED: the statements are not yours to turn. If you find one false, say at which input.
  Laid BY PROGRAM, IN A SANDBOX (cutbox-rows.mjs): the forced cells as the released guide's own fill.sh prints them over the translation bb0e06513dab6bce… (all of the seat's roots in one cut). By AI agents, Wed Nov 11 2026. No macro, syntax, notation, axiom, sorry.
-/
import Derived.Test.YtklibcncmbofpaaGreatChecked
import GoSem.Claim
import GoSem.ClaimJoined
import GoSem.ClaimMapViews
import Derived.JoinedTies
import Derived.KernelRfl
namespace Go.Proofs.YtklibcncmbofpaaGreat
/- THE CELL 'sum', in the pinned program and in every row, IS THE sha256 OF THE DUMP (.gsa) THAT YtklibcncmbofpaaGreatProg.lean LOADS. Nothing in Lean hashes anything: it is a label: what it is worth is what the hold of that sum in a sandbox is worth. -/
noncomputable def Tryz.pinned : Pinned := { name := "ytklibcncmbofpaagreat", sum := "bb0e06513dab6bce6d96ef842315c6ba81b8335def419276271bfccc58e02114", checked := Tryz.checked }
namespace Rows
def none {H : Type} : Left H := { results := [], args := [] }

/-- 'haycocklaw20.RankSorts': WHATEVER THE INPUT: true; the input reads as it did. -/
def rankSortsSpec : ChangeSpec := { name := "rankSorts", fn := fun _ => fun
  | [d1, d2, d3] => { results := [.lit (.bool true)], args := [d1, d2, d3] }
  | _ => none }
def rankSortsRow : OpenClaim := { program := "ytklibcncmbofpaagreat", sum := "bb0e06513dab6bce6d96ef842315c6ba81b8335def419276271bfccc58e02114", func := "haycock/haycocklaw20.RankSorts", spec := "rankSorts", unfollowed := true, recurses := true, plainKeys := false, apart := false }
def RankSortsSaid : Prop := rankSortsRow.holds Tryz.pinned (OpenSpec.ofChange rankSortsSpec)

/-- ITS FALSE NEIGHBOUR: 'it returns false'. Refute it at one input. -/
def rankSortsWrong : ChangeSpec := { name := "rankSorts", fn := fun _ => fun
  | [d1, d2, d3] => { results := [.lit (.bool false)], args := [d1, d2, d3] }
  | _ => none }
def RankSortsWrongFalsely : Prop := rankSortsRow.holds Tryz.pinned (OpenSpec.ofChange rankSortsWrong)

/-- 'haycocklaw20.RankMedians': WHATEVER THE INPUT: true; the input reads as it did. -/
def rankMediansSpec : ChangeSpec := { name := "rankMedians", fn := fun _ => fun
  | [d1, d2] => { results := [.lit (.bool true)], args := [d1, d2] }
  | _ => none }
def rankMediansRow : OpenClaim := { program := "ytklibcncmbofpaagreat", sum := "bb0e06513dab6bce6d96ef842315c6ba81b8335def419276271bfccc58e02114", func := "haycock/haycocklaw20.RankMedians", spec := "rankMedians", unfollowed := true, recurses := true, plainKeys := false, apart := false }
def RankMediansSaid : Prop := rankMediansRow.holds Tryz.pinned (OpenSpec.ofChange rankMediansSpec)

/-- ITS FALSE NEIGHBOUR: 'it returns false'. Refute it at one input. -/
def rankMediansWrong : ChangeSpec := { name := "rankMedians", fn := fun _ => fun
  | [d1, d2] => { results := [.lit (.bool false)], args := [d1, d2] }
  | _ => none }
def RankMediansWrongFalsely : Prop := rankMediansRow.holds Tryz.pinned (OpenSpec.ofChange rankMediansWrong)

/-- 'haycocklaw20.RankStable': WHATEVER THE INPUT: true; the input reads as it did. -/
def rankStableSpec : ChangeSpec := { name := "rankStable", fn := fun _ => fun
  | [d1, d2] => { results := [.lit (.bool true)], args := [d1, d2] }
  | _ => none }
def rankStableRow : OpenClaim := { program := "ytklibcncmbofpaagreat", sum := "bb0e06513dab6bce6d96ef842315c6ba81b8335def419276271bfccc58e02114", func := "haycock/haycocklaw20.RankStable", spec := "rankStable", unfollowed := true, recurses := true, plainKeys := false, apart := false }
def RankStableSaid : Prop := rankStableRow.holds Tryz.pinned (OpenSpec.ofChange rankStableSpec)

/-- ITS FALSE NEIGHBOUR: 'it returns false'. Refute it at one input. -/
def rankStableWrong : ChangeSpec := { name := "rankStable", fn := fun _ => fun
  | [d1, d2] => { results := [.lit (.bool false)], args := [d1, d2] }
  | _ => none }
def RankStableWrongFalsely : Prop := rankStableRow.holds Tryz.pinned (OpenSpec.ofChange rankStableWrong)

/-- 'haycocklaw20.RankNames': WHATEVER THE INPUT: true; the input reads as it did. -/
def rankNamesSpec : ChangeSpec := { name := "rankNames", fn := fun _ => fun
  | [] => { results := [.lit (.bool true)], args := [] }
  | _ => none }
def rankNamesRow : OpenClaim := { program := "ytklibcncmbofpaagreat", sum := "bb0e06513dab6bce6d96ef842315c6ba81b8335def419276271bfccc58e02114", func := "haycock/haycocklaw20.RankNames", spec := "rankNames", unfollowed := true, recurses := true, plainKeys := false, apart := false }
def RankNamesSaid : Prop := rankNamesRow.holds Tryz.pinned (OpenSpec.ofChange rankNamesSpec)

/-- ITS FALSE NEIGHBOUR: 'it returns false'. Refute it at one input. -/
def rankNamesWrong : ChangeSpec := { name := "rankNames", fn := fun _ => fun
  | [] => { results := [.lit (.bool false)], args := [] }
  | _ => none }
def RankNamesWrongFalsely : Prop := rankNamesRow.holds Tryz.pinned (OpenSpec.ofChange rankNamesWrong)

/-- 'haycocklaw20.RankMerges': WHATEVER THE INPUT: true; the input reads as it did. -/
def rankMergesSpec : ChangeSpec := { name := "rankMerges", fn := fun _ => fun
  | [d1, d2] => { results := [.lit (.bool true)], args := [d1, d2] }
  | _ => none }
def rankMergesRow : OpenClaim := { program := "ytklibcncmbofpaagreat", sum := "bb0e06513dab6bce6d96ef842315c6ba81b8335def419276271bfccc58e02114", func := "haycock/haycocklaw20.RankMerges", spec := "rankMerges", unfollowed := true, recurses := true, plainKeys := false, apart := false }
def RankMergesSaid : Prop := rankMergesRow.holds Tryz.pinned (OpenSpec.ofChange rankMergesSpec)

/-- ITS FALSE NEIGHBOUR: 'it returns false'. Refute it at one input. -/
def rankMergesWrong : ChangeSpec := { name := "rankMerges", fn := fun _ => fun
  | [d1, d2] => { results := [.lit (.bool false)], args := [d1, d2] }
  | _ => none }
def RankMergesWrongFalsely : Prop := rankMergesRow.holds Tryz.pinned (OpenSpec.ofChange rankMergesWrong)

/-- 'haycocklaw20.RankSplits': WHATEVER THE INPUT: true; the input reads as it did. -/
def rankSplitsSpec : ChangeSpec := { name := "rankSplits", fn := fun _ => fun
  | [d1, d2, d3] => { results := [.lit (.bool true)], args := [d1, d2, d3] }
  | _ => none }
def rankSplitsRow : OpenClaim := { program := "ytklibcncmbofpaagreat", sum := "bb0e06513dab6bce6d96ef842315c6ba81b8335def419276271bfccc58e02114", func := "haycock/haycocklaw20.RankSplits", spec := "rankSplits", unfollowed := true, recurses := true, plainKeys := false, apart := false }
def RankSplitsSaid : Prop := rankSplitsRow.holds Tryz.pinned (OpenSpec.ofChange rankSplitsSpec)

/-- ITS FALSE NEIGHBOUR: 'it returns false'. Refute it at one input. -/
def rankSplitsWrong : ChangeSpec := { name := "rankSplits", fn := fun _ => fun
  | [d1, d2, d3] => { results := [.lit (.bool false)], args := [d1, d2, d3] }
  | _ => none }
def RankSplitsWrongFalsely : Prop := rankSplitsRow.holds Tryz.pinned (OpenSpec.ofChange rankSplitsWrong)

/-- 'haycocklaw22.PathShortest': WHATEVER THE INPUT: true; the input reads as it did. -/
def pathShortestSpec : ChangeSpec := { name := "pathShortest", fn := fun _ => fun
  | [d1, d2, d3] => { results := [.lit (.bool true)], args := [d1, d2, d3] }
  | _ => none }
def pathShortestRow : OpenClaim := { program := "ytklibcncmbofpaagreat", sum := "bb0e06513dab6bce6d96ef842315c6ba81b8335def419276271bfccc58e02114", func := "haycock/haycocklaw22.PathShortest", spec := "pathShortest", unfollowed := true, recurses := true, plainKeys := false, apart := false }
def PathShortestSaid : Prop := pathShortestRow.holds Tryz.pinned (OpenSpec.ofChange pathShortestSpec)

/-- ITS FALSE NEIGHBOUR: 'it returns false'. Refute it at one input. -/
def pathShortestWrong : ChangeSpec := { name := "pathShortest", fn := fun _ => fun
  | [d1, d2, d3] => { results := [.lit (.bool false)], args := [d1, d2, d3] }
  | _ => none }
def PathShortestWrongFalsely : Prop := pathShortestRow.holds Tryz.pinned (OpenSpec.ofChange pathShortestWrong)

/-- 'haycocklaw22.PathAlike': WHATEVER THE INPUT: true; the input reads as it did. -/
def pathAlikeSpec : ChangeSpec := { name := "pathAlike", fn := fun _ => fun
  | [d1, d2, d3] => { results := [.lit (.bool true)], args := [d1, d2, d3] }
  | _ => none }
def pathAlikeRow : OpenClaim := { program := "ytklibcncmbofpaagreat", sum := "bb0e06513dab6bce6d96ef842315c6ba81b8335def419276271bfccc58e02114", func := "haycock/haycocklaw22.PathAlike", spec := "pathAlike", unfollowed := true, recurses := true, plainKeys := false, apart := false }
def PathAlikeSaid : Prop := pathAlikeRow.holds Tryz.pinned (OpenSpec.ofChange pathAlikeSpec)

/-- ITS FALSE NEIGHBOUR: 'it returns false'. Refute it at one input. -/
def pathAlikeWrong : ChangeSpec := { name := "pathAlike", fn := fun _ => fun
  | [d1, d2, d3] => { results := [.lit (.bool false)], args := [d1, d2, d3] }
  | _ => none }
def PathAlikeWrongFalsely : Prop := pathAlikeRow.holds Tryz.pinned (OpenSpec.ofChange pathAlikeWrong)

/-- 'haycocklaw22.PathWays': WHATEVER THE INPUT: true; the input reads as it did. -/
def pathWaysSpec : ChangeSpec := { name := "pathWays", fn := fun _ => fun
  | [d1, d2, d3] => { results := [.lit (.bool true)], args := [d1, d2, d3] }
  | _ => none }
def pathWaysRow : OpenClaim := { program := "ytklibcncmbofpaagreat", sum := "bb0e06513dab6bce6d96ef842315c6ba81b8335def419276271bfccc58e02114", func := "haycock/haycocklaw22.PathWays", spec := "pathWays", unfollowed := true, recurses := true, plainKeys := false, apart := false }
def PathWaysSaid : Prop := pathWaysRow.holds Tryz.pinned (OpenSpec.ofChange pathWaysSpec)

/-- ITS FALSE NEIGHBOUR: 'it returns false'. Refute it at one input. -/
def pathWaysWrong : ChangeSpec := { name := "pathWays", fn := fun _ => fun
  | [d1, d2, d3] => { results := [.lit (.bool false)], args := [d1, d2, d3] }
  | _ => none }
def PathWaysWrongFalsely : Prop := pathWaysRow.holds Tryz.pinned (OpenSpec.ofChange pathWaysWrong)

/-- 'haycocklaw22.PathBest': WHATEVER THE INPUT: true; the input reads as it did. -/
def pathBestSpec : ChangeSpec := { name := "pathBest", fn := fun _ => fun
  | [d1, d2, d3] => { results := [.lit (.bool true)], args := [d1, d2, d3] }
  | _ => none }
def pathBestRow : OpenClaim := { program := "ytklibcncmbofpaagreat", sum := "bb0e06513dab6bce6d96ef842315c6ba81b8335def419276271bfccc58e02114", func := "haycock/haycocklaw22.PathBest", spec := "pathBest", unfollowed := true, recurses := true, plainKeys := false, apart := false }
def PathBestSaid : Prop := pathBestRow.holds Tryz.pinned (OpenSpec.ofChange pathBestSpec)

/-- ITS FALSE NEIGHBOUR: 'it returns false'. Refute it at one input. -/
def pathBestWrong : ChangeSpec := { name := "pathBest", fn := fun _ => fun
  | [d1, d2, d3] => { results := [.lit (.bool false)], args := [d1, d2, d3] }
  | _ => none }
def PathBestWrongFalsely : Prop := pathBestRow.holds Tryz.pinned (OpenSpec.ofChange pathBestWrong)

/-- 'haycocklaw23.ProofHolds': WHATEVER THE INPUT: true; the input reads as it did. -/
def proofHoldsSpec : ChangeSpec := { name := "proofHolds", fn := fun _ => fun
  | [d1, d2, d3] => { results := [.lit (.bool true)], args := [d1, d2, d3] }
  | _ => none }
def proofHoldsRow : OpenClaim := { program := "ytklibcncmbofpaagreat", sum := "bb0e06513dab6bce6d96ef842315c6ba81b8335def419276271bfccc58e02114", func := "haycock/haycocklaw23.ProofHolds", spec := "proofHolds", unfollowed := true, recurses := true, plainKeys := false, apart := false }
def ProofHoldsSaid : Prop := proofHoldsRow.holds Tryz.pinned (OpenSpec.ofChange proofHoldsSpec)

/-- ITS FALSE NEIGHBOUR: 'it returns false'. Refute it at one input. -/
def proofHoldsWrong : ChangeSpec := { name := "proofHolds", fn := fun _ => fun
  | [d1, d2, d3] => { results := [.lit (.bool false)], args := [d1, d2, d3] }
  | _ => none }
def ProofHoldsWrongFalsely : Prop := proofHoldsRow.holds Tryz.pinned (OpenSpec.ofChange proofHoldsWrong)

/-- 'haycocklaw23.ProofOne': WHATEVER THE INPUT: true; the input reads as it did. -/
def proofOneSpec : ChangeSpec := { name := "proofOne", fn := fun _ => fun
  | [d1, d2, d3] => { results := [.lit (.bool true)], args := [d1, d2, d3] }
  | _ => none }
def proofOneRow : OpenClaim := { program := "ytklibcncmbofpaagreat", sum := "bb0e06513dab6bce6d96ef842315c6ba81b8335def419276271bfccc58e02114", func := "haycock/haycocklaw23.ProofOne", spec := "proofOne", unfollowed := true, recurses := true, plainKeys := false, apart := false }
def ProofOneSaid : Prop := proofOneRow.holds Tryz.pinned (OpenSpec.ofChange proofOneSpec)

/-- ITS FALSE NEIGHBOUR: 'it returns false'. Refute it at one input. -/
def proofOneWrong : ChangeSpec := { name := "proofOne", fn := fun _ => fun
  | [d1, d2, d3] => { results := [.lit (.bool false)], args := [d1, d2, d3] }
  | _ => none }
def ProofOneWrongFalsely : Prop := proofOneRow.holds Tryz.pinned (OpenSpec.ofChange proofOneWrong)

/- THE SECOND FORM. 'bulk': how many values and letters a reading holds, each counted each time it is reached (what is shared counts as often as it is met; a slice's spare places count too). A statement '..UptoSaid' is the law's where the arguments, and the package variables that the reading takes, are together of bulk at most 1048576: NARROWER than '..Said'. Prove '..Said' where nothing that the law and all that it calls make is longer than what came in: it says more and counts as full. Else prove '..UptoSaid'. A law counts once. -/
mutual
def uptoBulk {H : Type} : DataW H → Nat
  | .lit (.string bytes) => bytes.length + 1
  | .lit _ => 1
  | .nil => 1
  | .ptr d => uptoBulk d + 1
  | .slice elems spare => uptoBulkAll elems + uptoBulkAll spare + 1
  | .agg parts => uptoBulkAll parts + 1
  | .iface _ d => uptoBulk d + 1
  | .map entries => uptoBulkEntries entries + 1
  | .held _ => 1
def uptoBulkAll {H : Type} : List (DataW H) → Nat
  | [] => 0
  | d :: r => uptoBulk d + uptoBulkAll r
def uptoBulkEntries {H : Type} : List (Lit × DataW H) → Nat
  | [] => 0
  | x :: r => uptoBulkEntry x + uptoBulkEntries r
def uptoBulkEntry {H : Type} : Lit × DataW H → Nat
  | (.string bytes, d) => bytes.length + uptoBulk d + 1
  | (_, d) => uptoBulk d + 1
 end
def uptoSmall : (H : Type) → List (DataW H) → Bool := fun _ ds => decide (uptoBulkAll ds ≤ 1048576)
def OpenSpec.upto (s : _root_.Go.ChangeSpec) : _root_.Go.OpenSpec := { _root_.Go.OpenSpec.ofChange s with cond := some uptoSmall }

/-- 'haycocklaw20.RankSorts', WHERE WHAT IT READS IS OF BULK AT MOST 1048576: true; the input reads as it did. -/
def rankSortsUptoRow : OpenClaim := { program := "ytklibcncmbofpaagreat", sum := "bb0e06513dab6bce6d96ef842315c6ba81b8335def419276271bfccc58e02114", func := "haycock/haycocklaw20.RankSorts", spec := "rankSorts", unfollowed := true, recurses := true, plainKeys := false, apart := false, narrowed := true }
def RankSortsUptoSaid : Prop := rankSortsUptoRow.holds Tryz.pinned (OpenSpec.upto rankSortsSpec)

/-- 'haycocklaw20.RankMedians', WHERE WHAT IT READS IS OF BULK AT MOST 1048576: true; the input reads as it did. -/
def rankMediansUptoRow : OpenClaim := { program := "ytklibcncmbofpaagreat", sum := "bb0e06513dab6bce6d96ef842315c6ba81b8335def419276271bfccc58e02114", func := "haycock/haycocklaw20.RankMedians", spec := "rankMedians", unfollowed := true, recurses := true, plainKeys := false, apart := false, narrowed := true }
def RankMediansUptoSaid : Prop := rankMediansUptoRow.holds Tryz.pinned (OpenSpec.upto rankMediansSpec)

/-- 'haycocklaw20.RankStable', WHERE WHAT IT READS IS OF BULK AT MOST 1048576: true; the input reads as it did. -/
def rankStableUptoRow : OpenClaim := { program := "ytklibcncmbofpaagreat", sum := "bb0e06513dab6bce6d96ef842315c6ba81b8335def419276271bfccc58e02114", func := "haycock/haycocklaw20.RankStable", spec := "rankStable", unfollowed := true, recurses := true, plainKeys := false, apart := false, narrowed := true }
def RankStableUptoSaid : Prop := rankStableUptoRow.holds Tryz.pinned (OpenSpec.upto rankStableSpec)

/-- 'haycocklaw20.RankNames', WHERE WHAT IT READS IS OF BULK AT MOST 1048576: true; the input reads as it did. -/
def rankNamesUptoRow : OpenClaim := { program := "ytklibcncmbofpaagreat", sum := "bb0e06513dab6bce6d96ef842315c6ba81b8335def419276271bfccc58e02114", func := "haycock/haycocklaw20.RankNames", spec := "rankNames", unfollowed := true, recurses := true, plainKeys := false, apart := false, narrowed := true }
def RankNamesUptoSaid : Prop := rankNamesUptoRow.holds Tryz.pinned (OpenSpec.upto rankNamesSpec)

/-- 'haycocklaw20.RankMerges', WHERE WHAT IT READS IS OF BULK AT MOST 1048576: true; the input reads as it did. -/
def rankMergesUptoRow : OpenClaim := { program := "ytklibcncmbofpaagreat", sum := "bb0e06513dab6bce6d96ef842315c6ba81b8335def419276271bfccc58e02114", func := "haycock/haycocklaw20.RankMerges", spec := "rankMerges", unfollowed := true, recurses := true, plainKeys := false, apart := false, narrowed := true }
def RankMergesUptoSaid : Prop := rankMergesUptoRow.holds Tryz.pinned (OpenSpec.upto rankMergesSpec)

/-- 'haycocklaw20.RankSplits', WHERE WHAT IT READS IS OF BULK AT MOST 1048576: true; the input reads as it did. -/
def rankSplitsUptoRow : OpenClaim := { program := "ytklibcncmbofpaagreat", sum := "bb0e06513dab6bce6d96ef842315c6ba81b8335def419276271bfccc58e02114", func := "haycock/haycocklaw20.RankSplits", spec := "rankSplits", unfollowed := true, recurses := true, plainKeys := false, apart := false, narrowed := true }
def RankSplitsUptoSaid : Prop := rankSplitsUptoRow.holds Tryz.pinned (OpenSpec.upto rankSplitsSpec)

/-- 'haycocklaw22.PathShortest', WHERE WHAT IT READS IS OF BULK AT MOST 1048576: true; the input reads as it did. -/
def pathShortestUptoRow : OpenClaim := { program := "ytklibcncmbofpaagreat", sum := "bb0e06513dab6bce6d96ef842315c6ba81b8335def419276271bfccc58e02114", func := "haycock/haycocklaw22.PathShortest", spec := "pathShortest", unfollowed := true, recurses := true, plainKeys := false, apart := false, narrowed := true }
def PathShortestUptoSaid : Prop := pathShortestUptoRow.holds Tryz.pinned (OpenSpec.upto pathShortestSpec)

/-- 'haycocklaw22.PathAlike', WHERE WHAT IT READS IS OF BULK AT MOST 1048576: true; the input reads as it did. -/
def pathAlikeUptoRow : OpenClaim := { program := "ytklibcncmbofpaagreat", sum := "bb0e06513dab6bce6d96ef842315c6ba81b8335def419276271bfccc58e02114", func := "haycock/haycocklaw22.PathAlike", spec := "pathAlike", unfollowed := true, recurses := true, plainKeys := false, apart := false, narrowed := true }
def PathAlikeUptoSaid : Prop := pathAlikeUptoRow.holds Tryz.pinned (OpenSpec.upto pathAlikeSpec)

/-- 'haycocklaw22.PathWays', WHERE WHAT IT READS IS OF BULK AT MOST 1048576: true; the input reads as it did. -/
def pathWaysUptoRow : OpenClaim := { program := "ytklibcncmbofpaagreat", sum := "bb0e06513dab6bce6d96ef842315c6ba81b8335def419276271bfccc58e02114", func := "haycock/haycocklaw22.PathWays", spec := "pathWays", unfollowed := true, recurses := true, plainKeys := false, apart := false, narrowed := true }
def PathWaysUptoSaid : Prop := pathWaysUptoRow.holds Tryz.pinned (OpenSpec.upto pathWaysSpec)

/-- 'haycocklaw22.PathBest', WHERE WHAT IT READS IS OF BULK AT MOST 1048576: true; the input reads as it did. -/
def pathBestUptoRow : OpenClaim := { program := "ytklibcncmbofpaagreat", sum := "bb0e06513dab6bce6d96ef842315c6ba81b8335def419276271bfccc58e02114", func := "haycock/haycocklaw22.PathBest", spec := "pathBest", unfollowed := true, recurses := true, plainKeys := false, apart := false, narrowed := true }
def PathBestUptoSaid : Prop := pathBestUptoRow.holds Tryz.pinned (OpenSpec.upto pathBestSpec)

/-- 'haycocklaw23.ProofHolds', WHERE WHAT IT READS IS OF BULK AT MOST 1048576: true; the input reads as it did. -/
def proofHoldsUptoRow : OpenClaim := { program := "ytklibcncmbofpaagreat", sum := "bb0e06513dab6bce6d96ef842315c6ba81b8335def419276271bfccc58e02114", func := "haycock/haycocklaw23.ProofHolds", spec := "proofHolds", unfollowed := true, recurses := true, plainKeys := false, apart := false, narrowed := true }
def ProofHoldsUptoSaid : Prop := proofHoldsUptoRow.holds Tryz.pinned (OpenSpec.upto proofHoldsSpec)

/-- 'haycocklaw23.ProofOne', WHERE WHAT IT READS IS OF BULK AT MOST 1048576: true; the input reads as it did. -/
def proofOneUptoRow : OpenClaim := { program := "ytklibcncmbofpaagreat", sum := "bb0e06513dab6bce6d96ef842315c6ba81b8335def419276271bfccc58e02114", func := "haycock/haycocklaw23.ProofOne", spec := "proofOne", unfollowed := true, recurses := true, plainKeys := false, apart := false, narrowed := true }
def ProofOneUptoSaid : Prop := proofOneUptoRow.holds Tryz.pinned (OpenSpec.upto proofOneSpec)

end Rows
end Go.Proofs.YtklibcncmbofpaaGreat
