/-
  No cell of these rows narrows 'for every input' (looked for: loops, veiled, ifaces, maps, wideKeys, modest, calm, conditions, laid).
  DERIVED. THE GIVEN ROWS OF THIS SEAT. 7 by the template 'for every input the law returns true; each argument reads behind the call as it read before'; 0 by the template 'total and deterministic' (their statements: YtnpdakpagnpanaaGreatTotals.lean).
  GIVEN WITH THE SEED: the statements are not yours to turn. If you find one false, say at which input.
  Laid BY PROGRAM, IN A SANDBOX (cutbox-rows.mjs): the forced cells as the released guide's own fill.sh prints them over the translation 39ef166ac2e3dda4… (all of the seat's roots in one cut). By AI agents, Wed Nov 11 2026. No macro, syntax, notation, axiom, sorry.
-/
import Derived.Test.YtnpdakpagnpanaaGreatChecked
import GoSem.Claim
import GoSem.ClaimJoined
import GoSem.ClaimMapViews
import Derived.JoinedTies
import Derived.KernelRfl
namespace Go.Proofs.YtnpdakpagnpanaaGreat
/- THE CELL 'sum', in the pinned program and in every row, IS THE sha256 OF THE DUMP (.gsa) THAT YtnpdakpagnpanaaGreatProg.lean LOADS. Nothing in Lean hashes anything: it is a label: what it is worth is what the hold of that sum in a sandbox is worth. -/
noncomputable def Tryz.pinned : Pinned := { name := "ytnpdakpagnpanaagreat", sum := "39ef166ac2e3dda48f1d2b2f71953c1d99eee942f1c5bcb6ac96d52764ccd8b1", checked := Tryz.checked }
namespace Rows
def none {H : Type} : Left H := { results := [], args := [] }

/-- 'haycocklaw17.PqOpens': WHATEVER THE INPUT: true; the input reads as it did. -/
def pqOpensSpec : ChangeSpec := { name := "pqOpens", fn := fun _ => fun
  | [d1, d2, d3] => { results := [.lit (.bool true)], args := [d1, d2, d3] }
  | _ => none }
def pqOpensRow : OpenClaim := { program := "ytnpdakpagnpanaagreat", sum := "39ef166ac2e3dda48f1d2b2f71953c1d99eee942f1c5bcb6ac96d52764ccd8b1", func := "haycock/haycocklaw17.PqOpens", spec := "pqOpens", unfollowed := true, recurses := true, apart := false }
def PqOpensSaid : Prop := pqOpensRow.holds Tryz.pinned (OpenSpec.ofChange pqOpensSpec)

/-- ITS FALSE NEIGHBOUR: 'it returns false'. Refute it at one input. -/
def pqOpensWrong : ChangeSpec := { name := "pqOpens", fn := fun _ => fun
  | [d1, d2, d3] => { results := [.lit (.bool false)], args := [d1, d2, d3] }
  | _ => none }
def PqOpensWrongFalsely : Prop := pqOpensRow.holds Tryz.pinned (OpenSpec.ofChange pqOpensWrong)

/-- 'haycocklaw17.PqNames': WHATEVER THE INPUT: true; the input reads as it did. -/
def pqNamesSpec : ChangeSpec := { name := "pqNames", fn := fun _ => fun
  | [] => { results := [.lit (.bool true)], args := [] }
  | _ => none }
def pqNamesRow : OpenClaim := { program := "ytnpdakpagnpanaagreat", sum := "39ef166ac2e3dda48f1d2b2f71953c1d99eee942f1c5bcb6ac96d52764ccd8b1", func := "haycock/haycocklaw17.PqNames", spec := "pqNames", unfollowed := true, recurses := true, apart := false }
def PqNamesSaid : Prop := pqNamesRow.holds Tryz.pinned (OpenSpec.ofChange pqNamesSpec)

/-- ITS FALSE NEIGHBOUR: 'it returns false'. Refute it at one input. -/
def pqNamesWrong : ChangeSpec := { name := "pqNames", fn := fun _ => fun
  | [] => { results := [.lit (.bool false)], args := [] }
  | _ => none }
def PqNamesWrongFalsely : Prop := pqNamesRow.holds Tryz.pinned (OpenSpec.ofChange pqNamesWrong)

/-- 'haycocklaw17.PqSorts': WHATEVER THE INPUT: true; the input reads as it did. -/
def pqSortsSpec : ChangeSpec := { name := "pqSorts", fn := fun _ => fun
  | [d1, d2, d3] => { results := [.lit (.bool true)], args := [d1, d2, d3] }
  | _ => none }
def pqSortsRow : OpenClaim := { program := "ytnpdakpagnpanaagreat", sum := "39ef166ac2e3dda48f1d2b2f71953c1d99eee942f1c5bcb6ac96d52764ccd8b1", func := "haycock/haycocklaw17.PqSorts", spec := "pqSorts", unfollowed := true, recurses := true, apart := false }
def PqSortsSaid : Prop := pqSortsRow.holds Tryz.pinned (OpenSpec.ofChange pqSortsSpec)

/-- ITS FALSE NEIGHBOUR: 'it returns false'. Refute it at one input. -/
def pqSortsWrong : ChangeSpec := { name := "pqSorts", fn := fun _ => fun
  | [d1, d2, d3] => { results := [.lit (.bool false)], args := [d1, d2, d3] }
  | _ => none }
def PqSortsWrongFalsely : Prop := pqSortsRow.holds Tryz.pinned (OpenSpec.ofChange pqSortsWrong)

/-- 'haycocklaw17.PqRuns': WHATEVER THE INPUT: true; the input reads as it did. -/
def pqRunsSpec : ChangeSpec := { name := "pqRuns", fn := fun _ => fun
  | [d1, d2] => { results := [.lit (.bool true)], args := [d1, d2] }
  | _ => none }
def pqRunsRow : OpenClaim := { program := "ytnpdakpagnpanaagreat", sum := "39ef166ac2e3dda48f1d2b2f71953c1d99eee942f1c5bcb6ac96d52764ccd8b1", func := "haycock/haycocklaw17.PqRuns", spec := "pqRuns", unfollowed := true, recurses := true, apart := false }
def PqRunsSaid : Prop := pqRunsRow.holds Tryz.pinned (OpenSpec.ofChange pqRunsSpec)

/-- ITS FALSE NEIGHBOUR: 'it returns false'. Refute it at one input. -/
def pqRunsWrong : ChangeSpec := { name := "pqRuns", fn := fun _ => fun
  | [d1, d2] => { results := [.lit (.bool false)], args := [d1, d2] }
  | _ => none }
def PqRunsWrongFalsely : Prop := pqRunsRow.holds Tryz.pinned (OpenSpec.ofChange pqRunsWrong)

/-- 'haycocklaw17.PqAlike': WHATEVER THE INPUT: true; the input reads as it did. -/
def pqAlikeSpec : ChangeSpec := { name := "pqAlike", fn := fun _ => fun
  | [d1, d2, d3] => { results := [.lit (.bool true)], args := [d1, d2, d3] }
  | _ => none }
def pqAlikeRow : OpenClaim := { program := "ytnpdakpagnpanaagreat", sum := "39ef166ac2e3dda48f1d2b2f71953c1d99eee942f1c5bcb6ac96d52764ccd8b1", func := "haycock/haycocklaw17.PqAlike", spec := "pqAlike", unfollowed := true, recurses := true, apart := false }
def PqAlikeSaid : Prop := pqAlikeRow.holds Tryz.pinned (OpenSpec.ofChange pqAlikeSpec)

/-- ITS FALSE NEIGHBOUR: 'it returns false'. Refute it at one input. -/
def pqAlikeWrong : ChangeSpec := { name := "pqAlike", fn := fun _ => fun
  | [d1, d2, d3] => { results := [.lit (.bool false)], args := [d1, d2, d3] }
  | _ => none }
def PqAlikeWrongFalsely : Prop := pqAlikeRow.holds Tryz.pinned (OpenSpec.ofChange pqAlikeWrong)

/-- 'haycocklaw17.PqRefuses': WHATEVER THE INPUT: true; the input reads as it did. -/
def pqRefusesSpec : ChangeSpec := { name := "pqRefuses", fn := fun _ => fun
  | [d1, d2] => { results := [.lit (.bool true)], args := [d1, d2] }
  | _ => none }
def pqRefusesRow : OpenClaim := { program := "ytnpdakpagnpanaagreat", sum := "39ef166ac2e3dda48f1d2b2f71953c1d99eee942f1c5bcb6ac96d52764ccd8b1", func := "haycock/haycocklaw17.PqRefuses", spec := "pqRefuses", unfollowed := true, recurses := true, apart := false }
def PqRefusesSaid : Prop := pqRefusesRow.holds Tryz.pinned (OpenSpec.ofChange pqRefusesSpec)

/-- ITS FALSE NEIGHBOUR: 'it returns false'. Refute it at one input. -/
def pqRefusesWrong : ChangeSpec := { name := "pqRefuses", fn := fun _ => fun
  | [d1, d2] => { results := [.lit (.bool false)], args := [d1, d2] }
  | _ => none }
def PqRefusesWrongFalsely : Prop := pqRefusesRow.holds Tryz.pinned (OpenSpec.ofChange pqRefusesWrong)

/-- 'haycocklaw17.PqOnce': WHATEVER THE INPUT: true; the input reads as it did. -/
def pqOnceSpec : ChangeSpec := { name := "pqOnce", fn := fun _ => fun
  | [d1, d2] => { results := [.lit (.bool true)], args := [d1, d2] }
  | _ => none }
def pqOnceRow : OpenClaim := { program := "ytnpdakpagnpanaagreat", sum := "39ef166ac2e3dda48f1d2b2f71953c1d99eee942f1c5bcb6ac96d52764ccd8b1", func := "haycock/haycocklaw17.PqOnce", spec := "pqOnce", unfollowed := true, recurses := true, apart := false }
def PqOnceSaid : Prop := pqOnceRow.holds Tryz.pinned (OpenSpec.ofChange pqOnceSpec)

/-- ITS FALSE NEIGHBOUR: 'it returns false'. Refute it at one input. -/
def pqOnceWrong : ChangeSpec := { name := "pqOnce", fn := fun _ => fun
  | [d1, d2] => { results := [.lit (.bool false)], args := [d1, d2] }
  | _ => none }
def PqOnceWrongFalsely : Prop := pqOnceRow.holds Tryz.pinned (OpenSpec.ofChange pqOnceWrong)

/- THE SECOND FORM. 'bulk': how many values and letters a reading holds, each counted each time it is reached (what is shared counts as often as it is met; a slice's spare places count too). A statement '..UptoSaid' is the law's where the arguments, and the package variables that the reading takes, are together of bulk at most 1048576: NARROWER than '..Said'. Prove '..Said' where nothing that the law and all that it calls make is longer than what came in: it says more and counts as full. Else prove '..UptoSaid'. A law counts once. -/
mutual
def uptoBulk {H : Type} : DataW H → Nat
  | .lit (.string bytes) => bytes.length + 1
  | .lit _ => 1
  | .nil => 1
  | .ptr d => uptoBulk d + 1
  | .slice elems spare => uptoBulkAll elems + uptoBulkAll spare + 1
  | .agg parts => uptoBulkAll parts + 1
  | .iface _ d => uptoBulk d + 1
  | .map entries => uptoBulkEntries entries + 1
  | .held _ => 1
def uptoBulkAll {H : Type} : List (DataW H) → Nat
  | [] => 0
  | d :: r => uptoBulk d + uptoBulkAll r
def uptoBulkEntries {H : Type} : List (Lit × DataW H) → Nat
  | [] => 0
  | x :: r => uptoBulkEntry x + uptoBulkEntries r
def uptoBulkEntry {H : Type} : Lit × DataW H → Nat
  | (.string bytes, d) => bytes.length + uptoBulk d + 1
  | (_, d) => uptoBulk d + 1
 end
def uptoSmall : (H : Type) → List (DataW H) → Bool := fun _ ds => decide (uptoBulkAll ds ≤ 1048576)
def OpenSpec.upto (s : _root_.Go.ChangeSpec) : _root_.Go.OpenSpec := { _root_.Go.OpenSpec.ofChange s with cond := some uptoSmall }

/-- 'haycocklaw17.PqOpens', WHERE WHAT IT READS IS OF BULK AT MOST 1048576: true; the input reads as it did. -/
def pqOpensUptoRow : OpenClaim := { program := "ytnpdakpagnpanaagreat", sum := "39ef166ac2e3dda48f1d2b2f71953c1d99eee942f1c5bcb6ac96d52764ccd8b1", func := "haycock/haycocklaw17.PqOpens", spec := "pqOpens", unfollowed := true, recurses := true, apart := false, narrowed := true }
def PqOpensUptoSaid : Prop := pqOpensUptoRow.holds Tryz.pinned (OpenSpec.upto pqOpensSpec)

/-- 'haycocklaw17.PqNames', WHERE WHAT IT READS IS OF BULK AT MOST 1048576: true; the input reads as it did. -/
def pqNamesUptoRow : OpenClaim := { program := "ytnpdakpagnpanaagreat", sum := "39ef166ac2e3dda48f1d2b2f71953c1d99eee942f1c5bcb6ac96d52764ccd8b1", func := "haycock/haycocklaw17.PqNames", spec := "pqNames", unfollowed := true, recurses := true, apart := false, narrowed := true }
def PqNamesUptoSaid : Prop := pqNamesUptoRow.holds Tryz.pinned (OpenSpec.upto pqNamesSpec)

/-- 'haycocklaw17.PqSorts', WHERE WHAT IT READS IS OF BULK AT MOST 1048576: true; the input reads as it did. -/
def pqSortsUptoRow : OpenClaim := { program := "ytnpdakpagnpanaagreat", sum := "39ef166ac2e3dda48f1d2b2f71953c1d99eee942f1c5bcb6ac96d52764ccd8b1", func := "haycock/haycocklaw17.PqSorts", spec := "pqSorts", unfollowed := true, recurses := true, apart := false, narrowed := true }
def PqSortsUptoSaid : Prop := pqSortsUptoRow.holds Tryz.pinned (OpenSpec.upto pqSortsSpec)

/-- 'haycocklaw17.PqRuns', WHERE WHAT IT READS IS OF BULK AT MOST 1048576: true; the input reads as it did. -/
def pqRunsUptoRow : OpenClaim := { program := "ytnpdakpagnpanaagreat", sum := "39ef166ac2e3dda48f1d2b2f71953c1d99eee942f1c5bcb6ac96d52764ccd8b1", func := "haycock/haycocklaw17.PqRuns", spec := "pqRuns", unfollowed := true, recurses := true, apart := false, narrowed := true }
def PqRunsUptoSaid : Prop := pqRunsUptoRow.holds Tryz.pinned (OpenSpec.upto pqRunsSpec)

/-- 'haycocklaw17.PqAlike', WHERE WHAT IT READS IS OF BULK AT MOST 1048576: true; the input reads as it did. -/
def pqAlikeUptoRow : OpenClaim := { program := "ytnpdakpagnpanaagreat", sum := "39ef166ac2e3dda48f1d2b2f71953c1d99eee942f1c5bcb6ac96d52764ccd8b1", func := "haycock/haycocklaw17.PqAlike", spec := "pqAlike", unfollowed := true, recurses := true, apart := false, narrowed := true }
def PqAlikeUptoSaid : Prop := pqAlikeUptoRow.holds Tryz.pinned (OpenSpec.upto pqAlikeSpec)

/-- 'haycocklaw17.PqRefuses', WHERE WHAT IT READS IS OF BULK AT MOST 1048576: true; the input reads as it did. -/
def pqRefusesUptoRow : OpenClaim := { program := "ytnpdakpagnpanaagreat", sum := "39ef166ac2e3dda48f1d2b2f71953c1d99eee942f1c5bcb6ac96d52764ccd8b1", func := "haycock/haycocklaw17.PqRefuses", spec := "pqRefuses", unfollowed := true, recurses := true, apart := false, narrowed := true }
def PqRefusesUptoSaid : Prop := pqRefusesUptoRow.holds Tryz.pinned (OpenSpec.upto pqRefusesSpec)

/-- 'haycocklaw17.PqOnce', WHERE WHAT IT READS IS OF BULK AT MOST 1048576: true; the input reads as it did. -/
def pqOnceUptoRow : OpenClaim := { program := "ytnpdakpagnpanaagreat", sum := "39ef166ac2e3dda48f1d2b2f71953c1d99eee942f1c5bcb6ac96d52764ccd8b1", func := "haycock/haycocklaw17.PqOnce", spec := "pqOnce", unfollowed := true, recurses := true, apart := false, narrowed := true }
def PqOnceUptoSaid : Prop := pqOnceUptoRow.holds Tryz.pinned (OpenSpec.upto pqOnceSpec)

end Rows
end Go.Proofs.YtnpdakpagnpanaaGreat
