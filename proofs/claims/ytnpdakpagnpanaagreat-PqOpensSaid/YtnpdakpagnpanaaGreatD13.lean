/-
  Lemmas for PqOpens: RkI. Conditions: those of each lemma.
-/
import Derived.Lib.SmallJoins
import Derived.Test.YtnpdakpagnpanaaGreatD01
set_option linter.all false
set_option maxHeartbeats 8000000
set_option maxRecDepth 10000
namespace Go.Proofs.YtnpdakpagnpanaaGreat
open Go Go.RowKit
theorem Fy {x:Int} (h:(Lit.int .i64 x).wf=true):-9223372036854775808<=x/\x<=9223372036854775807:=by
 simp [Lit.wf,IntKind.min,IntKind.max,IntKind.signed,IntKind.bits] at h;omega
end Go.Proofs.YtnpdakpagnpanaaGreat
