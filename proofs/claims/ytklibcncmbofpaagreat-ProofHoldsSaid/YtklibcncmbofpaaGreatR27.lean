/-
  Lemmas for ProofHolds: TOps. Conditions: those of each lemma.
-/
import Derived.Test.YtklibcncmbofpaaGreatR02
import Derived.Test.YtklibcncmbofpaaGreatR17
set_option linter.all false
set_option maxHeartbeats 8000000
set_option maxRecDepth 10000
namespace Go.Proofs.YtklibcncmbofpaaGreat
open Go Go.RowKit
def iO(tr:Nat->BT)(h:Nat)(t:BT):Nat->BT:=fun q=>if q=h then t else tr q
end Go.Proofs.YtklibcncmbofpaaGreat
