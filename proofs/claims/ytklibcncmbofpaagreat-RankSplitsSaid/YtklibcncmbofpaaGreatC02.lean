/-
  Lemmas for RankSplits: Edg, Idx, PrP. Conditions: those of each lemma.
-/
import Derived.Deep.Slices
import Derived.Deep.Strs
import Derived.Lib.Mul64
import Derived.Laws.Bits64b
import Derived.Test.YtklibcncmbofpaaGreatC01
set_option linter.all false
set_option maxHeartbeats 8000000
set_option maxRecDepth 10000
namespace Go.Proofs.YtklibcncmbofpaaGreat
open Go Go.RowKit
structure Ed where
 f:Int
 t:Int
 w:Int
instance:Inhabited Ed:=⟨⟨0,0,0⟩⟩
def Jy (b:Bool) (w:World) (r:Ending) (w':World):Prop:=∃i:Int,r=.returned (.int .i64 i)/\decide (0<=i)=b/\aa [] w w'
theorem P8 {α:Type} (P:α->Bool) (l:List α) (k:Nat) (x:α) (hx:l[k]?=some x):(l.take (k+1)).any P=((l.take k).any P || P x):=by
 rw [ϐ,hx];simp
end Go.Proofs.YtklibcncmbofpaaGreat
namespace Go.Proofs.YtklibcncmbofpaaGreat
def inf:Nat:=9223372036854775807
def d0 (s:Nat):Nat->Nat:=fun v=>if v=s then 0 else inf
end Go.Proofs.YtklibcncmbofpaaGreat
