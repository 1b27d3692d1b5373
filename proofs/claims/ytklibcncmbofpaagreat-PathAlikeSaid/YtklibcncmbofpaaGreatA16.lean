/-
  Lemmas for PathAlike: Shelf. Conditions: those of each lemma.
-/
import Derived.Shelf.Bits.Mul64
import Derived.Shelf.Slices.Reverse
import Derived.Shelf.Slices.Cells
import Derived.Ground.SlgnProg
import Derived.Shelf.SlicesE.Clone
import Derived.Test.YtklibcncmbofpaaGreatProg
set_option linter.all false
set_option maxHeartbeats 8000000
set_option maxRecDepth 10000
namespace Go.Proofs
open Go.Shelf
def Tryz.GH:Go.Shelf.Ren:=⟨fun|264=>75|n=>n,fun|53=>122|46=>166|n=>n,fun|n=>n⟩
theorem Tryz.Wd:Go.Proofs.Lays.n264 Tryz.prog Tryz.GH:={
 mixed:=by kernel_rfl
 f264:=Tryz.func75.trans (congrArg some (by kernel_rfl))
 t46:=Tryz.underlying166
 a46:=Tryz.isAgg166
 z46:=Tryz.sizeOf166
 v46:=Tryz.zeroValue166
 t53:=Tryz.underlying122
 a53:=Tryz.isAgg122
 z53:=Tryz.sizeOf122
 v53:=Tryz.zeroValue122 }
open Go.RowKit Go.Lib in
theorem Tryz.bits_Mul64 (x y:Nat) (hx:x<18446744073709551616) (hy:y<18446744073709551616) (w:World) :
  Calls Tryz.prog 75 #[.int .u64 x,.int .u64 y] w fun e w'=>e=.returned (.tuple #[.int .u64 ((x*y / 18446744073709551616:Nat):Int),.int .u64 ((x*y % 18446744073709551616:Nat):Int)])/\w'=w:=Any.bits_Mul64 Tryz.Wd x y hx hy w
end Go.Proofs
