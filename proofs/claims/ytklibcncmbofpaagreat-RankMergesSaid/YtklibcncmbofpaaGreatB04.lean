/-
  Lemmas for RankMerges: PrP, Edg, Idx, PrI. Conditions: those of each lemma.
-/
import Derived.Deep.Slices
import Derived.Deep.Strs
import Derived.Lib.Mul64
import Derived.Laws.Bits64b
import Derived.Lib.SmallJoins
import Derived.Test.YtklibcncmbofpaaGreatB01
set_option linter.all false
set_option maxHeartbeats 8000000
set_option maxRecDepth 10000
namespace Go.Proofs.YtklibcncmbofpaaGreat
def inf:Nat:=9223372036854775807
def d0 (s:Nat):Nat->Nat:=fun v=>if v=s then 0 else inf
end Go.Proofs.YtklibcncmbofpaaGreat
namespace Go.Proofs.YtklibcncmbofpaaGreat
open Go Go.RowKit
structure Ed where
 f:Int
 t:Int
 w:Int
instance:Inhabited Ed:=⟨⟨0,0,0⟩⟩
def JF (b:Bool) (w:World) (r:Ending) (w':World):Prop:=∃i:Int,r=.returned (.int .i64 i)/\decide (0<=i)=b/\aa [] w w'
theorem Qb {α:Type} (P:α->Bool) (l:List α) (k:Nat) (x:α) (hx:l[k]?=some x):(l.take (k+1)).any P=((l.take k).any P || P x):=by
 rw [ϐ,hx];simp
set_option maxRecDepth 100000 in
open Go.ChangeShapes Go.ChangeAt Go.WideShapes in
theorem EX {H:Type} {enc:TypeId×Value->H} {P:Program} {W:World} {T E:TypeId} {v:Value} {y:DataW H×List MemPlace} {m:Nat} {base:Nat} {sp:Nat->Bool}
  (hT:P.underlying T=some (.slice E)) (hE:P.underlying E=some (.int .i64)) (hc:P.cellsOf E=1) (hf:DataW.trod enc P W base sp true m T [v]=some y) :
  ∃zs,fM W [] v zs/\∀n,n∈zs->-9223372036854775808<=n/\n<=9223372036854775807:=by
 rcases open_ints hT hE hc hf with ⟨hcs,_⟩|⟨x,l,c,zs,hcs,_,hl,hm,hz,_,hcell,hwz⟩
 ·simp at hcs;subst hcs;exact ⟨[],⟨none,0,rfl,σ,ω,fun j u h=>by simp at h⟩,fun n hn=>by cases hn⟩
 ·simp at hcs;subst hcs;have hlz:l<=zs.length:=by rw [hz];split<;>omega
  have ht:(zs.take l).length=l:=ζ;refine ⟨zs.take l,⟨some x,c,by rw [ht],by rw [ht];omega,by unfold maxLen at hm;omega,fun j u hj=>?_⟩,fun n hn=>?_⟩
  ·have hjl:j<l:=by have:=(List.getElem?_eq_some_iff.1 hj).1;rwa [ht] at this
   obtain ⟨b,off,rfl,hcc⟩:=ints_at hcell ω;have hcj:=hcc j ω;refine ⟨b,off,rfl,Ε W _ hcj,σ,?_⟩;rw [List.getElem?_take,Δ hjl] at hj;rw [hcj];have:zs.getD j 0=u:=by rw [φ,hj];rfl
   first|rw [this]|(rw [hj];rfl)|(simp [hj])
  ·have hw:=hwz n (List.mem_of_mem_take hn);simp [Lit.wf,IntKind.min,IntKind.max,IntKind.signed,IntKind.bits] at hw;omega
end Go.Proofs.YtklibcncmbofpaaGreat
