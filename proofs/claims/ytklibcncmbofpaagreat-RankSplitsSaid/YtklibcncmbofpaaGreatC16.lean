/-
  Lemmas for RankSplits: Lev, Ie. Conditions: those of each lemma.
-/
import Derived.Deep.OwnRows
import Derived.Deep.RegionLaw
import Derived.Lib.MinMax
import Derived.Shelf.Bits.Mul64
import Derived.Shelf.Slices.Reverse
import Derived.Shelf.Slices.Cells
import Derived.Ground.SlgnProg
import Derived.Shelf.SlicesE.Clone
import Derived.Test.YtklibcncmbofpaaGreatC02
set_option linter.all false
set_option maxHeartbeats 8000000
set_option maxRecDepth 10000
namespace Go.Proofs.YtklibcncmbofpaaGreat
open Go Go.RowKit
theorem PD:(Tryz.prog.info? 26).map (fun i=>(i.zero,i.size,i.bytes))=some (some (.slice none 0 0),1,24):=by kernel_rfl
theorem fO.Ps {e:TypeId} {w:World} {base n:Nat} {v:Value} {xs:List Int} {F:List Nat} (h:w.ownsRow base e 1 v n (aM xs)) (hF:∀g,g∈F->g<base):fO w F v xs:=by
 have hl':xs.length=n:=by have:=h.1;rw [dO] at this;omega
 subst hl';rcases h.2 with ⟨rfl,h0⟩|⟨g,cap,cur,rfl,hb,hg,hn,hc,_⟩
 ·have:xs=[]:=ϟ h0;subst this;exact ⟨none,0,rfl,σ,ω,fun j u hj=>by simp at hj⟩
 ·refine ⟨_,cap,rfl,hn,by unfold maxLen at hc;exact hc,fun j u hj=>⟨g,0,rfl,(h.lt g rfl).2,fun hm=>by have:=hF g hm;omega,?_⟩⟩;have hjl:=(List.getElem?_eq_some_iff.1 hj).1;rw [ϖ,h.cellAt j ω,jg hjl];simp [φ,hj]
end Go.Proofs.YtklibcncmbofpaaGreat
