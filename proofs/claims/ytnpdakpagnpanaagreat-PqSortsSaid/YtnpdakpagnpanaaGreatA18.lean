/-
  Lemmas for PqSorts: RkI. Conditions: those of each lemma.
-/
import Derived.Lib.SmallJoins
import Derived.Test.YtnpdakpagnpanaaGreatA01
set_option linter.all false
set_option maxHeartbeats 8000000
set_option maxRecDepth 10000
namespace Go.Proofs.YtnpdakpagnpanaaGreat
open Go Go.RowKit
def VJ (w:World) (v:Value) (ks:List Int):Prop:=jc w [] v ks/\∀x,x∈ks->-9223372036854775808<=x/\x<=9223372036854775807
theorem Vo {x:Int} (h:(Lit.int .i64 x).wf=true):-9223372036854775808<=x/\x<=9223372036854775807:=by
 simp [Lit.wf,IntKind.min,IntKind.max,IntKind.signed,IntKind.bits] at h;omega
set_option maxRecDepth 100000 in
open Go.ChangeShapes Go.ChangeAt Go.WideShapes in
theorem BL {H:Type} {enc:TypeId×Value->H} {W:World} {v:Value} {d:DataW H} {p:List MemPlace} {base:Nat} {sp:Nat->Bool}
  (ho:Value.okWide Tryz.prog W .any base 54 v) (h:DataW.Trod enc Tryz.prog W 0 sp true 54 v d p):∃zs,VJ W v zs:=by
 have hT:=Tryz.underlying54;have hE:=Tryz.underlying2;have hc:Tryz.prog.cellsOf 2=1:=by kernel_rfl
 obtain ⟨a,len,cap,rfl⟩:=okWide_slice hT ho;obtain ⟨fuel,hf⟩:=h;rcases open_ints hT hE hc hf with ⟨hcs,_⟩|⟨x,l,c,zs,hcs,_,hl,hm,hz,_,hcell,hwz⟩
 ·simp [Value.cells] at hcs;obtain ⟨rfl,rfl,rfl⟩:=hcs;exact ⟨[],⟨none,0,rfl,σ,ω,λj u hj=>by simp at hj⟩,λx hx=>by cases hx⟩
 ·simp [Value.cells] at hcs;obtain ⟨rfl,rfl,rfl⟩:=hcs;have hlz:len<=zs.length:=by rw [hz];split<;>omega
  have ht:(zs.take len).length=len:=ζ;refine ⟨zs.take len,⟨some x,cap,by rw [ht],by rw [ht];omega,by unfold maxLen at hm;omega,λj u hj=>?_⟩,λn hn=>Vo (hwz n (List.mem_of_mem_take hn))⟩;have hjl:j<len:=by have:=(List.getElem?_eq_some_iff.1 hj).1;rwa [ht] at this
  obtain ⟨b,off,rfl,hcc⟩:=ints_at hcell ω;have hcj:=hcc j ω;refine ⟨b,off,rfl,Ε W _ hcj,σ,?_⟩;rw [List.getElem?_take,Δ hjl] at hj;rw [hcj];have:zs.getD j 0=u:=by rw [φ,hj];rfl
  first|rw [this]|(rw [hj];rfl)|(simp [hj])
end Go.Proofs.YtnpdakpagnpanaaGreat
