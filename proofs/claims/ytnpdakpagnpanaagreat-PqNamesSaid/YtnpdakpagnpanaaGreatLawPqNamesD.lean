/-
  The statement PqNames: for every input the law returns true and leaves its arguments as they were. Out of the walk of the law and the frame of a row that only reads its arguments. Conditions: none.
-/
import Derived.Test.YtnpdakpagnpanaaGreatRows
import Derived.ShutString
import Derived.ChangeOld
import Derived.Below
import Derived.Lib.SmallJoins
import Derived.Deep.Slices
import Derived.Deep.Strs
import Derived.Test.YtnpdakpagnpanaaGreatD12
set_option linter.all false
set_option maxHeartbeats 8000000
set_option maxRecDepth 10000
namespace Go.Proofs.YtnpdakpagnpanaaGreat.pqNames
open Go.Proofs.YtnpdakpagnpanaaGreat
open Go.ChangeShapes Go.WideShapes Go.ChangeAt Go.RowKit Go.Joins
open Go.ChangeMaps (open_string shut_string)

theorem own:ownKnob Tryz.prog.godebug=none:=by kernel_rfl
theorem laidOut:laidOutB Tryz.prog=true:=by kernel_rfl

set_option maxRecDepth 100000 in
theorem lifted (os:Os) (started:os.Started) (H:Type) (enc:TypeId×Value->H) :
    ReturnsInHanded {} Tryz.checked os 4 .any (Rows.pqNamesSpec.pre6 enc Tryz.prog Tryz.f4 Rows.pqNamesRow.domain false) (Rows.pqNamesSpec.post enc Tryz.prog Tryz.f4 false true false false):=by
  refine returnsInHanded_of_change (C:=Tryz.checked) own started (by kernel_rfl) Tryz.func4
    (ChangeSpec.witness6 (enc:=enc) (C:=Tryz.checked) false ⟨#[],#[],[]⟩ 8 (by kernel_rfl) (by kernel_rfl) (by kernel_rfl) (by kernel_rfl)) ?_
  intro W base args ds gs before hval0 hW hcnd _;have hval:∀ (j:Nat) t v,Tryz.f4.params[j]?=some t->args[j]?=some v->Value.okWide Tryz.prog W .any base t v:=hval0;have hW':=hW;obtain ⟨p,q,Ii,hV,rfl,hfz,hnd⟩:=hW;have hA:DataW.TrodAll enc Tryz.prog W 0 (λ_=>true) true Tryz.f4.params.toList args.toList ds p:=Ii;rw [Tryz.params4] at hA hval;obtain ⟨hargs,rfl,rfl⟩:=trodAll_nil hA;obtain rfl:args=#[]:=by cases args;simp_all
  obtain ⟨rfl,rfl⟩:=trodVars_none hV;clear Ii hval0;refine (rY W).mono λe W' ⟨he,F7⟩=>?_;subst he;exact ⟨_,rfl,_,_,_,[],_,[],hW',trodAll_mk1 (shut_bool Tryz.underlying4 _),trodAll_mk0,rfl,(aa.below F7).frame _,λh=>by cases h⟩

theorem over:Rows.pqNamesRow.holds Tryz.pinned (OpenSpec.ofChange Rows.pqNamesSpec):=
  OpenClaim.holds_of_wide 4 Tryz.f4 rfl rfl rfl rfl rfl rfl rfl ⟨rfl,rfl,rfl,rfl,rfl⟩ rfl rfl rfl rfl rfl (by kernel_rfl) Tryz.func4 (by kernel_rfl)
    (Ϙ (by kernel_rfl)) (by unfold Func.isWrapper;first|(rw [Δ (by decide +kernel)];kernel_rfl)|(rw [Γ (by decide +kernel)];exact ⟨rfl,rfl⟩))
    (λos started H enc _=>lifted os started H enc)

/-- The statement. -/
theorem proved:Rows.PqNamesSaid:=over
#print axioms proved
end Go.Proofs.YtnpdakpagnpanaaGreat.pqNames
