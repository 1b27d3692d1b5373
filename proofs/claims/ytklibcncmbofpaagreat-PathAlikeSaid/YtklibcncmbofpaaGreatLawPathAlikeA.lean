/-
  The statement PathAlike: for every input the law returns true and leaves its arguments as they were. Out of the walk of the law and the frame of a row that only reads its arguments. Conditions: none.
-/
import Derived.Test.YtklibcncmbofpaaGreatRows
import Derived.ShutString
import Derived.ChangeOld
import Derived.Below
import Derived.Test.YtklibcncmbofpaaGreatA15
import Derived.Test.YtklibcncmbofpaaGreatA21
set_option linter.all false
set_option maxHeartbeats 8000000
set_option maxRecDepth 10000
namespace Go.Proofs.YtklibcncmbofpaaGreat.pathAlike
open Go.Proofs.YtklibcncmbofpaaGreat
open Go.ChangeShapes Go.WideShapes Go.ChangeAt Go.RowKit Go.Joins
open Go.ChangeMaps (open_string shut_string)

theorem own:ownKnob Tryz.prog.godebug=none:=by kernel_rfl
theorem laidOut:laidOutB Tryz.prog=true:=by kernel_rfl

set_option maxRecDepth 100000 in
theorem lifted (os:Os) (started:os.Started) (H:Type) (enc:TypeId×Value->H) :
    ReturnsInHanded {} Tryz.checked os 10 .any (Rows.pathAlikeSpec.pre6 enc Tryz.prog Tryz.f10 Rows.pathAlikeRow.domain false) (Rows.pathAlikeSpec.post enc Tryz.prog Tryz.f10 false true false false):=by
  refine returnsInHanded_of_change (C:=Tryz.checked) own started (by kernel_rfl) Tryz.func10
    (ChangeSpec.witness6 (enc:=enc) (C:=Tryz.checked) false ⟨#[],#[.agg #[.int .i64 0,.int .i64 0,.int .i64 0,.int .i64 0],.agg #[.int .i64 0,.slice none 0 0],.agg #[.int .i64 0,.int .i64 0,.int .i64 0]],[]⟩ 8 (by kernel_rfl) (by kernel_rfl) (by kernel_rfl) (by kernel_rfl)) ?_
  intro W base args ds gs before hval0 hW hcnd _;have hval:∀ (j:Nat) t v,Tryz.f10.params[j]?=some t->args[j]?=some v->Value.okWide Tryz.prog W .any base t v:=hval0;have hW':=hW;obtain ⟨p,q,hA0,hV,rfl,hfz,hnd⟩:=hW;have hA:DataW.TrodAll enc Tryz.prog W 0 (fun _=>true) true Tryz.f10.params.toList args.toList ds p:=hA0;rw [Tryz.params10] at hA hval;obtain ⟨v0,vs0,d0,ds0,p0,q0,hargs,rfl,rfl,h0,r0⟩:=trodAll_cons hA;obtain ⟨v1,vs1,d1,ds1,p1,q1,rfl,rfl,rfl,h1,r1⟩:=trodAll_cons r0;obtain ⟨v2,vs2,d2,ds2,p2,q2,rfl,rfl,rfl,h2,r2⟩:=trodAll_cons r1;obtain ⟨rfl,rfl,rfl⟩:=trodAll_nil r2
  obtain rfl:args=#[v0,v1,v2]:=by cases args;simp_all
  obtain ⟨rfl,rfl⟩:=trodVars_none hV;have k0:=h0;have lt0:∀x∈p0,x.block<W.heap.size:=by obtain ⟨m,hm⟩:=k0;exact DataW.trod_lt m _ _ _ hm
  obtain ⟨KY,dc1,MO,dc2,rfl⟩:=EJ (hval 0 39 v0 rfl rfl) h0;have k1:=h1;have TY:∀x∈p1,x.block<W.heap.size:=by obtain ⟨m,hm⟩:=k1;exact DataW.trod_lt m _ _ _ hm
  obtain ⟨N1,E1,va1,g1⟩:=BI (hval 1 57 v1 rfl rfl) h1;have k2:=h2;have LC:∀x∈p2,x.block<W.heap.size:=by obtain ⟨m,hm⟩:=k2;exact DataW.trod_lt m _ _ _ hm
  obtain ⟨a2,b2,c2,rfl,k2s⟩:=Dv (hval 2 67 v2 rfl rfl) h2;clear hA0 hval0;refine (TE W v1 KY dc1 MO dc2 N1 a2 b2 c2 E1 va1 g1 k2s).mono fun e W' ⟨he,bel⟩=>?_;subst he;exact ⟨_,rfl,_,_,_,[],_,[],hW',trodAll_mk1 (shut_bool Tryz.underlying4 _),(trodAll_cons_mk (Below.trod laidOut (by kernel_rfl) (ϟ (by kernel_rfl)) k0 (aa.below bel) lt0) (trodAll_cons_mk (Below.trod laidOut (by kernel_rfl) (ϟ (by kernel_rfl)) k1 (aa.below bel) TY) (trodAll_cons_mk (Below.trod laidOut (by kernel_rfl) (ϟ (by kernel_rfl)) k2 (aa.below bel) LC) trodAll_mk0))),rfl,(aa.below bel).frame _,fun h=>by cases h⟩

theorem over:Rows.pathAlikeRow.holds Tryz.pinned (OpenSpec.ofChange Rows.pathAlikeSpec):=
  OpenClaim.holds_of_wide 10 Tryz.f10 rfl rfl rfl rfl rfl rfl rfl ⟨rfl,rfl,rfl,rfl,rfl⟩ rfl rfl rfl rfl rfl (by kernel_rfl) Tryz.func10 (by kernel_rfl)
    (ϟ (by kernel_rfl)) (by unfold Func.isWrapper;first|(rw [Δ (by decide +kernel)];kernel_rfl)|(rw [Γ (by decide +kernel)];exact ⟨rfl,rfl⟩))
    (fun os started H enc _=>lifted os started H enc)

/-- The statement. -/
theorem proved:Rows.PathAlikeSaid:=over
#print axioms proved
end Go.Proofs.YtklibcncmbofpaaGreat.pathAlike
