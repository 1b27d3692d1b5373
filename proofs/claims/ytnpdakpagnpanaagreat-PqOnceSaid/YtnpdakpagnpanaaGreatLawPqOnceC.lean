/-
  The statement PqOnce: for every input the law returns true and leaves its arguments as they were. Out of the walk of the law and the frame of a row that only reads its arguments. Conditions: none.
-/
import Derived.Test.YtnpdakpagnpanaaGreatRows
import Derived.ShutString
import Derived.ChangeOld
import Derived.Below
import Derived.Test.YtnpdakpagnpanaaGreatC23
set_option linter.all false
set_option maxHeartbeats 8000000
set_option maxRecDepth 10000
namespace Go.Proofs.YtnpdakpagnpanaaGreat.pqOnce
open Go.Proofs.YtnpdakpagnpanaaGreat
open Go.ChangeShapes Go.WideShapes Go.ChangeAt Go.RowKit Go.Joins
open Go.ChangeMaps (open_string shut_string)

theorem own:ownKnob Tryz.prog.godebug=none:=by kernel_rfl
theorem laidOut:laidOutB Tryz.prog=true:=by kernel_rfl

set_option maxRecDepth 100000 in
theorem lifted(os:Os)(started:os.Started)(H:Type)(enc:TypeId×Value->H) :
    ReturnsInHanded {} Tryz.checked os 9 .any (Rows.pqOnceSpec.pre6 enc Tryz.prog Tryz.f9 Rows.pqOnceRow.domain false) (Rows.pqOnceSpec.post enc Tryz.prog Tryz.f9 false true false false):=by
  refine returnsInHanded_of_change (C:=Tryz.checked) own started (by kernel_rfl) Tryz.func9
    (ChangeSpec.witness6 (enc:=enc) (C:=Tryz.checked) false ⟨#[],#[.agg #[.int .i64 0,.int .i64 0,.int .u8 0,.int .u32 0],.slice none 0 0],[]⟩ 8 (by kernel_rfl) (by kernel_rfl) (by kernel_rfl) (by kernel_rfl)) ?_
  intro W base args ds gs before hval0 hW hcnd _;have hval:∀(j:Nat) t v,Tryz.f9.params[j]?=some t->args[j]?=some v->Value.okWide Tryz.prog W .any base t v:=hval0;have hW':=hW;obtain⟨p,q,YA,hV,rfl,hfz,hnd⟩:=hW;have hA:DataW.TrodAll enc Tryz.prog W 0 (λ_=>true) true Tryz.f9.params.toList args.toList ds p:=YA;rw[Tryz.params9] at hA hval;obtain⟨v0,vs0,d0,ds0,p0,q0,hargs,rfl,rfl,h0,r0⟩:=trodAll_cons hA;obtain⟨v1,vs1,d1,ds1,p1,q1,rfl,rfl,rfl,h1,r1⟩:=trodAll_cons r0;obtain⟨rfl,rfl,rfl⟩:=trodAll_nil r1;obtain rfl:args=#[v0,v1]:=by cases args;simp_all
  obtain⟨rfl,rfl⟩:=trodVars_none hV;have k0:=h0;have lt0:∀x∈p0,x.block<W.heap.size:=by obtain⟨m,hm⟩:=k0;exact DataW.trod_lt m _ _ _ hm
  obtain⟨a0,b0,n0,m0,rfl,hn0,hm0⟩:=pV (hval 0 58 v0 rfl rfl) h0;have k1:=h1;have Nf:∀x∈p1,x.block<W.heap.size:=by obtain⟨m,hm⟩:=k1;exact DataW.trod_lt m _ _ _ hm
  obtain⟨ZU,Yv,ZF⟩:=pR (hval 1 59 v1 rfl rfl) h1;clear YA hval0;refine(Kt W a0 b0 n0 m0 hn0 hm0 v1 ZU Yv ZF).mono λe W' ⟨he,Q5⟩=>?_;subst he;exact⟨_,rfl,_,_,_,[],_,[],hW',trodAll_mk1 (shut_bool Tryz.underlying4 _),(trodAll_cons_mk (Below.trod laidOut (by kernel_rfl) (ϣ (by kernel_rfl)) k0 (ae.below Q5) lt0) (trodAll_cons_mk (Below.trod laidOut (by kernel_rfl) (ϣ (by kernel_rfl)) k1 (ae.below Q5) Nf) trodAll_mk0)),rfl,(ae.below Q5).frame _,λh=>by cases h⟩

theorem over:Rows.pqOnceRow.holds Tryz.pinned (OpenSpec.ofChange Rows.pqOnceSpec):=
  OpenClaim.holds_of_wide 9 Tryz.f9 rfl rfl rfl rfl rfl rfl rfl ⟨rfl,rfl,rfl,rfl,rfl⟩ rfl rfl rfl rfl rfl (by kernel_rfl) Tryz.func9 (by kernel_rfl)
    (ϣ (by kernel_rfl)) (by unfold Func.isWrapper;first|(rw[Δ (by decide +kernel)];kernel_rfl)|(rw[Γ (by decide +kernel)];exact⟨rfl,rfl⟩))
    (λos started H enc _=>lifted os started H enc)

/-- The statement. -/
theorem proved:Rows.PqOnceSaid:=over
#print axioms proved
end Go.Proofs.YtnpdakpagnpanaaGreat.pqOnce
