/-
  The statement PqRuns: for every input the law returns true and leaves its arguments as they were. Out of the walk of the law and the frame of a row that only reads its arguments. Conditions: none.
-/
import Derived.Test.YtnpdakpagnpanaaGreatRows
import Derived.ShutString
import Derived.ChangeOld
import Derived.Below
import Derived.Test.YtnpdakpagnpanaaGreatE28
set_option linter.all false
set_option maxHeartbeats 8000000
set_option maxRecDepth 10000
namespace Go.Proofs.YtnpdakpagnpanaaGreat.pqRuns
open Go.Proofs.YtnpdakpagnpanaaGreat
open Go.ChangeShapes Go.WideShapes Go.ChangeAt Go.RowKit Go.Joins
open Go.ChangeMaps (open_string shut_string)

theorem own:ownKnob Tryz.prog.godebug=none:=by kernel_rfl
theorem laidOut:laidOutB Tryz.prog=true:=by kernel_rfl

set_option maxRecDepth 100000 in
theorem lifted(K:Os)(d:K.Started)(H:Type)(enc:TypeId×Value->H):
    ReturnsInHanded {} Tryz.checked K 6 .any (Rows.pqRunsSpec.pre6 enc Tryz.prog Tryz.f6 Rows.pqRunsRow.domain false) (Rows.pqRunsSpec.post enc Tryz.prog Tryz.f6 false true false false):=by
  refine returnsInHanded_of_change (C:=Tryz.checked) own d (by kernel_rfl) Tryz.func6
    (ChangeSpec.witness6 (enc:=enc) (C:=Tryz.checked) false ⟨#[],#[.agg #[(0:Int),(0:Int),.int .u8 0,.int .u32 0],.slice none 0 0],[]⟩ 8 (by kernel_rfl) (by kernel_rfl) (by kernel_rfl) (by kernel_rfl)) ?_
  intro W base a L gs l b A B _;have c:∀(j:Nat) t v,Tryz.f6.params[j]?=some t->a[j]?=some v->Value.okWide Tryz.prog W .any base t v:=b;have y:=A;obtain⟨p,q,g,M,rfl,N,O⟩:=A;have G:DataW.TrodAll enc Tryz.prog W 0 (λ_=>true) true Tryz.f6.params.toList a.toList L p:=g;rw[Tryz.params6] at G c;obtain⟨D,P,d0,Q,R,q0,n,rfl,rfl,E,S⟩:=trodAll_cons G;obtain⟨o,T,d1,U,X,q1,rfl,rfl,rfl,F,Y⟩:=trodAll_cons S;obtain⟨rfl,rfl,rfl⟩:=trodAll_nil Y;obtain rfl:a=#[D,o]:=by cases a;simp_all
  obtain⟨rfl,rfl⟩:=trodVars_none M;have I:=E;have z:∀x∈R,x.block<W.heap.size:=by obtain⟨m,r⟩:=I;exact DataW.trod_lt m _ _ _ r
  obtain⟨Z,b0,n0,m0,rfl,s,u⟩:=DF (c 0 58 D rfl rfl) E;have J:=F;have XL:∀x∈X,x.block<W.heap.size:=by obtain⟨m,r⟩:=J;exact DataW.trod_lt m _ _ _ r
  obtain⟨i,w,k⟩:=Du (c 1 59 o rfl rfl) F;clear g b;refine(Md W Z b0 n0 m0 s u o i w k).mono λe W' ⟨he,f⟩=>?_;subst he;exact⟨_,rfl,_,_,_,[],_,[],y,trodAll_mk1 (shut_bool Tryz.underlying4 _),(trodAll_cons_mk (Below.trod laidOut (by kernel_rfl) (ϟ (by kernel_rfl)) I (ae.below f) z) (trodAll_cons_mk (Below.trod laidOut (by kernel_rfl) (ϟ (by kernel_rfl)) J (ae.below f) XL) trodAll_mk0)),rfl,(ae.below f).frame _,λh=>by cases h⟩

theorem over:Rows.pqRunsRow.holds Tryz.pinned (OpenSpec.ofChange Rows.pqRunsSpec):=
  OpenClaim.holds_of_wide 6 Tryz.f6 rfl rfl rfl rfl rfl rfl rfl ⟨rfl,rfl,rfl,rfl,rfl⟩ rfl rfl rfl rfl rfl (by kernel_rfl) Tryz.func6 (by kernel_rfl)
    (ϟ (by kernel_rfl)) (by unfold Func.isWrapper;first|(rw[Δ (by decide +kernel)];kernel_rfl)|(rw[Γ (by decide +kernel)];exact⟨rfl,rfl⟩))
    (λb a H enc _=>lifted b a H enc)

/-- The statement. -/
theorem proved:Rows.PqRunsSaid:=over
#print axioms proved
