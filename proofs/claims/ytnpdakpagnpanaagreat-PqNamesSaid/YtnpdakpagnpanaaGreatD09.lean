/-
  Lemmas for PqOpens: OpA. Conditions: those of each lemma.
-/
import Derived.Test.YtnpdakpagnpanaaGreatD03
import Derived.Test.YtnpdakpagnpanaaGreatD04
import Derived.Test.YtnpdakpagnpanaaGreatD06
import Derived.Test.YtnpdakpagnpanaaGreatD07
import Derived.Test.YtnpdakpagnpanaaGreatD08
set_option linter.all false
set_option maxHeartbeats 8000000
set_option maxRecDepth 10000
namespace Go.Proofs.YtnpdakpagnpanaaGreat
open Go Go.RowKit
theorem uB (kd d:Int) (n:Nat) (hc:jE kd d=0) (h8:kd≠8) (hn:n<=65536):∃K:bV,fP K kd d n:=by
 have h1:=ql hc
 by_cases hk:kd=1\/kd=2
 ·obtain ⟨m,hm⟩:∃m:Nat,arity kd d=(m:Int):=by
   refine ⟨(arity kd d).toNat,?_⟩;unfold arity;rcases hk with e|e
   ·rw [Δ e];rfl
   ·rw [Γ ω];have:=h1.2.2.1 e;omega
  exact ⟨_,sW kd d n m hc hk hm hn⟩
 ·have hd:d=0:=h1.2.2.2 ω;subst hd;have h7:kd=3\/kd=4\/kd=5\/kd=6\/kd=7:=ω;rcases h7 with rfl|rfl|rfl|rfl|rfl
  ·exact ⟨_,sH n hn⟩
  ·exact ⟨_,tq n hn⟩
  ·exact ⟨_,tN n hn⟩
  ·exact ⟨_,tu n hn⟩
  ·exact ⟨_,sF n hn⟩
end Go.Proofs.YtnpdakpagnpanaaGreat
