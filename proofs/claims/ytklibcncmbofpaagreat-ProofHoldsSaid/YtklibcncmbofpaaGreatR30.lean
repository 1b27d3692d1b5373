/-
  Lemmas for ProofHolds: OpA. Conditions: those of each lemma.
-/
import Derived.Test.YtklibcncmbofpaaGreatR11
import Derived.Test.YtklibcncmbofpaaGreatR16
import Derived.Test.YtklibcncmbofpaaGreatR20
import Derived.Test.YtklibcncmbofpaaGreatR24
import Derived.Test.YtklibcncmbofpaaGreatR29
set_option linter.all false
set_option maxHeartbeats 8000000
set_option maxRecDepth 10000
namespace Go.Proofs.YtklibcncmbofpaaGreat
open Go Go.RowKit
theorem KE(kd d:Int)(n:Nat)(hc:yS kd d=0)(h8:kd≠8)(hn:n<=65536):∃K:gW,pJ K kd d n:=by
 have h1:=Jc hc
 by_cases hk:kd=1\/kd=2
 ·obtain⟨m,hm⟩:∃m:Nat,arity kd d=(m:Int):=by
   refine⟨(arity kd d).toNat,?_⟩;unfold arity;rcases hk with e|e
   ·rw[if_pos e];rfl
   ·rw[if_neg ω];have:=h1.2.2.1 e;omega
  exact⟨_,Tc kd d n m hc hk hm hn⟩
 ·have hd:d=0:=h1.2.2.2 ω;subst hd;have h7:kd=3\/kd=4\/kd=5\/kd=6\/kd=7:=ω;rcases h7 with rfl|rfl|rfl|rfl|rfl
  ·exact⟨_,QG n hn⟩
  ·exact⟨_,QH n hn⟩
  ·exact⟨_,RV n hn⟩
  ·exact⟨_,SK n hn⟩
  ·exact⟨_,Qb n hn⟩
end Go.Proofs.YtklibcncmbofpaaGreat
