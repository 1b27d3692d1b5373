/-
  Lemmas for PathShortest: OpA. Conditions: those of each lemma.
-/
import Derived.Test.YtklibcncmbofpaaGreatQ13
import Derived.Test.YtklibcncmbofpaaGreatQ18
import Derived.Test.YtklibcncmbofpaaGreatQ25
import Derived.Test.YtklibcncmbofpaaGreatQ28
import Derived.Test.YtklibcncmbofpaaGreatQ34
set_option linter.all false
set_option maxHeartbeats 8000000
set_option maxRecDepth 10000
namespace Go.Proofs.YtklibcncmbofpaaGreat
open Go Go.RowKit
theorem Kr (kd d:Int) (n:Nat) (hc:wZ kd d=0) (h8:kd≠8) (hn:n<=65536):∃K:ig,qo K kd d n:=by
 have h1:=IM hc
 by_cases hk:kd=1\/kd=2
 ·obtain ⟨m,hm⟩:∃m:Nat,arity kd d=(m:Int):=by
   refine ⟨(arity kd d).toNat,?_⟩;unfold arity;rcases hk with e|e
   ·rw [if_pos e];rfl
   ·rw [if_neg ω];have:=h1.2.2.1 e;omega
  exact ⟨_,PE kd d n m hc hk hm hn⟩
 ·have hd:d=0:=h1.2.2.2 ω;subst hd;have h7:kd=3\/kd=4\/kd=5\/kd=6\/kd=7:=ω;rcases h7 with rfl|rfl|rfl|rfl|rfl
  ·exact ⟨_,Ro n hn⟩
  ·exact ⟨_,Sb n hn⟩
  ·exact ⟨_,RX n hn⟩
  ·exact ⟨_,Rz n hn⟩
  ·exact ⟨_,Ik n hn⟩
end Go.Proofs.YtklibcncmbofpaaGreat
