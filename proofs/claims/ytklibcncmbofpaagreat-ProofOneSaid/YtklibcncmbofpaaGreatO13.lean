/-
  Lemmas for ProofOne: OpA. Conditions: those of each lemma.
-/
import Derived.Test.YtklibcncmbofpaaGreatO05
import Derived.Test.YtklibcncmbofpaaGreatO07
import Derived.Test.YtklibcncmbofpaaGreatO09
import Derived.Test.YtklibcncmbofpaaGreatO11
import Derived.Test.YtklibcncmbofpaaGreatO12
set_option linter.all false
set_option maxHeartbeats 8000000
set_option maxRecDepth 10000
namespace Go.Proofs.YtklibcncmbofpaaGreat
open Go Go.RowKit
theorem JY (kd d:Int) (n:Nat) (hc:yV kd d=0) (h8:kd≠8) (hn:n<=65536):∃K:gB,om K kd d n:=by
 have h1:=JD hc
 by_cases hk:kd=1\/kd=2
 ·obtain ⟨m,hm⟩:∃m:Nat,arity kd d=(m:Int):=by
   refine ⟨(arity kd d).toNat,?_⟩;unfold arity;rcases hk with e|e
   ·rw [Δ e];rfl
   ·rw [Γ ω];have:=h1.2.2.1 e;omega
  exact ⟨_,Ui kd d n m hc hk hm hn⟩
 ·have hd:d=0:=h1.2.2.2 ω;subst hd;have h7:kd=3\/kd=4\/kd=5\/kd=6\/kd=7:=ω;rcases h7 with rfl|rfl|rfl|rfl|rfl
  ·exact ⟨_,RD n hn⟩
  ·exact ⟨_,SX n hn⟩
  ·exact ⟨_,Qk n hn⟩
  ·exact ⟨_,Rb n hn⟩
  ·exact ⟨_,QF n hn⟩
end Go.Proofs.YtklibcncmbofpaaGreat
