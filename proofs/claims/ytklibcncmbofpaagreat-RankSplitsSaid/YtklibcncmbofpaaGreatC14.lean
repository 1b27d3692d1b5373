/-
  Lemmas for RankSplits: OpA. Conditions: those of each lemma.
-/
import Derived.Test.YtklibcncmbofpaaGreatC08
import Derived.Test.YtklibcncmbofpaaGreatC10
import Derived.Test.YtklibcncmbofpaaGreatC11
import Derived.Test.YtklibcncmbofpaaGreatC12
import Derived.Test.YtklibcncmbofpaaGreatC13
set_option linter.all false
set_option maxHeartbeats 8000000
set_option maxRecDepth 10000
namespace Go.Proofs.YtklibcncmbofpaaGreat
open Go Go.RowKit
theorem GY (kd d:Int) (n:Nat) (hc:xY kd d=0) (h8:kd≠8) (hn:n<=65536):∃K:dV,lG K kd d n:=by
 have h1:=Hu hc
 by_cases hk:kd=1\/kd=2
 ·obtain ⟨m,hm⟩:∃m:Nat,arity kd d=(m:Int):=by
   refine ⟨(arity kd d).toNat,?_⟩;unfold arity;rcases hk with e|e
   ·rw [Δ e];rfl
   ·rw [Γ ω];have:=h1.2.2.1 e;omega
  exact ⟨_,NU kd d n m hc hk hm hn⟩
 ·have hd:d=0:=h1.2.2.2 ω;subst hd;have h7:kd=3\/kd=4\/kd=5\/kd=6\/kd=7:=ω;rcases h7 with rfl|rfl|rfl|rfl|rfl
  ·exact ⟨_,Ov n hn⟩
  ·exact ⟨_,OH n hn⟩
  ·exact ⟨_,Qw n hn⟩
  ·exact ⟨_,ze n hn⟩
  ·exact ⟨_,NJ n hn⟩
end Go.Proofs.YtklibcncmbofpaaGreat
