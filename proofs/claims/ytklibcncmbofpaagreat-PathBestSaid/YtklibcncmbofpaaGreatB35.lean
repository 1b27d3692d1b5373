/-
  Lemmas for PathBest: OpA. Conditions: those of each lemma.
-/
import Derived.Test.YtklibcncmbofpaaGreatB12
import Derived.Test.YtklibcncmbofpaaGreatB19
import Derived.Test.YtklibcncmbofpaaGreatB23
import Derived.Test.YtklibcncmbofpaaGreatB29
import Derived.Test.YtklibcncmbofpaaGreatB34
set_option linter.all false
set_option maxHeartbeats 8000000
set_option maxRecDepth 10000
namespace Go.Proofs.YtklibcncmbofpaaGreat
open Go Go.RowKit
theorem KC (kd d:Int) (n:Nat) (hc:BM kd d=0) (h8:kd≠8) (hn:n<=65536):∃K:gV,oW K kd d n:=by
 have h1:=Js hc
 by_cases hk:kd=1\/kd=2
 ·obtain ⟨m,hm⟩:∃m:Nat,arity kd d=(m:Int):=by
   refine ⟨(arity kd d).toNat,?_⟩;unfold arity;rcases hk with e|e
   ·rw [if_pos e];rfl
   ·rw [if_neg ω];have:=h1.2.2.1 e;omega
  exact ⟨_,TJ kd d n m hc hk hm hn⟩
 ·have hd:d=0:=h1.2.2.2 ω;subst hd;have h7:kd=3\/kd=4\/kd=5\/kd=6\/kd=7:=ω;rcases h7 with rfl|rfl|rfl|rfl|rfl
  ·exact ⟨_,RP n hn⟩
  ·exact ⟨_,SG n hn⟩
  ·exact ⟨_,PN n hn⟩
  ·exact ⟨_,TN n hn⟩
  ·exact ⟨_,Iz n hn⟩
end Go.Proofs.YtklibcncmbofpaaGreat
