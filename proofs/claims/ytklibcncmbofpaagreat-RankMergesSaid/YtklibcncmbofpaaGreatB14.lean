/-
  Lemmas for RankMerges: OpA. Conditions: those of each lemma.
-/
import Derived.Test.YtklibcncmbofpaaGreatB08
import Derived.Test.YtklibcncmbofpaaGreatB10
import Derived.Test.YtklibcncmbofpaaGreatB11
import Derived.Test.YtklibcncmbofpaaGreatB12
import Derived.Test.YtklibcncmbofpaaGreatB13
set_option linter.all false
set_option maxHeartbeats 8000000
set_option maxRecDepth 10000
namespace Go.Proofs.YtklibcncmbofpaaGreat
open Go Go.RowKit
theorem Gs (kd d:Int) (n:Nat) (hc:rV kd d=0) (h8:kd≠8) (hn:n<=65536):∃K:dI,j4 K kd d n:=by
 have h1:=Ha hc
 by_cases hk:kd=1\/kd=2
 ·obtain ⟨m,hm⟩:∃m:Nat,arity kd d=(m:Int):=by
   refine ⟨(arity kd d).toNat,?_⟩;unfold arity;rcases hk with e|e
   ·rw [Δ e];rfl
   ·rw [Γ ω];have:=h1.2.2.1 e;omega
  exact ⟨_,PW kd d n m hc hk hm hn⟩
 ·have hd:d=0:=h1.2.2.2 ω;subst hd;have h7:kd=3\/kd=4\/kd=5\/kd=6\/kd=7:=ω;rcases h7 with rfl|rfl|rfl|rfl|rfl
  ·exact ⟨_,Nn n hn⟩
  ·exact ⟨_,Oo n hn⟩
  ·exact ⟨_,Qm n hn⟩
  ·exact ⟨_,yV n hn⟩
  ·exact ⟨_,Qr n hn⟩
end Go.Proofs.YtklibcncmbofpaaGreat
