/-
  Lemmas for PqSorts: OpA, RPa, RLf, RSk, RBn, RFb. Conditions: those of each lemma.
-/
import Derived.Test.YtnpdakpagnpanaaGreatA07
import Derived.Test.YtnpdakpagnpanaaGreatA09
import Derived.Test.YtnpdakpagnpanaaGreatA11
import Derived.Test.YtnpdakpagnpanaaGreatA13
import Derived.Test.YtnpdakpagnpanaaGreatA14
set_option linter.all false
set_option maxHeartbeats 8000000
set_option maxRecDepth 10000
namespace Go.Proofs.YtnpdakpagnpanaaGreat
open Go Go.RowKit
theorem Gw (kd d:Int) (n:Nat) (hc:zx kd d=0) (h8:kd≠8) (hn:n<=65536):∃K:NestQ,nW K kd d n:=by
 have h1:=BR hc
 by_cases hk:kd=1\/kd=2
 ·obtain ⟨m,hm⟩:∃m:Nat,arity kd d=(m:Int):=by
   refine ⟨(arity kd d).toNat,?_⟩;unfold arity;rcases hk with e|e
   ·rw [Δ e];rfl
   ·rw [Γ ω];have:=h1.2.2.1 e;omega
  exact ⟨_,CE kd d n m hc hk hm hn⟩
 ·have hd:d=0:=h1.2.2.2 ω;subst hd;have h7:kd=3\/kd=4\/kd=5\/kd=6\/kd=7:=ω;rcases h7 with rfl|rfl|rfl|rfl|rfl
  ·exact ⟨_,EF n hn⟩
  ·exact ⟨_,EZ n hn⟩
  ·exact ⟨_,Ed n hn⟩
  ·exact ⟨_,DI n hn⟩
  ·exact ⟨_,Dm n hn⟩
theorem SN (p c:Nat):∀W:World,W.cell? ⟨p,0,none⟩=some (.pointer (some ⟨c,0,none⟩))->(method 409 130 (.pointer (some ⟨p,0,none⟩)) "Len").run Tryz.prog W=.ok (126,.pointer (some ⟨c,0,none⟩)) W:=(by intro W h;unfold method;have hm:∃m,(Array.find? (λx=>x.name == "Len") Tryz.t130.methods)=some m/\m.path.toList=[⟨188,0,true⟩]/\m.func=some (126,true)/\m.path.isEmpty=false:=⟨(Array.find? (λx=>x.name == "Len") Tryz.t130.methods).get!,by kernel_rfl,by kernel_rfl,by kernel_rfl,by kernel_rfl⟩;obtain ⟨m,h1,h2,h3,h4⟩:=hm;go_simp;simp only [follow,Place.get];go_simp;(try unfold receiverAt);(try simp only [Place.get]);(try go_simp))
theorem Rz (p c:Nat):∀W:World,W.cell? ⟨p,0,none⟩=some (.pointer (some ⟨c,0,none⟩))->(method 409 130 (.pointer (some ⟨p,0,none⟩)) "Home").run Tryz.prog W=.ok (124,.pointer (some ⟨c,0,none⟩)) W:=(by intro W h;unfold method;have hm:∃m,(Array.find? (λx=>x.name == "Home") Tryz.t130.methods)=some m/\m.path.toList=[⟨188,0,true⟩]/\m.func=some (124,true)/\m.path.isEmpty=false:=⟨(Array.find? (λx=>x.name == "Home") Tryz.t130.methods).get!,by kernel_rfl,by kernel_rfl,by kernel_rfl,by kernel_rfl⟩;obtain ⟨m,h1,h2,h3,h4⟩:=hm;go_simp;simp only [follow,Place.get];go_simp;(try unfold receiverAt);(try simp only [Place.get]);(try go_simp))
theorem TV (p:Nat):∀W:World,(method 409 130 (.pointer (some ⟨p,0,none⟩)) "Delete").run Tryz.prog W=.ok (198,.pointer (some ⟨p,0,none⟩)) W:=λ_=>by kernel_rfl
theorem NL (p:Nat):∀W:World,(method 409 130 (.pointer (some ⟨p,0,none⟩)) "Meld").run Tryz.prog W=.ok (202,.pointer (some ⟨p,0,none⟩)) W:=λ_=>by kernel_rfl
def QU:uC where
 toNestQ:=tJ
 xL:=λ{w p F A} a b hB h=>by
  obtain ⟨B,F1,gt,ct,st,tr,rfl,rfl,hL⟩:=h;refine aP 202 (λ_ _=>by kernel_rfl) (NL _) (λW hW=>?_);refine (Hf (hL.ai hW) a b hB).mono ?_;rintro e w' ⟨rfl,hu,st',hL2⟩;exact ⟨rfl,Goes.stay ⟨B,F1,gt,ct,_,_,rfl,rfl,hL2⟩ hu⟩
theorem SX (p c:Nat):∀W:World,W.cell? ⟨p,0,none⟩=some (.pointer (some ⟨c,0,none⟩))->(method 409 138 (.pointer (some ⟨p,0,none⟩)) "Len").run Tryz.prog W=.ok (126,.pointer (some ⟨c,0,none⟩)) W:=(by intro W h;unfold method;have hm:∃m,(Array.find? (λx=>x.name == "Len") Tryz.t138.methods)=some m/\m.path.toList=[⟨204,0,true⟩]/\m.func=some (126,true)/\m.path.isEmpty=false:=⟨(Array.find? (λx=>x.name == "Len") Tryz.t138.methods).get!,by kernel_rfl,by kernel_rfl,by kernel_rfl,by kernel_rfl⟩;obtain ⟨m,h1,h2,h3,h4⟩:=hm;go_simp;simp only [follow,Place.get];go_simp;(try unfold receiverAt);(try simp only [Place.get]);(try go_simp))
theorem Sg (p c:Nat):∀W:World,W.cell? ⟨p,0,none⟩=some (.pointer (some ⟨c,0,none⟩))->(method 409 138 (.pointer (some ⟨p,0,none⟩)) "Home").run Tryz.prog W=.ok (124,.pointer (some ⟨c,0,none⟩)) W:=(by intro W h;unfold method;have hm:∃m,(Array.find? (λx=>x.name == "Home") Tryz.t138.methods)=some m/\m.path.toList=[⟨204,0,true⟩]/\m.func=some (124,true)/\m.path.isEmpty=false:=⟨(Array.find? (λx=>x.name == "Home") Tryz.t138.methods).get!,by kernel_rfl,by kernel_rfl,by kernel_rfl,by kernel_rfl⟩;obtain ⟨m,h1,h2,h3,h4⟩:=hm;go_simp;simp only [follow,Place.get];go_simp;(try unfold receiverAt);(try simp only [Place.get]);(try go_simp))
theorem U5 (p:Nat):∀W:World,(method 409 138 (.pointer (some ⟨p,0,none⟩)) "Delete").run Tryz.prog W=.ok (228,.pointer (some ⟨p,0,none⟩)) W:=λ_=>by kernel_rfl
theorem Mv (p:Nat):∀W:World,(method 409 138 (.pointer (some ⟨p,0,none⟩)) "Meld").run Tryz.prog W=.ok (232,.pointer (some ⟨p,0,none⟩)) W:=λ_=>by kernel_rfl
def Qd:uC where
 toNestQ:=uJ
 xL:=λ{w p F A} a b hB h=>by
  obtain ⟨B,F1,gt,ct,st,tr,rfl,rfl,hL⟩:=h;refine aP 232 (λ_ _=>by kernel_rfl) (Mv _) (λW hW=>?_);refine (JN (hL.ai hW) a b hB).mono ?_;rintro e w' ⟨rfl,hu,hL2⟩;exact ⟨rfl,Goes.stay ⟨B,F1,gt,ct,_,_,rfl,rfl,hL2⟩ hu⟩
theorem SL (p c:Nat):∀W:World,W.cell? ⟨p,0,none⟩=some (.pointer (some ⟨c,0,none⟩))->(method 409 142 (.pointer (some ⟨p,0,none⟩)) "Len").run Tryz.prog W=.ok (126,.pointer (some ⟨c,0,none⟩)) W:=(by intro W h;unfold method;have hm:∃m,(Array.find? (λx=>x.name == "Len") Tryz.t142.methods)=some m/\m.path.toList=[⟨207,0,true⟩]/\m.func=some (126,true)/\m.path.isEmpty=false:=⟨(Array.find? (λx=>x.name == "Len") Tryz.t142.methods).get!,by kernel_rfl,by kernel_rfl,by kernel_rfl,by kernel_rfl⟩;obtain ⟨m,h1,h2,h3,h4⟩:=hm;go_simp;simp only [follow,Place.get];go_simp;(try unfold receiverAt);(try simp only [Place.get]);(try go_simp))
theorem Ru (p c:Nat):∀W:World,W.cell? ⟨p,0,none⟩=some (.pointer (some ⟨c,0,none⟩))->(method 409 142 (.pointer (some ⟨p,0,none⟩)) "Home").run Tryz.prog W=.ok (124,.pointer (some ⟨c,0,none⟩)) W:=(by intro W h;unfold method;have hm:∃m,(Array.find? (λx=>x.name == "Home") Tryz.t142.methods)=some m/\m.path.toList=[⟨207,0,true⟩]/\m.func=some (124,true)/\m.path.isEmpty=false:=⟨(Array.find? (λx=>x.name == "Home") Tryz.t142.methods).get!,by kernel_rfl,by kernel_rfl,by kernel_rfl,by kernel_rfl⟩;obtain ⟨m,h1,h2,h3,h4⟩:=hm;go_simp;simp only [follow,Place.get];go_simp;(try unfold receiverAt);(try simp only [Place.get]);(try go_simp))
theorem Ud (p:Nat):∀W:World,(method 409 142 (.pointer (some ⟨p,0,none⟩)) "Delete").run Tryz.prog W=.ok (251,.pointer (some ⟨p,0,none⟩)) W:=λ_=>by kernel_rfl
theorem Pk (p:Nat):∀W:World,(method 409 142 (.pointer (some ⟨p,0,none⟩)) "Meld").run Tryz.prog W=.ok (254,.pointer (some ⟨p,0,none⟩)) W:=λ_=>by kernel_rfl
def P8:uC where
 toNestQ:=uI
 xL:=λ{w p F A} a b hB h=>by
  obtain ⟨B,F1,st,tr,rfl,rfl,hL⟩:=h;refine aP 254 (λ_ _=>by kernel_rfl) (Pk _) (λW hW=>?_);refine (Kw (hL.ai hW) a b hB).mono ?_;rintro e w' ⟨rfl,hu,hL2⟩;exact ⟨rfl,Goes.stay ⟨B,F1,_,_,rfl,rfl,hL2⟩ hu⟩
theorem Tn (p c:Nat):∀W:World,W.cell? ⟨p,0,none⟩=some (.pointer (some ⟨c,0,none⟩))->(method 409 126 (.pointer (some ⟨p,0,none⟩)) "Len").run Tryz.prog W=.ok (126,.pointer (some ⟨c,0,none⟩)) W:=(by intro W h;unfold method;have hm:∃m,(Array.find? (λx=>x.name == "Len") Tryz.t126.methods)=some m/\m.path.toList=[⟨185,0,true⟩]/\m.func=some (126,true)/\m.path.isEmpty=false:=⟨(Array.find? (λx=>x.name == "Len") Tryz.t126.methods).get!,by kernel_rfl,by kernel_rfl,by kernel_rfl,by kernel_rfl⟩;obtain ⟨m,h1,h2,h3,h4⟩:=hm;go_simp;simp only [follow,Place.get];go_simp;(try unfold receiverAt);(try simp only [Place.get]);(try go_simp))
theorem Q9 (p c:Nat):∀W:World,W.cell? ⟨p,0,none⟩=some (.pointer (some ⟨c,0,none⟩))->(method 409 126 (.pointer (some ⟨p,0,none⟩)) "Home").run Tryz.prog W=.ok (124,.pointer (some ⟨c,0,none⟩)) W:=(by intro W h;unfold method;have hm:∃m,(Array.find? (λx=>x.name == "Home") Tryz.t126.methods)=some m/\m.path.toList=[⟨185,0,true⟩]/\m.func=some (124,true)/\m.path.isEmpty=false:=⟨(Array.find? (λx=>x.name == "Home") Tryz.t126.methods).get!,by kernel_rfl,by kernel_rfl,by kernel_rfl,by kernel_rfl⟩;obtain ⟨m,h1,h2,h3,h4⟩:=hm;go_simp;simp only [follow,Place.get];go_simp;(try unfold receiverAt);(try simp only [Place.get]);(try go_simp))
theorem Vp (p:Nat):∀W:World,(method 409 126 (.pointer (some ⟨p,0,none⟩)) "Delete").run Tryz.prog W=.ok (166,.pointer (some ⟨p,0,none⟩)) W:=λ_=>by kernel_rfl
theorem MS (p:Nat):∀W:World,(method 409 126 (.pointer (some ⟨p,0,none⟩)) "Meld").run Tryz.prog W=.ok (170,.pointer (some ⟨p,0,none⟩)) W:=λ_=>by kernel_rfl
noncomputable def RF:uC where
 toNestQ:=ug
 xL:=λ{w p F A} a b hB h=>by
  obtain ⟨st,G,hL⟩:=h;refine aP 170 (λ_ _=>by kernel_rfl) (MS _) (λW hW=>?_);refine (JS (vN hL hW σ) a b hB).mono ?_;rintro e w' ⟨rfl,F',hL2,hu,hf⟩;exact ⟨rfl,F',⟨_,_,hL2⟩,hu,hf⟩
theorem SQ (p c:Nat):∀W:World,W.cell? ⟨p,0,none⟩=some (.pointer (some ⟨c,0,none⟩))->(method 409 134 (.pointer (some ⟨p,0,none⟩)) "Len").run Tryz.prog W=.ok (126,.pointer (some ⟨c,0,none⟩)) W:=(by intro W h;unfold method;have hm:∃m,(Array.find? (λx=>x.name == "Len") Tryz.t134.methods)=some m/\m.path.toList=[⟨196,0,true⟩]/\m.func=some (126,true)/\m.path.isEmpty=false:=⟨(Array.find? (λx=>x.name == "Len") Tryz.t134.methods).get!,by kernel_rfl,by kernel_rfl,by kernel_rfl,by kernel_rfl⟩;obtain ⟨m,h1,h2,h3,h4⟩:=hm;go_simp;simp only [follow,Place.get];go_simp;(try unfold receiverAt);(try simp only [Place.get]);(try go_simp))
theorem Qq (p c:Nat):∀W:World,W.cell? ⟨p,0,none⟩=some (.pointer (some ⟨c,0,none⟩))->(method 409 134 (.pointer (some ⟨p,0,none⟩)) "Home").run Tryz.prog W=.ok (124,.pointer (some ⟨c,0,none⟩)) W:=(by intro W h;unfold method;have hm:∃m,(Array.find? (λx=>x.name == "Home") Tryz.t134.methods)=some m/\m.path.toList=[⟨196,0,true⟩]/\m.func=some (124,true)/\m.path.isEmpty=false:=⟨(Array.find? (λx=>x.name == "Home") Tryz.t134.methods).get!,by kernel_rfl,by kernel_rfl,by kernel_rfl,by kernel_rfl⟩;obtain ⟨m,h1,h2,h3,h4⟩:=hm;go_simp;simp only [follow,Place.get];go_simp;(try unfold receiverAt);(try simp only [Place.get]);(try go_simp))
theorem Ul (p:Nat):∀W:World,(method 409 134 (.pointer (some ⟨p,0,none⟩)) "Delete").run Tryz.prog W=.ok (209,.pointer (some ⟨p,0,none⟩)) W:=λ_=>by kernel_rfl
theorem Nu (p:Nat):∀W:World,(method 409 134 (.pointer (some ⟨p,0,none⟩)) "Meld").run Tryz.prog W=.ok (213,.pointer (some ⟨p,0,none⟩)) W:=λ_=>by kernel_rfl
noncomputable def Rx:uC where
 toNestQ:=uB
 xL:=λ{w p F A} a b hB h=>by
  obtain ⟨st,G,hL⟩:=h;refine aP 213 (λ_ _=>by kernel_rfl) (Nu _) (λW hW=>?_);refine (JU (hL.ai hW) a b hB).mono ?_;rintro e w' ⟨rfl,F',hL2,hu,hf⟩;exact ⟨rfl,F',⟨_,_,hL2⟩,hu,hf⟩
end Go.Proofs.YtnpdakpagnpanaaGreat
