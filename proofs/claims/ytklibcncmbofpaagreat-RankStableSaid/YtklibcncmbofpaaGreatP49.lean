/-
  Lemmas for RankSorts: PrP, Edg, OpA, SdQ. Conditions: those of each lemma.
-/
import Derived.Deep.Slices
import Derived.Deep.Strs
import Derived.Lib.Mul64
import Derived.Laws.Bits64b
import Derived.Test.YtklibcncmbofpaaGreatP24
import Derived.Test.YtklibcncmbofpaaGreatP35
import Derived.Test.YtklibcncmbofpaaGreatP40
import Derived.Test.YtklibcncmbofpaaGreatP46
import Derived.Test.YtklibcncmbofpaaGreatP48
set_option maxHeartbeats 8000000
set_option maxRecDepth 10000
set_option linter.unusedVariables false
set_option linter.unusedSimpArgs false
namespace Go.Proofs.YtklibcncmbofpaaGreat
def inf:Nat:=9223372036854775807
def d0 (s:Nat):Nat→Nat:=fun v=>if v=s then 0 else inf
end Go.Proofs.YtklibcncmbofpaaGreat
namespace Go.Proofs.YtklibcncmbofpaaGreat
open Go Go.RowKit
structure Ed where
 f:Int
 t:Int
 w:Int
instance:Inhabited Ed:=⟨⟨0,0,0⟩⟩
theorem DV (kd d:Int) (n:Nat) (hc:kX kd d=0) (h8:kd≠8) (hn:n≤65536):∃K:fJ,jX K kd d n:=by
 have h1:=DN hc
 by_cases hk:kd=1∨kd=2
 ·obtain ⟨m,hm⟩:∃m:Nat,arity kd d=(m:Int):=by
   refine ⟨(arity kd d).toNat,?_⟩;unfold arity;rcases hk with e|e
   ·rw [if_pos e];rfl
   ·rw [if_neg ω];have:=h1.2.2.1 e;omega
  exact ⟨_,JH kd d n m hc hk hm hn⟩
 ·have hd:d=0:=h1.2.2.2 ω;subst hd;have h7:kd=3∨kd=4∨kd=5∨kd=6∨kd=7:=ω;rcases h7 with rfl|rfl|rfl|rfl|rfl
  ·exact ⟨_,JQ n hn⟩
  ·exact ⟨_,JC n hn⟩
  ·exact ⟨_,KT n hn⟩
  ·exact ⟨_,xL n hn⟩
  ·exact ⟨_,LQ n hn⟩
theorem EO (p c:Nat):∀W:World,W.cell? ⟨p,0,none⟩=some (.pointer (some ⟨c,0,none⟩))→(method 429 194 (.pointer (some ⟨p,0,none⟩)) "Has").run Tryz.prog W=.ok (139,.pointer (some ⟨c,0,none⟩)) W:=(by intro W h;unfold method;have hm:∃m,(Array.find? (fun x=>x.name == "Has") Tryz.t194.methods)=some m∧m.path.toList=[⟨237,0,true⟩]∧m.func=some (139,true)∧m.path.isEmpty=false:=⟨(Array.find? (fun x=>x.name == "Has") Tryz.t194.methods).get!,by kernel_rfl,by kernel_rfl,by kernel_rfl,by kernel_rfl⟩;obtain ⟨m,h1,h2,h3,h4⟩:=hm;go_simp;simp only [follow,Place.get];go_simp;(try unfold receiverAt);(try simp only [Place.get]);(try go_simp))
theorem zX (p c:Nat):∀W:World,W.cell? ⟨p,0,none⟩=some (.pointer (some ⟨c,0,none⟩))→(method 429 194 (.pointer (some ⟨p,0,none⟩)) "Entry").run Tryz.prog W=.ok (137,.pointer (some ⟨c,0,none⟩)) W:=(by intro W h;unfold method;have hm:∃m,(Array.find? (fun x=>x.name == "Entry") Tryz.t194.methods)=some m∧m.path.toList=[⟨237,0,true⟩]∧m.func=some (137,true)∧m.path.isEmpty=false:=⟨(Array.find? (fun x=>x.name == "Entry") Tryz.t194.methods).get!,by kernel_rfl,by kernel_rfl,by kernel_rfl,by kernel_rfl⟩;obtain ⟨m,h1,h2,h3,h4⟩:=hm;go_simp;simp only [follow,Place.get];go_simp;(try unfold receiverAt);(try simp only [Place.get]);(try go_simp))
theorem Mw (p:Nat):∀W:World,(method 429 194 (.pointer (some ⟨p,0,none⟩)) "Make").run Tryz.prog W=.ok (274,.pointer (some ⟨p,0,none⟩)) W:=fun _=>by kernel_rfl
theorem GV (p:Nat):∀W:World,(method 429 194 (.pointer (some ⟨p,0,none⟩)) "Insert").run Tryz.prog W=.ok (273,.pointer (some ⟨p,0,none⟩)) W:=fun _=>by kernel_rfl
theorem NR (p:Nat):∀W:World,(method 429 194 (.pointer (some ⟨p,0,none⟩)) "Min").run Tryz.prog W=.ok (276,.pointer (some ⟨p,0,none⟩)) W:=fun _=>by kernel_rfl
theorem DL (p:Nat):∀W:World,(method 429 194 (.pointer (some ⟨p,0,none⟩)) "Extract").run Tryz.prog W=.ok (272,.pointer (some ⟨p,0,none⟩)) W:=fun _=>by kernel_rfl
theorem BN (p:Nat):∀W:World,(method 429 194 (.pointer (some ⟨p,0,none⟩)) "Decrease").run Tryz.prog W=.ok (270,.pointer (some ⟨p,0,none⟩)) W:=fun _=>by kernel_rfl
def O0 (w:World) (p:Nat) (F:List Nat) (A:NS):Prop:=∃B F1 Z gr st,p=B.n0∧F=B.blk F1 Z gr∧ShAt w B F1 Z gr A st
theorem O0.of {B:HB} {F1:List Nat} {gr:Nat} {A:NS} {F:List Nat} {w w':World} (h:Goes F w w' (fun F'=>∃Z' st',F'=B.blk F1 Z' gr∧ShAt w' B F1 Z' gr A st')):Goes F w w' (fun F'=>O0 w' B.n0 F' A):=by
 obtain ⟨F',⟨Z',st',rfl,hA⟩,hu,hf⟩:=h;exact ⟨_,⟨B,F1,Z',gr,st',rfl,rfl,hA⟩,hu,hf⟩
def vH:fJ where
 ty:=194
 at_:=O0
 upd:=fun h hu hS=>by
  obtain ⟨B,F1,Z,gr,st,rfl,rfl,hL⟩:=h;exact ⟨B,F1,Z,gr,st,rfl,rfl,hL.upd hu hS⟩
 lt:=fun h=>by
  obtain ⟨B,F1,Z,gr,st,rfl,rfl,cr,ptr,G,L,T,hM,hI⟩:=h;exact hM.lt
 ok:=fun h=>by
  obtain ⟨B,F1,Z,gr,st,rfl,rfl,cr,ptr,G,L,T,hM,hI⟩:=h;exact hM.cells.ok
 make:=fun {w p F A} h=>by
  obtain ⟨B,F1,Z,gr,st,rfl,rfl,hL⟩:=h;refine aN 274 (fun _ _=>by kernel_rfl) (Mw _) (fun W hW=>?_)
  have hLW:=hL.aj hW
  by_cases hl:65536<A.hs.length
  ·have e1:bS A=0:=by unfold bS;rw [if_pos hl]
   have e2:aG A=A:=by unfold aG;rw [if_pos hl]
   rw [e1,e2];refine (Jc hLW hl).mono ?_;rintro e w' ⟨rfl,F',⟨F2,rfl,hA⟩,hu,hf⟩;exact ⟨rfl,_,⟨B,F2,Z,gr,st,rfl,rfl,hA⟩,hu,hf⟩
  ·have e1:bS A=A.hs.length:=by unfold bS;rw [if_neg hl]
   rw [e1];refine (Ez hLW hl).mono ?_;rintro e w' ⟨rfl,F',⟨F2,Z2,gr2,rfl,hA⟩,hu,hf⟩;exact ⟨rfl,_,⟨B,F2,Z2,gr2,st,rfl,rfl,hA⟩,hu,hf⟩
 insert:=fun {w p F A} g y k s hk hB h=>by
  obtain ⟨B,F1,Z,gr,st,rfl,rfl,hL⟩:=h;refine aN 273 (fun _ _=>by kernel_rfl) (GV _) (fun W hW=>?_)
  exact (zZ (hL.aj hW) g y k s hk hB).mono (fun e w' h=>⟨h.1,O0.of h.2⟩)
 min:=fun {w p F A} g hB h=>by
  obtain ⟨B,F1,Z,gr,st,rfl,rfl,hL⟩:=h;refine aN 276 (fun _ _=>by kernel_rfl) (NR _) (fun W hW=>?_)
  refine (ze (hL.aj hW) g hB).mono ?_;rintro e w' ⟨rfl,rfl⟩;exact ⟨rfl,Goes.stay ⟨B,F1,Z,gr,st,rfl,rfl,hL.aj hW⟩ (aa.refl _ _)⟩
 extract:=fun {w p F A} g m hm h=>by
  obtain ⟨B,F1,Z,gr,st,rfl,rfl,hL⟩:=h;refine aN 272 (fun _ _=>by kernel_rfl) (DL _) (fun W hW=>?_)
  exact (xU (hL.aj hW) g m hm).mono (fun e w' h=>⟨h.1,O0.of h.2⟩)
 lQ:=fun {w p F A} y k s hk hB h=>by
  obtain ⟨B,F1,Z,gr,st,rfl,rfl,hL⟩:=h;refine aN 270 (fun _ _=>by kernel_rfl) (BN _) (fun W hW=>?_)
  exact (IY (hL.aj hW) y k s hk hB).mono (fun e w' h=>⟨h.1,O0.of h.2⟩)
 has:=fun x h=>by
  obtain ⟨B,F1,Z,gr,st,rfl,rfl,cr,ptr,G,L,T,hM,hI⟩:=h;exact fK 139 (fun _ _=>by kernel_rfl) hM.h0 (EO _ _) (fun W hW=>iq (hM.aj hW).cells x)
 entry:=fun {w p F A} x h=>by
  obtain ⟨B,F1,Z,gr,st,rfl,rfl,cr,ptr,G,L,T,hM,hI⟩:=h;refine fK 137 (fun _ _=>by kernel_rfl) hM.h0 (zX _ _) (fun W hW=>?_)
  cases hin:bD A x with
  | false=>simpa using jB (hM.aj hW).cells x hin
  | true=>
   obtain ⟨y,rfl⟩:=nJ hin;simpa using iI (hM.aj hW).cells y hin
theorem Em (p:Nat) (w:World):Calls Tryz.prog 103 #[.pointer (some ⟨p,0,none⟩),.int .i64 0] w fun e w'=>e=.returned (.tuple #[.iface 194 (.pointer (some ⟨p,0,none⟩)),.int .i64 0])∧w'=w:=by
 go_enter Tryz.func103,Tryz.ntmps103
 go_wp2;go_ret2;exact ⟨rfl,rfl⟩
theorem Jk (n:Nat) (hn:n≤65536):jX vH 8 0 n:=by
 intro w;have kn:=fun W=>GR n W hn
 have km:=Em;have hty:vH.ty=194:=rfl;have hat:∀w' B F Z gr,ShAt w' B F Z gr (NS.new n) 0→vH.at_ w' B.n0 (B.blk F Z gr) (NS.new n):=fun w' B F Z gr h=>⟨B,F,Z,gr,0,rfl,rfl,h⟩
 generalize vH=K at *
 rw [hty]
 go_enter Tryz.func81,Tryz.ntmps81
 go_wp2_with (first
  | ((go_at_call 104;(with_reducible refine (kn _).mono ?_));rintro e w1 ⟨B,F,gr,rfl,hS,hu1,hf⟩)
  | ((go_at_call 103;(with_reducible refine (km _ _).mono ?_));rintro e w2 ⟨rfl,rfl⟩)
  | fail)
 go_ret2;exact ⟨B.n0,B.blk F [] gr,rfl,hat _ _ _ _ _ hS,aa.trans β hu1,fun x hx=>by have:=hf x hx;simp at this;omega⟩
theorem pY (kd d:Int) (n:Nat) (hc:kX kd d=0) (hn:n≤65536):∃K:fJ,jX K kd d n:=by
 by_cases h8:kd=8
 ·subst h8;have hd:d=0:=(DN hc).2.2.2 ω;subst hd;exact ⟨_,Jk n hn⟩
 ·exact DV kd d n hc h8 hn
end Go.Proofs.YtklibcncmbofpaaGreat
