/-
  Lemmas for PqSorts: SdQ. Conditions: those of each lemma.
-/
import Derived.Test.YtnpdakpagnpanaaGreatA15
set_option linter.all false
set_option maxHeartbeats 8000000
set_option maxRecDepth 10000
namespace Go.Proofs.YtnpdakpagnpanaaGreat
open Go Go.RowKit
theorem Fu (p c:Nat):∀W:World,W.cell? ⟨p,0,none⟩=some (.pointer (some ⟨c,0,none⟩))->(method 409 146 (.pointer (some ⟨p,0,none⟩)) "Has").run Tryz.prog W=.ok (123,.pointer (some ⟨c,0,none⟩)) W:=(by intro W h;unfold method;have hm:∃m,(Array.find? (λx=>x.name == "Has") Tryz.t146.methods)=some m/\m.path.toList=[⟨210,0,true⟩]/\m.func=some (123,true)/\m.path.isEmpty=false:=⟨(Array.find? (λx=>x.name == "Has") Tryz.t146.methods).get!,by kernel_rfl,by kernel_rfl,by kernel_rfl,by kernel_rfl⟩;obtain ⟨m,h1,h2,h3,h4⟩:=hm;go_simp;simp only [follow,Place.get];go_simp;(try unfold receiverAt);(try simp only [Place.get]);(try go_simp))
theorem Ca (p c:Nat):∀W:World,W.cell? ⟨p,0,none⟩=some (.pointer (some ⟨c,0,none⟩))->(method 409 146 (.pointer (some ⟨p,0,none⟩)) "Entry").run Tryz.prog W=.ok (121,.pointer (some ⟨c,0,none⟩)) W:=(by intro W h;unfold method;have hm:∃m,(Array.find? (λx=>x.name == "Entry") Tryz.t146.methods)=some m/\m.path.toList=[⟨210,0,true⟩]/\m.func=some (121,true)/\m.path.isEmpty=false:=⟨(Array.find? (λx=>x.name == "Entry") Tryz.t146.methods).get!,by kernel_rfl,by kernel_rfl,by kernel_rfl,by kernel_rfl⟩;obtain ⟨m,h1,h2,h3,h4⟩:=hm;go_simp;simp only [follow,Place.get];go_simp;(try unfold receiverAt);(try simp only [Place.get]);(try go_simp))
theorem RJ (p:Nat):∀W:World,(method 409 146 (.pointer (some ⟨p,0,none⟩)) "Make").run Tryz.prog W=.ok (264,.pointer (some ⟨p,0,none⟩)) W:=λ_=>by kernel_rfl
theorem LD (p:Nat):∀W:World,(method 409 146 (.pointer (some ⟨p,0,none⟩)) "Insert").run Tryz.prog W=.ok (263,.pointer (some ⟨p,0,none⟩)) W:=λ_=>by kernel_rfl
theorem Vx (p:Nat):∀W:World,(method 409 146 (.pointer (some ⟨p,0,none⟩)) "Min").run Tryz.prog W=.ok (266,.pointer (some ⟨p,0,none⟩)) W:=λ_=>by kernel_rfl
theorem Fv (p:Nat):∀W:World,(method 409 146 (.pointer (some ⟨p,0,none⟩)) "Extract").run Tryz.prog W=.ok (262,.pointer (some ⟨p,0,none⟩)) W:=λ_=>by kernel_rfl
def WC (w:World) (p:Nat) (F:List Nat) (A:NS):Prop:=∃B F1 Z gr st,p=B.n0/\F=B.blk F1 Z gr/\ShAt w B F1 Z gr A st
theorem WC.of {B:HB} {F1:List Nat} {gr:Nat} {A:NS} {F:List Nat} {w w':World} (h:Goes F w w' (λF'=>∃Z' st',F'=B.blk F1 Z' gr/\ShAt w' B F1 Z' gr A st')):Goes F w w' (λF'=>WC w' B.n0 F' A):=by
 obtain ⟨F',⟨Z',st',rfl,hA⟩,hu,hf⟩:=h;exact ⟨_,⟨B,F1,Z',gr,st',rfl,rfl,hA⟩,hu,hf⟩
def tV:NestQ where
 ty:=146
 at_:=WC
 upd:=λh hu hS=>by
  obtain ⟨B,F1,Z,gr,st,rfl,rfl,hL⟩:=h;exact ⟨B,F1,Z,gr,st,rfl,rfl,hL.upd hu hS⟩
 lt:=λh=>by
  obtain ⟨B,F1,Z,gr,st,rfl,rfl,cr,ptr,G,L,T,hM,hI⟩:=h;exact hM.lt
 ok:=λh=>by
  obtain ⟨B,F1,Z,gr,st,rfl,rfl,cr,ptr,G,L,T,hM,hI⟩:=h;exact hM.cells.ok
 make:=λ{w p F A} h=>by
  obtain ⟨B,F1,Z,gr,st,rfl,rfl,hL⟩:=h;refine aP 264 (λ_ _=>by kernel_rfl) (RJ _) (λW hW=>?_);have mg:=hL.ai hW
  by_cases hl:65536<A.hs.length
  ·have e1:bW A=0:=by unfold bW;rw [Δ hl]
   have e2:aI A=A:=by unfold aI;rw [Δ hl]
   rw [e1,e2];refine (Jk mg hl).mono ?_;rintro e w' ⟨rfl,F',⟨F2,rfl,hA⟩,hu,hf⟩;exact ⟨rfl,_,⟨B,F2,Z,gr,st,rfl,rfl,hA⟩,hu,hf⟩
  ·have e1:bW A=A.hs.length:=by unfold bW;rw [Γ hl]
   rw [e1];refine (GJ mg hl).mono ?_;rintro e w' ⟨rfl,F',⟨F2,Z2,gr2,rfl,hA⟩,hu,hf⟩;exact ⟨rfl,_,⟨B,F2,Z2,gr2,st,rfl,rfl,hA⟩,hu,hf⟩
 insert:=λ{w p F A} g y k s hk hB h=>by
  obtain ⟨B,F1,Z,gr,st,rfl,rfl,hL⟩:=h;refine aP 263 (λ_ _=>by kernel_rfl) (LD _) (λW hW=>?_);exact (Ck (hL.ai hW) g y k s hk hB).mono (λe w' h=>⟨h.1,WC.of h.2⟩)
 min:=λ{w p F A} g hB h=>by
  obtain ⟨B,F1,Z,gr,st,rfl,rfl,hL⟩:=h;refine aP 266 (λ_ _=>by kernel_rfl) (Vx _) (λW hW=>?_);refine (Ak (hL.ai hW) g hB).mono ?_;rintro e w' ⟨rfl,rfl⟩;exact ⟨rfl,Goes.stay ⟨B,F1,Z,gr,st,rfl,rfl,hL.ai hW⟩ (aa.refl _ _)⟩
 extract:=λ{w p F A} g m hm h=>by
  obtain ⟨B,F1,Z,gr,st,rfl,rfl,hL⟩:=h;refine aP 262 (λ_ _=>by kernel_rfl) (Fv _) (λW hW=>?_);exact (xx (hL.ai hW) g m hm).mono (λe w' h=>⟨h.1,WC.of h.2⟩)
 has:=λx h=>by
  obtain ⟨B,F1,Z,gr,st,rfl,rfl,cr,ptr,G,L,T,hM,hI⟩:=h;exact gN 123 (λ_ _=>by kernel_rfl) hM.h0 (Fu _ _) (λW hW=>iM (hM.ai hW).cells x)
 entry:=λ{w p F A} x h=>by
  obtain ⟨B,F1,Z,gr,st,rfl,rfl,cr,ptr,G,L,T,hM,hI⟩:=h;refine gN 121 (λ_ _=>by kernel_rfl) hM.h0 (Ca _ _) (λW hW=>?_);cases hin:bR A x with
  | false=>simpa using jP (hM.ai hW).cells x hin
  | true=>
   obtain ⟨y,rfl⟩:=oW hin;simpa using iZ (hM.ai hW).cells y hin
theorem G8 (p:Nat) (w:World):Calls Tryz.prog 69 #[.pointer (some ⟨p,0,none⟩),.int .i64 0] w λe w'=>e=.returned (.tuple #[.iface 146 (.pointer (some ⟨p,0,none⟩)),.int .i64 0])/\w'=w:=by
 go_enter Tryz.func69,Tryz.ntmps69
 go_wp2;go_ret2;exact ⟨rfl,rfl⟩
theorem Db (n:Nat) (hn:n<=65536):nW tV 8 0 n:=by
 intro w;have kn:=λW=>Le n W hn;have km:=G8;have hty:tV.ty=146:=rfl;have hat:∀w' B F Z gr,ShAt w' B F Z gr (NS.new n) 0->tV.at_ w' B.n0 (B.blk F Z gr) (NS.new n)/\Ef w' B.n0 n:=λw' B F Z gr h=>⟨⟨B,F,Z,gr,0,rfl,rfl,h⟩,by obtain ⟨cr,ptr,G,L,T,hM,hI⟩:=h;exact ⟨_,_,hM.h0,hM.cells⟩⟩
 generalize tV=K at *;rw [hty]
 go_enter Tryz.func35,Tryz.ntmps35
 go_wp2_with (first
  | ((go_at_call 70;(with_reducible refine (kn _).mono ?_));rintro e w1 ⟨B,F,gr,rfl,hS,hu1,hf⟩)
  | ((go_at_call 69;(with_reducible refine (km _ _).mono ?_));rintro e w2 ⟨rfl,rfl⟩)
  | fail)
 go_ret2;exact ⟨B.n0,B.blk F [] gr,rfl,(hat _ _ _ _ _ hS).1,(hat _ _ _ _ _ hS).2,aa.trans β hu1,λx hx=>by have:=hf x hx;simp at this;omega⟩
theorem Km (kd d:Int) (n:Nat) (hc:zx kd d=0) (hn:n<=65536):∃K:NestQ,nW K kd d n:=by
 by_cases h8:kd=8
 ·subst h8;have hd:d=0:=(BR hc).2.2.2 ω;subst hd;exact ⟨_,Db n hn⟩
 ·exact Gw kd d n hc h8 hn
end Go.Proofs.YtnpdakpagnpanaaGreat
