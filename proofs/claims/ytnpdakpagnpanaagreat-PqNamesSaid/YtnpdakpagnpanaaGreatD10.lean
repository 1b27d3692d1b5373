/-
  Lemmas for PqOpens: SdQ. Conditions: those of each lemma.
-/
import Derived.Test.YtnpdakpagnpanaaGreatD09
set_option linter.all false
set_option maxHeartbeats 8000000
set_option maxRecDepth 10000
namespace Go.Proofs.YtnpdakpagnpanaaGreat
open Go Go.RowKit
theorem uy (p c:Nat):∀W:World,W.cell? ⟨p,0,none⟩=some (.pointer (some ⟨c,0,none⟩))->(method 409 146 (.pointer (some ⟨p,0,none⟩)) "Has").run Tryz.prog W=.ok (123,.pointer (some ⟨c,0,none⟩)) W:=(by intro W h;unfold method;have hm:∃m,(Array.find? (λx=>x.name == "Has") Tryz.t146.methods)=some m/\m.path.toList=[⟨210,0,true⟩]/\m.func=some (123,true)/\m.path.isEmpty=false:=⟨(Array.find? (λx=>x.name == "Has") Tryz.t146.methods).get!,by kernel_rfl,by kernel_rfl,by kernel_rfl,by kernel_rfl⟩;obtain ⟨m,h1,h2,h3,h4⟩:=hm;go_simp;simp only [follow,Place.get];go_simp;(try unfold receiverAt);(try simp only [Place.get]);(try go_simp))
theorem qE (p c:Nat):∀W:World,W.cell? ⟨p,0,none⟩=some (.pointer (some ⟨c,0,none⟩))->(method 409 146 (.pointer (some ⟨p,0,none⟩)) "Entry").run Tryz.prog W=.ok (121,.pointer (some ⟨c,0,none⟩)) W:=(by intro W h;unfold method;have hm:∃m,(Array.find? (λx=>x.name == "Entry") Tryz.t146.methods)=some m/\m.path.toList=[⟨210,0,true⟩]/\m.func=some (121,true)/\m.path.isEmpty=false:=⟨(Array.find? (λx=>x.name == "Entry") Tryz.t146.methods).get!,by kernel_rfl,by kernel_rfl,by kernel_rfl,by kernel_rfl⟩;obtain ⟨m,h1,h2,h3,h4⟩:=hm;go_simp;simp only [follow,Place.get];go_simp;(try unfold receiverAt);(try simp only [Place.get]);(try go_simp))
theorem Cx (p:Nat):∀W:World,(method 409 146 (.pointer (some ⟨p,0,none⟩)) "Make").run Tryz.prog W=.ok (264,.pointer (some ⟨p,0,none⟩)) W:=λ_=>by kernel_rfl
theorem xI (p:Nat):∀W:World,(method 409 146 (.pointer (some ⟨p,0,none⟩)) "Insert").run Tryz.prog W=.ok (263,.pointer (some ⟨p,0,none⟩)) W:=λ_=>by kernel_rfl
theorem FC (p:Nat):∀W:World,(method 409 146 (.pointer (some ⟨p,0,none⟩)) "Min").run Tryz.prog W=.ok (266,.pointer (some ⟨p,0,none⟩)) W:=λ_=>by kernel_rfl
def I8 (w:World) (p:Nat) (F:List Nat) (A:NS):Prop:=∃B F1 Z gr st,p=B.n0/\F=B.blk F1 Z gr/\ShAt w B F1 Z gr A st
theorem I8.of {B:HB} {F1:List Nat} {gr:Nat} {A:NS} {F:List Nat} {w w':World} (h:Goes F w w' (λF'=>∃Z' st',F'=B.blk F1 Z' gr/\ShAt w' B F1 Z' gr A st')):Goes F w w' (λF'=>I8 w' B.n0 F' A):=by
 obtain ⟨F',⟨Z',st',rfl,hA⟩,hu,hf⟩:=h;exact ⟨_,⟨B,F1,Z',gr,st',rfl,rfl,hA⟩,hu,hf⟩
def mi:bV where
 ty:=146
 at_:=I8
 upd:=λh hu hS=>by
  obtain ⟨B,F1,Z,gr,st,rfl,rfl,hL⟩:=h;exact ⟨B,F1,Z,gr,st,rfl,rfl,hL.upd hu hS⟩
 lt:=λh=>by
  obtain ⟨B,F1,Z,gr,st,rfl,rfl,cr,ptr,G,L,T,hM,hI⟩:=h;exact hM.lt
 ok:=λh=>by
  obtain ⟨B,F1,Z,gr,st,rfl,rfl,cr,ptr,G,L,T,hM,hI⟩:=h;exact hM.cells.ok
 make:=λ{w p F A} h=>by
  obtain ⟨B,F1,Z,gr,st,rfl,rfl,hL⟩:=h;refine aQ 264 (λ_ _=>by kernel_rfl) (Cx _) (λW hW=>?_);have jg:=hL.ah hW
  by_cases hl:65536<A.hs.length
  ·have e1:aT A=0:=by unfold aT;rw [Δ hl]
   have e2:ag A=A:=by unfold ag;rw [Δ hl]
   rw [e1,e2];refine (xV jg hl).mono ?_;rintro e w' ⟨rfl,F',⟨F2,rfl,hA⟩,hu,hf⟩;exact ⟨rfl,_,⟨B,F2,Z,gr,st,rfl,rfl,hA⟩,hu,hf⟩
  ·have e1:aT A=A.hs.length:=by unfold aT;rw [Γ hl]
   rw [e1];refine (uh jg hl).mono ?_;rintro e w' ⟨rfl,F',⟨F2,Z2,Jm,rfl,hA⟩,hu,hf⟩;exact ⟨rfl,_,⟨B,F2,Z2,Jm,st,rfl,rfl,hA⟩,hu,hf⟩
 insert:=λ{w p F A} g y k s hk hB h=>by
  obtain ⟨B,F1,Z,gr,st,rfl,rfl,hL⟩:=h;refine aQ 263 (λ_ _=>by kernel_rfl) (xI _) (λW hW=>?_);exact (pX (hL.ah hW) g y k s hk hB).mono (λe w' h=>⟨h.1,I8.of h.2⟩)
 min:=λ{w p F A} g hB h=>by
  obtain ⟨B,F1,Z,gr,st,rfl,rfl,hL⟩:=h;refine aQ 266 (λ_ _=>by kernel_rfl) (FC _) (λW hW=>?_);refine (xX (hL.ah hW) g hB).mono ?_;rintro e w' ⟨rfl,rfl⟩;exact ⟨rfl,Goes.stay ⟨B,F1,Z,gr,st,rfl,rfl,hL.ah hW⟩ (aa.refl _ _)⟩
 has:=λx h=>by
  obtain ⟨B,F1,Z,gr,st,rfl,rfl,cr,ptr,G,L,T,hM,hI⟩:=h;exact cB 123 (λ_ _=>by kernel_rfl) hM.h0 (uy _ _) (λW hW=>dF (hM.ah hW).cells x)
 entry:=λ{w p F A} x h=>by
  obtain ⟨B,F1,Z,gr,st,rfl,rfl,cr,ptr,G,L,T,hM,hI⟩:=h;refine cB 121 (λ_ _=>by kernel_rfl) hM.h0 (qE _ _) (λW hW=>?_);cases hin:dh A x with
  | false=>simpa using eQ (hM.ah hW).cells x hin
  | true=>
   obtain ⟨y,rfl⟩:=iD hin;simpa using dQ (hM.ah hW).cells y hin
theorem vH (p:Nat) (w:World):Calls Tryz.prog 69 #[.pointer (some ⟨p,0,none⟩),.int .i64 0] w λe w'=>e=.returned (.tuple #[.iface 146 (.pointer (some ⟨p,0,none⟩)),.int .i64 0])/\w'=w:=by
 go_enter Tryz.func69,Tryz.ntmps69
 go_wp2;go_ret2;exact ⟨rfl,rfl⟩
theorem rT (n:Nat) (hn:n<=65536):fP mi 8 0 n:=by
 intro w;have kn:=λW=>xU n W hn;have km:=vH;have hty:mi.ty=146:=rfl;have hat:∀w' B F Z gr,ShAt w' B F Z gr (NS.new n) 0->mi.at_ w' B.n0 (B.blk F Z gr) (NS.new n)/\lX w' B.n0 n:=λw' B F Z gr h=>⟨⟨B,F,Z,gr,0,rfl,rfl,h⟩,by obtain ⟨cr,ptr,G,L,T,hM,hI⟩:=h;exact ⟨_,_,hM.h0,hM.cells⟩⟩
 generalize mi=K at *;rw [hty]
 go_enter Tryz.func35,Tryz.ntmps35
 go_wp2_with (first
  | ((go_at_call 70;(with_reducible refine (kn _).mono ?_));rintro e w1 ⟨B,F,gr,rfl,hS,hu1,hf⟩)
  | ((go_at_call 69;(with_reducible refine (km _ _).mono ?_));rintro e w2 ⟨rfl,rfl⟩)
  | fail)
 go_ret2;exact ⟨B.n0,B.blk F [] gr,rfl,(hat _ _ _ _ _ hS).1,(hat _ _ _ _ _ hS).2,aa.trans β hu1,λx hx=>by have:=hf x hx;simp at this;omega⟩
theorem oW (kd d:Int) (n:Nat) (hc:jE kd d=0) (hn:n<=65536):∃K:bV,fP K kd d n:=by
 by_cases h8:kd=8
 ·subst h8;have hd:d=0:=(ql hc).2.2.2 ω;subst hd;exact ⟨_,rT n hn⟩
 ·exact uB kd d n hc h8 hn
end Go.Proofs.YtnpdakpagnpanaaGreat
