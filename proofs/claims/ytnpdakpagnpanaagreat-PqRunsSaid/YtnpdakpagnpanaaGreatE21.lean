/-
  Lemmas.
-/
import Derived.Test.YtnpdakpagnpanaaGreatE20
set_option linter.all false
set_option maxHeartbeats 8000000
set_option maxRecDepth 10000
namespace Go.Proofs.YtnpdakpagnpanaaGreat
open Tryz
open Go Go.RowKit
def LA:VI 146 "Has" 123:=by intro p c W h;unfold method;obtain⟨m,h1,h2,h3,h4⟩:=xA Tryz.t146.methods "Has" [⟨210,0,true⟩] 123 (by kernel_rfl);exact xD
def Hm:VI 146 "Entry" 121:=by intro p c W h;unfold method;obtain⟨m,h1,h2,h3,h4⟩:=xA Tryz.t146.methods "Entry" [⟨210,0,true⟩] 121 (by kernel_rfl);exact xD
def YE:MI 146 "Make" 264:=λ_ _=>by kernel_rfl
def PW:MI 146 "Insert" 263:=λ_ _=>by kernel_rfl
def acp:MI 146 "Min" 266:=λ_ _=>by kernel_rfl
def Ny:MI 146 "Extract" 262:=λ_ _=>by kernel_rfl
def Jo:MI 146 "Decrease" 260:=λ_ _=>by kernel_rfl
def ShQ(w:World)(p:Nat)(F:List Nat)(A:NS):Prop:=∃B F1 Z gr st,p=B.n0/\F=B.blk F1 Z gr/\ShAt w B F1 Z gr A st
def ShQ.of{B:HB}{c:List Nat}{gr:Nat}{A:NS}{F:List Nat}{w w':World}(h:Goes F w w' (λF'=>∃b a,F'=B.blk c b gr/\ShAt w' B c b gr A a)):Goes F w w' (λF'=>ShQ w' B.n0 F' A):=by
 obtain⟨F',⟨b,a,rfl,d⟩,e,f⟩:=h;exact⟨_,⟨B,c,b,gr,a,rfl,rfl,d⟩,e,f⟩
def yh:NestQ where
 ty:=146
 at_:=ShQ
 upd:=λh hu hS=>by
  obtain⟨B,F1,Z,gr,st,rfl,rfl,hL⟩:=h;exact⟨B,F1,Z,gr,st,rfl,rfl,hL.upd hu hS⟩
 lt:=λh=>by
  obtain⟨B,F1,Z,gr,st,rfl,rfl,cr,ptr,G,L,T,hM,hI⟩:=h;exact hM.lt
 ok:=λh=>by
  obtain⟨B,F1,Z,gr,st,rfl,rfl,cr,ptr,G,L,T,hM,hI⟩:=h;exact hM.cells.ok
 make:=λ{w p F A} h=>by
  obtain⟨B,F1,Z,gr,st,rfl,rfl,hL⟩:=h;refine aL 264 (λ_ _=>by kernel_rfl) (YE _) (λW hW=>?_);have jT:=hL.ag hW
  by_cases hl:65536<A.hs.length
  .have e1:dF A=0:=by unfold dF;rw[Δ hl]
   have e2:aO A=A:=by unfold aO;rw[Δ hl]
   rw[e1,e2];refine(SG jT hl).mono ?_;rintro e w' ⟨rfl,F',⟨F2,rfl,hA⟩,hu,hf⟩;exact⟨rfl,_,⟨B,F2,Z,gr,st,rfl,rfl,hA⟩,hu,hf⟩
  .have e1:dF A=A.hs.length:=by unfold dF;rw[Γ hl]
   rw[e1];refine(ND jT hl).mono ?_;rintro e w' ⟨rfl,F',⟨F2,Z2,gr2,rfl,hA⟩,hu,hf⟩;exact⟨rfl,_,⟨B,F2,Z2,gr2,st,rfl,rfl,hA⟩,hu,hf⟩
 insert:=λ{w p F A} g y k s hk hB h=>by
  obtain⟨B,F1,Z,gr,st,rfl,rfl,hL⟩:=h;refine aL 263 (λ_ _=>by kernel_rfl) (PW _) (λW hW=>?_);exact(F7 (hL.ag hW) g y k s hk hB).mono (λe w' h=>⟨h.1,ShQ.of h.2⟩)
 min:=λ{w p F A} g hB h=>by
  obtain⟨B,F1,Z,gr,st,rfl,rfl,hL⟩:=h;refine aL 266 (λ_ _=>by kernel_rfl) (acp _) (λW hW=>?_);refine(EW (hL.ag hW) g hB).mono ?_;rintro e w' ⟨rfl,rfl⟩;exact⟨rfl,Goes.stay ⟨B,F1,Z,gr,st,rfl,rfl,hL.ag hW⟩ (ae.refl _ _)⟩
 extract:=λ{w p F A} g m hm h=>by
  obtain⟨B,F1,Z,gr,st,rfl,rfl,hL⟩:=h;refine aL 262 (λ_ _=>by kernel_rfl) (Ny _) (λW hW=>?_);exact(Cn (hL.ag hW) g m hm).mono (λe w' h=>⟨h.1,ShQ.of h.2⟩)
 nC:=λ{w p F A} y k s hk hB h=>by
  obtain⟨B,F1,Z,gr,st,rfl,rfl,hL⟩:=h;refine aL 260 (λ_ _=>by kernel_rfl) (Jo _) (λW hW=>?_);exact(PD (hL.ag hW) y k s hk hB).mono (λe w' h=>⟨h.1,ShQ.of h.2⟩)
 has:=λx h=>by
  obtain⟨B,F1,Z,gr,st,rfl,rfl,cr,ptr,G,L,T,hM,hI⟩:=h;exact dQ 123 (λ_ _=>by kernel_rfl) hM.h0 (LA _ _) (λW hW=>jQ (hM.ag hW).cells x)
 entry:=λ{w p F A} x h=>by
  obtain⟨B,F1,Z,gr,st,rfl,rfl,cr,ptr,G,L,T,hM,hI⟩:=h;refine dQ 121 (λ_ _=>by kernel_rfl) hM.h0 (Hm _ _) (λW hW=>?_);cases hin:bY A x with
  |false=>simpa using mH (hM.ag hW).cells x hin
  |true=>
   obtain⟨y,rfl⟩:=sO hin;simpa using lg (hM.ag hW).cells y hin
def Lc(p:Nat)(w:World):Calls prog 69 #[p,(0:Int)] w λe w'=>e=.returned (.tuple #[.iface 146 (.pointer (some p)),(0:Int)])/\w'=w:=by
 go_enter func69,ntmps69
 go_wp2;go_ret2;exact⟨rfl,rfl⟩
def Kb(n:Nat)(l:n<=65536):qG yh 8 0 n:=by
 intro w;have i:=λW=>SC n W l;have j:=Lc;have c:yh.ty=146:=rfl;have a:∀w' B F Z gr,ShAt w' B F Z gr (NS.new n) 0->yh.at_ w' B.n0 (B.blk F Z gr) (NS.new n)/\IL w' B.n0 n:=λw' B F Z gr h=>⟨⟨B,F,Z,gr,0,rfl,rfl,h⟩,by obtain⟨cr,ptr,G,L,T,f,p⟩:=h;exact⟨_,_,f.h0,f.cells⟩⟩
 generalize yh=K at *;rw[c]
 go_enter func35,ntmps35
 go_wp2_with (first
  |(((with_reducible refine(i _).mono ?_));rintro e m ⟨B,F,gr,rfl,d,b,g⟩)
  | (((with_reducible refine (j _ _).mono ?_));rintro e o ⟨rfl,rfl⟩))
 go_ret2;exact⟨B.n0,B.blk F [] gr,rfl,(a _ _ _ _ _ d).1,(a _ _ _ _ _ d).2,ae.trans β b,λx k=>by have:=g x k;simp at this;omega⟩
def Qp(kd d:Int)(n:Nat)(b:xe kd d=0)(c:n<=65536):∃K:NestQ,qG K kd d n:=by
 by_cases a:kd=8
 .subst a;have e:d=0:=(Hw b).2.2.2 ω;subst e;exact⟨_,Kb n c⟩
 .exact MK kd d n b a c
