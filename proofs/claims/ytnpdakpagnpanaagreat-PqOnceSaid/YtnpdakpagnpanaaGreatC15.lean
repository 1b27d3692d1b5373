/-
  Lemmas for PqAlike: SdQ. Conditions: those of each lemma.
-/
import Derived.Test.YtnpdakpagnpanaaGreatC14
set_option linter.all false
set_option maxHeartbeats 8000000
set_option maxRecDepth 10000
namespace Go.Proofs.YtnpdakpagnpanaaGreat
open Tryz
open Go Go.RowKit
theorem J3:VI 146 "Has" 123:=by intro p c W h;unfold method;obtain⟨m,h1,h2,h3,h4⟩:=wC Tryz.t146.methods "Has" [⟨210,0,true⟩] 123 (by kernel_rfl);exact vZ
theorem Fh:VI 146 "Entry" 121:=by intro p c W h;unfold method;obtain⟨m,h1,h2,h3,h4⟩:=wC Tryz.t146.methods "Entry" [⟨210,0,true⟩] 121 (by kernel_rfl);exact vZ
theorem XJ:MI 146 "Make" 264:=λ_ _=>by kernel_rfl
theorem Qh:MI 146 "Insert" 263:=λ_ _=>by kernel_rfl
theorem Zc:MI 146 "Min" 266:=λ_ _=>by kernel_rfl
theorem KR:MI 146 "Extract" 262:=λ_ _=>by kernel_rfl
theorem JB:MI 146 "Decrease" 260:=λ_ _=>by kernel_rfl
def YJ(w:World)(p:Nat)(F:List Nat)(A:NS):Prop:=∃B F1 Z gr st,p=B.n0/\F=B.blk F1 Z gr/\ShAt w B F1 Z gr A st
theorem YJ.of{B:HB}{F1:List Nat}{gr:Nat}{A:NS}{F:List Nat}{w w':World}(h:Goes F w w' (λF'=>∃Z' st',F'=B.blk F1 Z' gr/\ShAt w' B F1 Z' gr A st')):Goes F w w' (λF'=>YJ w' B.n0 F' A):=by
 obtain⟨F',⟨Z',st',rfl,hA⟩,hu,hf⟩:=h;exact⟨_,⟨B,F1,Z',gr,st',rfl,rfl,hA⟩,hu,hf⟩
def xR:NestQ where
 ty:=146
 at_:=YJ
 upd:=λh hu hS=>by
  obtain⟨B,F1,Z,gr,st,rfl,rfl,hL⟩:=h;exact⟨B,F1,Z,gr,st,rfl,rfl,hL.upd hu hS⟩
 lt:=λh=>by
  obtain⟨B,F1,Z,gr,st,rfl,rfl,cr,ptr,G,L,T,hM,hI⟩:=h;exact hM.lt
 ok:=λh=>by
  obtain⟨B,F1,Z,gr,st,rfl,rfl,cr,ptr,G,L,T,hM,hI⟩:=h;exact hM.cells.ok
 make:=λ{w p F A} h=>by
  obtain⟨B,F1,Z,gr,st,rfl,rfl,hL⟩:=h;refine aJ 264 (λ_ _=>by kernel_rfl) (XJ _) (λW hW=>?_);have jG:=hL.ag hW
  by_cases hl:65536<A.hs.length
  ·have e1:dJ A=0:=by unfold dJ;rw[Δ hl]
   have e2:aU A=A:=by unfold aU;rw[Δ hl]
   rw[e1,e2];refine(Qo jG hl).mono ?_;rintro e w' ⟨rfl,F',⟨F2,rfl,hA⟩,hu,hf⟩;exact⟨rfl,_,⟨B,F2,Z,gr,st,rfl,rfl,hA⟩,hu,hf⟩
  ·have e1:dJ A=A.hs.length:=by unfold dJ;rw[Γ hl]
   rw[e1];refine(Kj jG hl).mono ?_;rintro e w' ⟨rfl,F',⟨F2,Z2,gr2,rfl,hA⟩,hu,hf⟩;exact⟨rfl,_,⟨B,F2,Z2,gr2,st,rfl,rfl,hA⟩,hu,hf⟩
 insert:=λ{w p F A} g y k s hk hB h=>by
  obtain⟨B,F1,Z,gr,st,rfl,rfl,hL⟩:=h;refine aJ 263 (λ_ _=>by kernel_rfl) (Qh _) (λW hW=>?_);exact(FN (hL.ag hW) g y k s hk hB).mono (λe w' h=>⟨h.1,YJ.of h.2⟩)
 min:=λ{w p F A} g hB h=>by
  obtain⟨B,F1,Z,gr,st,rfl,rfl,hL⟩:=h;refine aJ 266 (λ_ _=>by kernel_rfl) (Zc _) (λW hW=>?_);refine(DD (hL.ag hW) g hB).mono ?_;rintro e w' ⟨rfl,rfl⟩;exact⟨rfl,Goes.stay ⟨B,F1,Z,gr,st,rfl,rfl,hL.ag hW⟩ (ae.refl _ _)⟩
 extract:=λ{w p F A} g m hm h=>by
  obtain⟨B,F1,Z,gr,st,rfl,rfl,hL⟩:=h;refine aJ 262 (λ_ _=>by kernel_rfl) (KR _) (λW hW=>?_);exact(z8 (hL.ag hW) g m hm).mono (λe w' h=>⟨h.1,YJ.of h.2⟩)
 mJ:=λ{w p F A} y k s hk hB h=>by
  obtain⟨B,F1,Z,gr,st,rfl,rfl,hL⟩:=h;refine aJ 260 (λ_ _=>by kernel_rfl) (JB _) (λW hW=>?_);exact(PX (hL.ag hW) y k s hk hB).mono (λe w' h=>⟨h.1,YJ.of h.2⟩)
 has:=λx h=>by
  obtain⟨B,F1,Z,gr,st,rfl,rfl,cr,ptr,G,L,T,hM,hI⟩:=h;exact dQ 123 (λ_ _=>by kernel_rfl) hM.h0 (J3 _ _) (λW hW=>jr (hM.ag hW).cells x)
 entry:=λ{w p F A} x h=>by
  obtain⟨B,F1,Z,gr,st,rfl,rfl,cr,ptr,G,L,T,hM,hI⟩:=h;refine dQ 121 (λ_ _=>by kernel_rfl) hM.h0 (Fh _ _) (λW hW=>?_);cases hin:bY A x with
  |false=>simpa using l9 (hM.ag hW).cells x hin
  |true=>
   obtain⟨y,rfl⟩:=rC hin;simpa using jT (hM.ag hW).cells y hin
theorem Mh(p:Nat)(w:World):Calls prog 69 #[.pointer (some ⟨p,0,none⟩),.int .i64 0] w λe w'=>e=.returned (.tuple #[.iface 146 (.pointer (some ⟨p,0,none⟩)),.int .i64 0])/\w'=w:=by
 go_enter func69,ntmps69
 go_wp2;go_ret2;exact⟨rfl,rfl⟩
theorem Jb(n:Nat)(hn:n<=65536):o9 xR 8 0 n:=by
 intro w;have kn:=λW=>P9 n W hn;have km:=Mh;have hty:xR.ty=146:=rfl;have hat:∀w' B F Z gr,ShAt w' B F Z gr (NS.new n) 0->xR.at_ w' B.n0 (B.blk F Z gr) (NS.new n)/\Ih w' B.n0 n:=λw' B F Z gr h=>⟨⟨B,F,Z,gr,0,rfl,rfl,h⟩,by obtain⟨cr,ptr,G,L,T,hM,hI⟩:=h;exact⟨_,_,hM.h0,hM.cells⟩⟩
 generalize xR=K at *;rw[hty]
 go_enter func35,ntmps35
 go_wp2_with (first
  |((go_at_call 70;(with_reducible refine(kn _).mono ?_));rintro e w1 ⟨B,F,gr,rfl,hS,hu1,hf⟩)
  |((go_at_call 69;(with_reducible refine(km _ _).mono ?_));rintro e w2 ⟨rfl,rfl⟩)
  | fail)
 go_ret2;exact⟨B.n0,B.blk F [] gr,rfl,(hat _ _ _ _ _ hS).1,(hat _ _ _ _ _ hS).2,ae.trans β hu1,λx hx=>by have:=hf x hx;simp at this;omega⟩
theorem OU(kd d:Int)(n:Nat)(hc:sG kd d=0)(hn:n<=65536):∃K:NestQ,o9 K kd d n:=by
 by_cases h8:kd=8
 ·subst h8;have hd:d=0:=(EK hc).2.2.2 ω;subst hd;exact⟨_,Jb n hn⟩
 ·exact Lu kd d n hc h8 hn
end Go.Proofs.YtnpdakpagnpanaaGreat
