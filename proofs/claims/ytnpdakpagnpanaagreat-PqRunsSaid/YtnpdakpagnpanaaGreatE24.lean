/-
  Lemmas.
-/
import Derived.Test.YtnpdakpagnpanaaGreatE21
import Derived.Test.YtnpdakpagnpanaaGreatE23
set_option linter.all false
set_option maxHeartbeats 8000000
set_option maxRecDepth 10000
namespace Go.Proofs.YtnpdakpagnpanaaGreat
open Tryz
open Go Go.RowKit
def Jr:VI 146 "Len" 126:=by intro p c W h;unfold method;obtain⟨m,h1,h2,h3,h4⟩:=xA Tryz.t146.methods "Len" [⟨210,0,true⟩] 126 (by kernel_rfl);exact xD
def Ht:VI 146 "Home" 124:=by intro p c W h;unfold method;obtain⟨m,h1,h2,h3,h4⟩:=xA Tryz.t146.methods "Home" [⟨210,0,true⟩] 124 (by kernel_rfl);exact xD
def Me:MI 146 "Delete" 261:=λ_ _=>by kernel_rfl
def Uq:MI 146 "Meld" 265:=λ_ _=>by kernel_rfl
def XY:mE where
 toNestQ:=yh
 delete:=λ{w p F A} y hin h=>by
  obtain⟨B,F1,Z,gr,st,rfl,rfl,hL⟩:=h;refine aL 261 (λ_ _=>by kernel_rfl) (Me _) (λW hW=>?_);exact(yY (hL.ag hW) y hin).mono (λe w' h=>⟨h.1,ShQ.of h.2⟩)
 CY:=λ{w p F A} a b hB h=>by
  obtain⟨B,F1,Z,gr,st,rfl,rfl,hL⟩:=h;refine aL 265 (λ_ _=>by kernel_rfl) (Uq _) (λW hW=>?_);exact(Lv (hL.ag hW) a b hB).mono (λe w' h=>⟨h.1,ShQ.of h.2⟩)
 len:=λx hx h=>by
  obtain⟨B,F1,Z,gr,st,rfl,rfl,cr,ptr,G,L,T,hM,hI⟩:=h;exact dQ 126 (λ_ _=>by kernel_rfl) hM.h0 (Jr _ _) (λW hW=>jf (hM.ag hW).cells x hx)
 home:=λ{w p F A} y hin h=>by
  obtain⟨B,F1,Z,gr,st,rfl,rfl,cr,ptr,G,L,T,hM,hI⟩:=h;refine dQ 124 (λ_ _=>by kernel_rfl) hM.h0 (Ht _ _) (λW hW=>?_);have jI:=hM.ag hW;refine(bX jI.cells y hin).mono ?_;rintro e w' ⟨rfl,hC,hu⟩;exact⟨rfl,Goes.stay ⟨B,F1,Z,gr,st,rfl,rfl,cr,ptr,G,L,T,jI.cK hu hC (λy hy=>Α hy) rfl rfl,hI⟩ (hu.mono (λz hz=>B.Ap hz))⟩
def Kt:VI 122 "Len" 126:=by intro p c W h;unfold method;obtain⟨m,h1,h2,h3,h4⟩:=xA Tryz.t122.methods "Len" [⟨179,0,true⟩] 126 (by kernel_rfl);exact xD
def Gm:VI 122 "Home" 124:=by intro p c W h;unfold method;obtain⟨m,h1,h2,h3,h4⟩:=xA Tryz.t122.methods "Home" [⟨179,0,true⟩] 124 (by kernel_rfl);exact xD
def Nz:MI 122 "Delete" 120:=λ_ _=>by kernel_rfl
def TI:MI 122 "Meld" 128:=λ_ _=>by kernel_rfl
def ZU(d:Nat):mE where
 toNestQ:=yc d
 delete:=λ{w p F A} y hin h=>by
  obtain⟨B,F1,Z,gr,st,rfl,rfl,hd,hL⟩:=h;refine aL 120 (λ_ _=>by kernel_rfl) (Nz _) (λW hW=>?_);exact(Ad (hL.ag hW) y hin).mono (λe w' h=>⟨h.1,XT.of hd h.2⟩)
 CY:=λ{w p F A} a b hB h=>by
  obtain⟨B,F1,Z,gr,st,rfl,rfl,hd,hL⟩:=h;refine aL 128 (λ_ _=>by kernel_rfl) (TI _) (λW hW=>?_);exact(QL (hL.ag hW) a b hB).mono (λe w' h=>⟨h.1,XT.of hd h.2⟩)
 len:=λx hx h=>by
  obtain⟨B,F1,Z,gr,st,rfl,rfl,hd,cr,ptr,G,L,hM,hI⟩:=h;exact dQ 126 (λ_ _=>by kernel_rfl) hM.h0 (Kt _ _) (λW hW=>jf (hM.ag hW).cells x hx)
 home:=λ{w p F A} y hin h=>by
  obtain⟨B,F1,Z,gr,st,rfl,rfl,hd,cr,ptr,G,L,hM,hI⟩:=h;refine dQ 124 (λ_ _=>by kernel_rfl) hM.h0 (Gm _ _) (λW hW=>?_);have jI:=hM.ag hW;refine(bX jI.cells y hin).mono ?_;rintro e w' ⟨rfl,hC,hu⟩;exact⟨rfl,Goes.stay ⟨B,F1,Z,gr,st,rfl,rfl,hd,cr,ptr,G,L,jI.cK hu hC (λy hy=>Α hy) rfl,hI⟩ (hu.mono (λz hz=>by simp only[DB.blk,ρ,τ];simp[hz]))⟩
def Df(kd d:Int)(n:Nat)(b:xe kd d=0)(a:n<=65536):∃K:mE,qG K.toNestQ kd d n:=by
 have e:=Hw b
 by_cases h:kd=1\/kd=2
 .obtain⟨m,c⟩:∃m:Nat,arity kd d=(m:Int):=by
   refine⟨(arity kd d).toNat,?_⟩;unfold arity
   grind
  exact⟨ZU m,Jf kd d n m b h c a⟩
 .have f:d=0:=e.2.2.2 ω;subst f;have g:kd=3\/kd=4\/kd=5\/kd=6\/kd=7\/kd=8:=ω;rcases g with rfl|rfl|rfl|rfl|rfl|rfl
  .exact⟨Ye,Iq n a⟩
  .exact⟨Ze,Kj n a⟩
  .exact⟨YQ,Jl n a⟩
  .exact⟨Yz,Kc n a⟩
  .exact⟨Ym,Jy n a⟩
  .exact⟨XY,Kb n a⟩
