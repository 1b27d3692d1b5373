/-
  Lemmas for PqAlike: RSh, RDr, OpR. Conditions: those of each lemma.
-/
import Derived.Test.YtnpdakpagnpanaaGreatC15
import Derived.Test.YtnpdakpagnpanaaGreatC17
set_option linter.all false
set_option maxHeartbeats 8000000
set_option maxRecDepth 10000
namespace Go.Proofs.YtnpdakpagnpanaaGreat
open Tryz
open Go Go.RowKit
theorem Ht:VI 146 "Len" 126:=by intro p c W h;unfold method;obtain⟨m,h1,h2,h3,h4⟩:=wC Tryz.t146.methods "Len" [⟨210,0,true⟩] 126 (by kernel_rfl);exact vZ
theorem EO:VI 146 "Home" 124:=by intro p c W h;unfold method;obtain⟨m,h1,h2,h3,h4⟩:=wC Tryz.t146.methods "Home" [⟨210,0,true⟩] 124 (by kernel_rfl);exact vZ
theorem Lm:MI 146 "Delete" 261:=λ_ _=>by kernel_rfl
theorem UZ:MI 146 "Meld" 265:=λ_ _=>by kernel_rfl
def V3:jZ where
 toNestQ:=xR
 delete:=λ{w p F A} y hin h=>by
  obtain⟨B,F1,Z,gr,st,rfl,rfl,hL⟩:=h;refine aJ 261 (λ_ _=>by kernel_rfl) (Lm _) (λW hW=>?_);exact(xD (hL.ag hW) y hin).mono (λe w' h=>⟨h.1,YJ.of h.2⟩)
 Ab:=λ{w p F A} a b hB h=>by
  obtain⟨B,F1,Z,gr,st,rfl,rfl,hL⟩:=h;refine aJ 265 (λ_ _=>by kernel_rfl) (UZ _) (λW hW=>?_);exact(LU (hL.ag hW) a b hB).mono (λe w' h=>⟨h.1,YJ.of h.2⟩)
 len:=λx hx h=>by
  obtain⟨B,F1,Z,gr,st,rfl,rfl,cr,ptr,G,L,T,hM,hI⟩:=h;exact dQ 126 (λ_ _=>by kernel_rfl) hM.h0 (Ht _ _) (λW hW=>iT (hM.ag hW).cells x hx)
 home:=λ{w p F A} y hin h=>by
  obtain⟨B,F1,Z,gr,st,rfl,rfl,cr,ptr,G,L,T,hM,hI⟩:=h;refine dQ 124 (λ_ _=>by kernel_rfl) hM.h0 (EO _ _) (λW hW=>?_);have jq:=hM.ag hW;refine(bV jq.cells y hin).mono ?_;rintro e w' ⟨rfl,hC,hu⟩;exact⟨rfl,Goes.stay ⟨B,F1,Z,gr,st,rfl,rfl,cr,ptr,G,L,T,jq.cB hu hC (λy hy=>Α hy) rfl rfl,hI⟩ (hu.mono (λz hz=>B.zH hz))⟩
theorem IE:VI 122 "Len" 126:=by intro p c W h;unfold method;obtain⟨m,h1,h2,h3,h4⟩:=wC Tryz.t122.methods "Len" [⟨179,0,true⟩] 126 (by kernel_rfl);exact vZ
theorem Fw:VI 122 "Home" 124:=by intro p c W h;unfold method;obtain⟨m,h1,h2,h3,h4⟩:=wC Tryz.t122.methods "Home" [⟨179,0,true⟩] 124 (by kernel_rfl);exact vZ
theorem L9:MI 122 "Delete" 120:=λ_ _=>by kernel_rfl
theorem Tz:MI 122 "Meld" 128:=λ_ _=>by kernel_rfl
def Xu(d:Nat):jZ where
 toNestQ:=xL d
 delete:=λ{w p F A} y hin h=>by
  obtain⟨B,F1,Z,gr,st,rfl,rfl,hd,hL⟩:=h;refine aJ 120 (λ_ _=>by kernel_rfl) (L9 _) (λW hW=>?_);exact(zi (hL.ag hW) y hin).mono (λe w' h=>⟨h.1,VM.of hd h.2⟩)
 Ab:=λ{w p F A} a b hB h=>by
  obtain⟨B,F1,Z,gr,st,rfl,rfl,hd,hL⟩:=h;refine aJ 128 (λ_ _=>by kernel_rfl) (Tz _) (λW hW=>?_);exact(QI (hL.ag hW) a b hB).mono (λe w' h=>⟨h.1,VM.of hd h.2⟩)
 len:=λx hx h=>by
  obtain⟨B,F1,Z,gr,st,rfl,rfl,hd,cr,ptr,G,L,hM,hI⟩:=h;exact dQ 126 (λ_ _=>by kernel_rfl) hM.h0 (IE _ _) (λW hW=>iT (hM.ag hW).cells x hx)
 home:=λ{w p F A} y hin h=>by
  obtain⟨B,F1,Z,gr,st,rfl,rfl,hd,cr,ptr,G,L,hM,hI⟩:=h;refine dQ 124 (λ_ _=>by kernel_rfl) hM.h0 (Fw _ _) (λW hW=>?_);have jq:=hM.ag hW;refine(bV jq.cells y hin).mono ?_;rintro e w' ⟨rfl,hC,hu⟩;exact⟨rfl,Goes.stay ⟨B,F1,Z,gr,st,rfl,rfl,hd,cr,ptr,G,L,jq.cB hu hC (λy hy=>Α hy) rfl,hI⟩ (hu.mono (λz hz=>by simp only[DB.blk,ρ,τ];simp[hz]))⟩
theorem oD(kd d:Int)(n:Nat)(hc:sG kd d=0)(hn:n<=65536):∃K:jZ,o9 K.toNestQ kd d n:=by
 have h1:=EK hc
 by_cases hk:kd=1\/kd=2
 ·obtain⟨m,hm⟩:∃m:Nat,arity kd d=(m:Int):=by
   refine⟨(arity kd d).toNat,?_⟩;unfold arity;rcases hk with e|e
   ·rw[Δ e];rfl
   ·rw[Γ ω];have:=h1.2.2.1 e;omega
  exact⟨Xu m,JL kd d n m hc hk hm hn⟩
 ·have hd:d=0:=h1.2.2.2 ω;subst hd;have h7:kd=3\/kd=4\/kd=5\/kd=6\/kd=7\/kd=8:=ω;rcases h7 with rfl|rfl|rfl|rfl|rfl|rfl
  ·exact⟨Xb,Jf n hn⟩
  ·exact⟨Wh,Im n hn⟩
  ·exact⟨VQ,GM n hn⟩
  ·exact⟨Wj,Jc n hn⟩
  ·exact⟨VW,Il n hn⟩
  ·exact⟨V3,Jb n hn⟩
end Go.Proofs.YtnpdakpagnpanaaGreat
