/-
  Lemmas.
-/
import Derived.Deep.Slices
import Derived.Deep.Strs
import Derived.Lib.SmallJoins
import Derived.Test.YtnpdakpagnpanaaGreatE06
import Derived.Test.YtnpdakpagnpanaaGreatE08
import Derived.Test.YtnpdakpagnpanaaGreatE11
import Derived.Test.YtnpdakpagnpanaaGreatE14
import Derived.Test.YtnpdakpagnpanaaGreatE17
import Derived.Test.YtnpdakpagnpanaaGreatE19
set_option linter.all false
set_option maxHeartbeats 8000000
set_option maxRecDepth 10000
namespace Go.Proofs.YtnpdakpagnpanaaGreat
open Tryz
open Go Go.RowKit
def MK(kd d:Int)(n:Nat)(b:xe kd d=0)(i:kd≠8)(a:n<=65536):∃K:NestQ,qG K kd d n:=by
 have e:=Hw b
 by_cases h:kd=1\/kd=2
 .obtain⟨m,c⟩:∃m:Nat,arity kd d=(m:Int):=by
   refine⟨(arity kd d).toNat,?_⟩;unfold arity
   grind
  exact⟨_,Jf kd d n m b h c a⟩
 .have f:d=0:=e.2.2.2 ω;subst f;have g:kd=3\/kd=4\/kd=5\/kd=6\/kd=7:=ω;rcases g with rfl|rfl|rfl|rfl|rfl
  .exact⟨_,Iq n a⟩
  .exact⟨_,Kj n a⟩
  .exact⟨_,Jl n a⟩
  .exact⟨_,Kc n a⟩
  .exact⟨_,Jy n a⟩
def JS:VI 130 "Len" 126:=by intro p c W h;unfold method;obtain⟨m,h1,h2,h3,h4⟩:=xA Tryz.t130.methods "Len" [⟨188,0,true⟩] 126 (by kernel_rfl);exact xD
def FX:VI 130 "Home" 124:=by intro p c W h;unfold method;obtain⟨m,h1,h2,h3,h4⟩:=xA Tryz.t130.methods "Home" [⟨188,0,true⟩] 124 (by kernel_rfl);exact xD
def Mi:MI 130 "Delete" 198:=λ_ _=>by kernel_rfl
def VU:MI 130 "Meld" 202:=λ_ _=>by kernel_rfl
def Ze:mE where
 toNestQ:=yo
 delete:=λ{w p F A} y hin h=>by
  obtain⟨B,F1,gt,ct,st,tr,rfl,rfl,hL⟩:=h;refine aL 198 (λ_ _=>by kernel_rfl) (Mi _) (λW hW=>?_);have jT:=hL.ag hW;have hx:y∈(tr (A.c y).i.toNat).nodes:=by
   obtain⟨S,ai,hM,hI, -⟩:=jT;have:=(aj _ _).1 hin;exact(hI.mem _ y).2 ⟨ω,this.1,ω⟩
  refine(ED jT _ y hx).mono ?_;rintro e w' ⟨rfl,hu,st',JB,hL2⟩;exact⟨rfl,Goes.stay ⟨B,F1,gt,ct,_,_,rfl,rfl,hL2⟩ hu⟩
 CY:=λ{w p F A} a b hB h=>by
  obtain⟨B,F1,gt,ct,st,tr,rfl,rfl,hL⟩:=h;refine aL 202 (λ_ _=>by kernel_rfl) (VU _) (λW hW=>?_);refine(LY (hL.ag hW) a b hB).mono ?_;rintro e w' ⟨rfl,hu,st',hL2⟩;exact⟨rfl,Goes.stay ⟨B,F1,gt,ct,_,_,rfl,rfl,hL2⟩ hu⟩
 len:=λx hx h=>by
  obtain⟨B,F1,gt,ct,st,tr,rfl,rfl,S,ai,hM, -⟩:=h;exact dQ 126 (λ_ _=>by kernel_rfl) hM.h0 (JS _ _) (λW hW=>jf (hM.ag hW).cells x hx)
 home:=λ{w p F A} y hin h=>by
  obtain⟨B,F1,gt,ct,st,tr,rfl,rfl,S,ai,hM,hQ⟩:=h;refine dQ 124 (λ_ _=>by kernel_rfl) hM.h0 (FX _ _) (λW hW=>?_);have jI:=hM.ag hW;refine(bX jI.cells y hin).mono ?_;rintro e w' ⟨rfl,hC,hu⟩;exact⟨rfl,Goes.stay ⟨B,F1,gt,ct,st,tr,rfl,rfl,S,ai,jI.cK hu hC (λy hy=>Α hy) rfl rfl,hQ⟩ (hu.mono (λz hz=>by simp only[PB.blk,ρ];simp[hz]))⟩
def Kr:VI 138 "Len" 126:=by intro p c W h;unfold method;obtain⟨m,h1,h2,h3,h4⟩:=xA Tryz.t138.methods "Len" [⟨204,0,true⟩] 126 (by kernel_rfl);exact xD
def Ib:VI 138 "Home" 124:=by intro p c W h;unfold method;obtain⟨m,h1,h2,h3,h4⟩:=xA Tryz.t138.methods "Home" [⟨204,0,true⟩] 124 (by kernel_rfl);exact xD
def NQ:MI 138 "Delete" 228:=λ_ _=>by kernel_rfl
def Wp:MI 138 "Meld" 232:=λ_ _=>by kernel_rfl
def Yz:mE where
 toNestQ:=yl
 delete:=λ{w p F A} y hin h=>by
  obtain⟨B,F1,gt,ct,st,tr,rfl,rfl,hL⟩:=h;refine aL 228 (λ_ _=>by kernel_rfl) (NQ _) (λW hW=>?_);have jT:=hL.ag hW;have hx:y∈(tr (A.c y).i.toNat).nodes:=by
   obtain⟨S,rk,ai,hM,hI, -⟩:=jT;have:=(aj _ _).1 hin;exact(hI.mem _ y).2 ⟨ω,this.1,ω⟩
  refine(Ag jT _ y hx).mono ?_;rintro e w' ⟨rfl,hu,hL2⟩;exact⟨rfl,Goes.stay ⟨B,F1,gt,ct,_,_,rfl,rfl,hL2⟩ hu⟩
 CY:=λ{w p F A} a b hB h=>by
  obtain⟨B,F1,gt,ct,st,tr,rfl,rfl,hL⟩:=h;refine aL 232 (λ_ _=>by kernel_rfl) (Wp _) (λW hW=>?_);refine(Pv (hL.ag hW) a b hB).mono ?_;rintro e w' ⟨rfl,hu,hL2⟩;exact⟨rfl,Goes.stay ⟨B,F1,gt,ct,_,_,rfl,rfl,hL2⟩ hu⟩
 len:=λx hx h=>by
  obtain⟨B,F1,gt,ct,st,tr,rfl,rfl,S,rk,ai,hM, -⟩:=h;exact dQ 126 (λ_ _=>by kernel_rfl) hM.h0 (Kr _ _) (λW hW=>jf (hM.ag hW).cells x hx)
 home:=λ{w p F A} y hin h=>by
  obtain⟨B,F1,gt,ct,st,tr,rfl,rfl,S,rk,ai,hM,hQ⟩:=h;refine dQ 124 (λ_ _=>by kernel_rfl) hM.h0 (Ib _ _) (λW hW=>?_);have jI:=hM.ag hW;refine(bX jI.cells y hin).mono ?_;rintro e w' ⟨rfl,hC,hu⟩;exact⟨rfl,Goes.stay ⟨B,F1,gt,ct,st,tr,rfl,rfl,S,rk,ai,jI.cK hu hC (λy hy=>Α hy) rfl rfl,hQ⟩ (hu.mono (λz hz=>by simp only[LB.blk,ρ];simp[hz]))⟩
def Jk:VI 142 "Len" 126:=by intro p c W h;unfold method;obtain⟨m,h1,h2,h3,h4⟩:=xA Tryz.t142.methods "Len" [⟨207,0,true⟩] 126 (by kernel_rfl);exact xD
def GG:VI 142 "Home" 124:=by intro p c W h;unfold method;obtain⟨m,h1,h2,h3,h4⟩:=xA Tryz.t142.methods "Home" [⟨207,0,true⟩] 124 (by kernel_rfl);exact xD
def Mg:MI 142 "Delete" 251:=λ_ _=>by kernel_rfl
def TM:MI 142 "Meld" 254:=λ_ _=>by kernel_rfl
def Ym:mE where
 toNestQ:=x8
 delete:=λ{w p F A} y hin h=>by
  obtain⟨B,F1,st,tr,rfl,rfl,hL⟩:=h;refine aL 251 (λ_ _=>by kernel_rfl) (Mg _) (λW hW=>?_);have jT:=hL.ag hW;have hx:y∈(tr (A.c y).i.toNat).nodes:=by
   obtain⟨S,hM,hI⟩:=jT;have:=(aj _ _).1 hin;exact(hI.mem _ y).2 ⟨ω,this.1,ω⟩
  refine(Ae jT _ y hx).mono ?_;rintro e w' ⟨rfl,hu,hL2⟩;exact⟨rfl,Goes.stay ⟨B,F1,_,_,rfl,rfl,hL2⟩ hu⟩
 CY:=λ{w p F A} a b hB h=>by
  obtain⟨B,F1,st,tr,rfl,rfl,hL⟩:=h;refine aL 254 (λ_ _=>by kernel_rfl) (TM _) (λW hW=>?_);refine(SF (hL.ag hW) a b hB).mono ?_;rintro e w' ⟨rfl,hu,hL2⟩;exact⟨rfl,Goes.stay ⟨B,F1,_,_,rfl,rfl,hL2⟩ hu⟩
 len:=λx hx h=>by
  obtain⟨B,F1,st,tr,rfl,rfl,S,hM, -⟩:=h;exact dQ 126 (λ_ _=>by kernel_rfl) hM.h0 (Jk _ _) (λW hW=>jf (hM.ag hW).cells x hx)
 home:=λ{w p F A} y hin h=>by
  obtain⟨B,F1,st,tr,rfl,rfl,S,hM,hQ⟩:=h;refine dQ 124 (λ_ _=>by kernel_rfl) hM.h0 (GG _ _) (λW hW=>?_);have jI:=hM.ag hW;refine(bX jI.cells y hin).mono ?_;rintro e w' ⟨rfl,hC,hu⟩;exact⟨rfl,Goes.stay ⟨B,F1,st,tr,rfl,rfl,S,jI.cK hu hC (λy hy=>Α hy) rfl,hQ⟩ (hu.mono (λz hz=>by simp only[SB.blk,ρ];simp[hz]))⟩
def JZ:VI 126 "Len" 126:=by intro p c W h;unfold method;obtain⟨m,h1,h2,h3,h4⟩:=xA Tryz.t126.methods "Len" [⟨185,0,true⟩] 126 (by kernel_rfl);exact xD
def GJ:VI 126 "Home" 124:=by intro p c W h;unfold method;obtain⟨m,h1,h2,h3,h4⟩:=xA Tryz.t126.methods "Home" [⟨185,0,true⟩] 124 (by kernel_rfl);exact xD
def Ll:MI 126 "Delete" 166:=λ_ _=>by kernel_rfl
def Vz:MI 126 "Meld" 170:=λ_ _=>by kernel_rfl
noncomputable def Ye:mE where
 toNestQ:=yz
 delete:=λ{w p F A} y hin h=>by
  obtain⟨st,G,hL⟩:=h;refine aL 166 (λ_ _=>by kernel_rfl) (Ll _) (λW hW=>?_);refine(VS (uN hL hW σ) y hin).mono ?_;rintro e w' ⟨rfl,F',hL2,hu,hf⟩;exact⟨rfl,F',⟨_,_,hL2⟩,hu,hf⟩
 CY:=λ{w p F A} a b hB h=>by
  obtain⟨st,G,hL⟩:=h;refine aL 170 (λ_ _=>by kernel_rfl) (Vz _) (λW hW=>?_);refine(RX (uN hL hW σ) a b hB).mono ?_;rintro e w' ⟨rfl,F',hL2,hu,hf⟩;exact⟨rfl,F',⟨_,_,hL2⟩,hu,hf⟩
 len:=λx hx h=>by
  obtain⟨st,G,hL⟩:=h;obtain⟨c,F1,h0,hC⟩:=O4 hL;exact dQ 126 (λ_ _=>by kernel_rfl) h0 (JZ _ _) (λW hW=>jf (hC.ag hW) x hx)
 home:=λ{w p F A} y hin h=>by
  obtain⟨st,G,⟨B,F1,gr,cr,lo,S1,vs,rfl,rfl,M,eF⟩,I⟩:=h;refine dQ 124 (λ_ _=>by kernel_rfl) M.h0 (GJ _ _) (λW hW=>?_);have jI:=M.ag hW;refine(bX jI.cells y hin).mono ?_;rintro e w' ⟨rfl,hC,hu⟩;exact⟨rfl,Goes.stay ⟨st,G,⟨B,F1,gr,cr,lo,S1,vs,rfl,rfl,jI.cK hu hC (λy hy=>Α hy) rfl rfl,eF⟩,I⟩ (hu.mono uQ)⟩
def I5:VI 134 "Len" 126:=by intro p c W h;unfold method;obtain⟨m,h1,h2,h3,h4⟩:=xA Tryz.t134.methods "Len" [⟨196,0,true⟩] 126 (by kernel_rfl);exact xD
def Gs:VI 134 "Home" 124:=by intro p c W h;unfold method;obtain⟨m,h1,h2,h3,h4⟩:=xA Tryz.t134.methods "Home" [⟨196,0,true⟩] 124 (by kernel_rfl);exact xD
def Mo:MI 134 "Delete" 209:=λ_ _=>by kernel_rfl
def W9:MI 134 "Meld" 213:=λ_ _=>by kernel_rfl
noncomputable def YQ:mE where
 toNestQ:=xW
 delete:=λ{w p F A} y hin h=>by
  obtain⟨st,G,hL⟩:=h;refine aL 209 (λ_ _=>by kernel_rfl) (Mo _) (λW hW=>?_);refine(Ui (hL.ag hW) y hin).mono ?_;rintro e w' ⟨rfl,F',hL2,hu,hf⟩;exact⟨rfl,F',⟨_,_,hL2⟩,hu,hf⟩
 CY:=λ{w p F A} a b hB h=>by
  obtain⟨st,G,hL⟩:=h;refine aL 213 (λ_ _=>by kernel_rfl) (W9 _) (λW hW=>?_);refine(Sq (hL.ag hW) a b hB).mono ?_;rintro e w' ⟨rfl,F',hL2,hu,hf⟩;exact⟨rfl,F',⟨_,_,hL2⟩,hu,hf⟩
 len:=λx hx h=>by
  obtain⟨st,G,hL⟩:=h;obtain⟨c,F1,h0,hC⟩:=OV hL;exact dQ 126 (λ_ _=>by kernel_rfl) h0 (I5 _ _) (λW hW=>jf (hC.ag hW) x hx)
 home:=λ{w p F A} y hin h=>by
  obtain⟨st,G,⟨B,F1,gt,ct,rfl,rfl,M⟩,I⟩:=h;refine dQ 124 (λ_ _=>by kernel_rfl) M.h0 (Gs _ _) (λW hW=>?_);have jI:=M.ag hW;refine(bX jI.cells y hin).mono ?_;rintro e w' ⟨rfl,hC,hu⟩;exact⟨rfl,Goes.stay ⟨st,G,⟨B,F1,gt,ct,rfl,rfl,jI.cK hu hC (λy hy=>Α hy) rfl rfl⟩,I⟩ (hu.mono gW)⟩
abbrev Hd:=Int×Int
def Mf:(prog.info? 46).map (λi=>(i.zero,i.size,i.bytes))=some (some (.agg #[(0:Int),.int .u32 0]),2,16):=by kernel_rfl
def uf:List Hd->List Value
 | []=>[]
 |p::l=>.int .i64 p.1::.int .u32 p.2::uf l
def Po:∀l:List Hd,(uf l).length=l.length*2
 | []=>rfl
 |p::l=>by simp[uf,Po l];omega
def Gx:∀(l m:List Hd),uf (l++m)=uf l++uf m
 | [],_=>rfl
 |p::l,m=>by simp[uf,Gx l m]
def AP:∀(l:List Hd) (u:Value),u∈uf l->u.oneCell'=true
 | [],u,h=>by cases h
 |p::l,u,h=>by
  simp only[uf,ρ] at h;rcases h with rfl|rfl|h
  .rfl
  .rfl
  .exact AP l u h
def G6:∀(l:List Hd) (j:Nat) (p:Hd),l[j]?=some p->(uf l)[j*2]?=some (.int .i64 p.1)/\(uf l)[j*2+1]?=some (.int .u32 p.2)
 | [],j,e,h=>by simp at h
 |x::l,0,e,h=>by
  simp at h;subst h;exact⟨rfl,rfl⟩
 |x::l,j+1,e,h=>by
  have h':=G6 l j e (by simpa using h);rw[show(j+1)*2=j*2+1+1 by omega];exact h'
def kY(w:World)(F:List Nat)(v:Value)(l:List Hd):Prop:=
 ∃a cap,v=.slice a l.length cap/\l.length<=cap/\cap<=9223372036854775807/\∀(j:Nat) (p:Hd),l[j]?=some p->∃g off,a=some ⟨g,off,none⟩/\g<w.heap.size/\g∉F/\w.cell? ⟨g,off+j*2,none⟩=some (p.1:V)/\w.cell? ⟨g,off+j*2+1,none⟩=some (.int .u32 p.2)
def kY.fresh{w w':World}{F F':List Nat}{v:Value}{l:List Hd}(h:kY w F v l)(b:ae F w w')(r:∀g,g∈F'->g∈F\/w.heap.size<=g):kY w' F' v l:=by
 obtain⟨a,cap,rfl,d,f,i⟩:=h;refine⟨a,cap,rfl,d,f,λj p o=>?_⟩;obtain⟨g,off,e,k,c,m,n⟩:=i j p o;exact⟨g,off,e,Ψ k b.size,λq=>by grind,b.kept m c,b.kept n c⟩
def kY.ag{w w':World}{F:List Nat}{v:Value}{l:List Hd}(h:kY w F v l)(b:ae [] w w'):kY w' F v l:=h.fresh (b.mono σ) (λg a=>Α a)
def kY.jd{w:World}{base:Nat}{v:Value}{l:List Hd}{F:List Nat}(h:w.ownsRow base 46 2 v l.length (uf l))(d:∀k,v.ownBlock=some k->k∉F):kY w F v l:=by
 rcases h.2 with⟨rfl,h0⟩|⟨g,cap,cur,rfl,hb,hg,hnc,hc,_⟩
 .refine⟨none,0,by rw[h0],ω,ω,λj p a=>?_⟩;have b:=(List.getElem?_eq_some_iff.1 a).1;omega
 .have c:=(h.lt g rfl).2;unfold maxLen at hc;refine⟨_,cap,rfl,hnc,ω,λj p a=>⟨g,0,rfl,c,d g rfl,?_,?_⟩⟩
  .have b:=(List.getElem?_eq_some_iff.1 a).1;rw[ϓ,h.cellAt (j*2) ω];exact(G6 l j p a).1
  .have b:=(List.getElem?_eq_some_iff.1 a).1;rw[ϓ,h.cellAt (j*2+1) ω];exact(G6 l j p a).2
def kY.nil(w:World)(F:List Nat):kY w F (.slice none 0 0) []:=⟨none,0,rfl,σ,ω,λj p a=>by simp at a⟩
def FZ{d:Array Oper}{rest:List Oper}{o:Oper}{a:Act}{w:World}{Q:Exit->Act->World->Prop}(i:o.guard=none)(s x:Operand)
  (q:o.op=.call { callee:=.builtin .append,args:=#[s,x],argTypes:=#[30,30] })
  (base:Nat) (v:Value) (n:Nat) (l:List Hd) (hs:a.eval s=v) (e:w.ownsRow base 46 2 v n (uf l))
  (f:Nat) (p:Hd) (r:a.eval x=.slice (some f) 1 1) (t:w.cell? f=some (p.1:V)) (g:w.cell? ⟨f,1,none⟩=some (.int .u32 p.2)) (y:n<=1000000) (c:base<=w.heap.size)
  (h:∀v' w',w'.ownsRow base 46 2 v' (n+1) (uf (l++[p]))->ae v.ownBlock.toList w w'->(v'.ownBlock=v.ownBlock\/v'.ownBlock=some w.heap.size)->wpList prog d Q rest (a.put o.dst v') w'):
  wpList prog d Q (o::rest) a w:=
 rC i s x 30 q base 46 (.agg #[(0:Int),.int .u32 0]) 2 16 underlying30 Mf rfl δ v n (uf l) hs e f (uf [p]) r rfl
  (λj u b=>by match j,b with|0,b=>(simp[uf] at b;subst b;exact t)|1,b=>(simp[uf] at b;subst b;exact g)) (AP _) μ ω c (λv' w' g k m=>h v' w' (by rw[Gx];exact g) k m)
def De{g:Array Oper}{o:Oper}{a:Act}{w:World}{K:Act->World->Prop}{Q:Exit->Act->World->Prop}{G:Prop}(i:o.guard=none)(s x:Operand)
  (q:o.op=.call { callee:=.builtin .append,args:=#[s,x],argTypes:=#[30,30] })
  (base:Nat) (v:Value) (n:Nat) (l:List Hd) (hs:a.eval s=v) (d:w.ownsRow base 46 2 v n (uf l))
  (e:Nat) (p:Hd) (r:a.eval x=.slice (some e) 1 1) (t:w.cell? e=some (p.1:V)) (f:w.cell? ⟨e,1,none⟩=some (.int .u32 p.2)) (y:n<=1000000) (c:base<=w.heap.size)
  (h:∀v' w',w'.ownsRow base 46 2 v' (n+1) (uf (l++[p]))->ae v.ownBlock.toList w w'->(v'.ownBlock=v.ownBlock\/v'.ownBlock=some w.heap.size)->K (a.put o.dst v') w'):
  if Region.wanted o (yielded g a.tmps)=true then Oper.wp prog o a w K Q else G:=
 kX i s x 30 q base 46 (.agg #[(0:Int),.int .u32 0]) 2 16 underlying30 Mf rfl δ v n (uf l) hs d e (uf [p]) r rfl
  (λj u b=>by match j,b with|0,b=>(simp[uf] at b;subst b;exact t)|1,b=>(simp[uf] at b;subst b;exact f)) (AP _) μ ω c (λv' w' f k m=>h v' w' (by rw[Gx];exact f) k m)
def lastT(T:List Hd)(s:Int):Int:=T.foldl (λg p=>if p.1=s then p.2 else g) 0
def zT(T:List Hd)(p:Hd)(s:Int):lastT (T++[p]) s=if p.1=s then p.2 else lastT T s:=by unfold lastT;rw[List.foldl_append];rfl
def jo(T:List Hd):Nat:=(T.filter (λp=>decide (p.2=1))).length
def CL(T:List Hd)(p:Hd):jo (T++[p])=jo T+if p.2=1 then 1 else 0:=by
 unfold jo
 grind
def okW(T:List Hd)(most:Int)(p:Hd):Bool:=decide (p.2<most) && decide (lastT T p.1=p.2)
def qW(T G:List Hd)(most:Int):List Int:=((G.filter (okW T most)).map (·.1)).reverse
def CG(T G:List Hd)(p:Hd):Bool:=decide (p∈T) && !decide (p∈G)
def atT(T G:List Hd)(s:Int):Option Hd:=T.find? (λp=>decide (p.1=s) && !decide (p∈G))
def si(T G:List Hd)(cap:Nat)(most:Int):Option Hd:=match(qW T G most).head? with|some s=>some (s,lastT T s+1)|none=>if cap<=jo T then none else some ((jo T:Int),1)
structure RA(R:AR)(T G:List Hd):Prop where
 t:∀p,p∈T↔∃x g:Nat,p=((x:Int),(g:Int))/\1<=g/\g<=R.g x
 g:∀p,p∈G↔∃x g:Nat,p=((x:Int),(g:Int))/\1<=g/\g<=R.g x/\¬(R.v x=true/\R.g x=g)
 la:∀x:Nat,lastT T x=R.g x
 fr:jo T=R.next
 nx:∀x,x<R.next->1<=R.g x
 wt:(G.filter (okW T R.most)).map (·.1)=R.wait.map (λx:Nat=>(x:Int))
 cnt:T.length=G.length+R.cnt
def abh(n m:Nat):RA (AR.new n m) [] []:=by
 have e:∀x,(AR.new n m).g x=0:=λx=>by
  unfold AR.new AR.g
  grind
 refine⟨λp=>⟨λh=>(by cases h),?_⟩,λp=>⟨λh=>(by cases h),?_⟩,λx=>by rw[e];rfl,rfl,λx h=>absurd h (Nat.not_lt_zero _),rfl,by rw[AR.Pk];rfl⟩
 .grind
 .grind
section
variable{R:AR}{T G:List Hd}
def RA.live(h:RA R T G)(c:R.Ok)(x g:Int):CG T G (x,g)=gL R x g:=by
 have e:CG T G (x,g)=true↔gL R x g=true:=by
  unfold CG;rw[Τ,Ο,Bool.not_eq_true',decide_eq_false_iff_not,h.t,h.g];constructor
  .rintro⟨⟨y,k,e,d,f⟩,i⟩;cases e;refine(VD _ _ _).2 ?_
   grind
  .intro a;obtain⟨y,rfl,rfl,b⟩:=nA a;refine⟨⟨y,R.g y,rfl,c.lv y b,Θ _⟩,?_⟩
   grind
 grind
def RA.at(h:RA R T G)(j:R.Ok)(x:Nat)(l:R.v x=true):atT T G (x:Int)=some ((x:Int),(R.g x:Int)):=by
 have m:((x:Int),(R.g x:Int))∈T/\((x:Int),(R.g x:Int))∉G:=by
  have:=h.live j (x:Int) (R.g x:Int);rw[yK l] at this;unfold CG at this;simpa using this
 unfold atT;cases b:T.find? (λp=>decide (p.1=(x:Int)) && !decide (p∈G)) with
 |none=>
  grind
 |some p=>
  have a:=List.find?_some b;have f:=List.mem_of_find?_eq_some b;simp only[Τ,Ο,Bool.not_eq_true',decide_eq_false_iff_not] at a;obtain⟨y,k,rfl,c,d⟩:=(h.t p).1 f;have g:y=x:=by grind
  subst g
  by_cases e:R.g y=k
  .rw[e]
  .exact absurd ((h.g _).2 ⟨y,k,rfl,c,d,λi=>e i.2⟩) a.2
def RA.si(h:RA R T G)(c:R.Ok):si T G R.sl.length R.most=(jF R).map (λy=>((y.1:Int),(R.g y.1:Int)+1)):=by
 have d:qW T G R.most=(R.wait.map (λx:Nat=>(x:Int))).reverse:=by unfold qW;rw[h.wt]
 unfold Go.Proofs.YtnpdakpagnpanaaGreat.si jF qm;rw[d,h.fr];cases b:R.wait.getLast? with
 |some x=>
  obtain⟨l,a⟩:=List.getLast?_eq_some_iff.1 b;rw[a];simp[h.la]
 |none=>
  have f:R.wait=[]:=List.getLast?_eq_none_iff.1 b;rw[f];simp only[List.map_nil,List.reverse_nil,List.head?_nil];have g:=c.nx
  by_cases e:R.next=R.sl.length
  .grind
  .rw[Γ ω,Γ e];have:=(c.fresh R.next (Θ _)).1;simp[this]
def Dv(l:List Nat)(x:Nat)(a:x∉l):(l.map (λy:Nat=>(y:Int))).filter (λy=>!decide (y=(x:Int)))=l.map (λy:Nat=>(y:Int)):=by
 rw[List.filter_eq_self]
 grind
def QY{x:Nat}{R':AR}(e:R.Ok)(a:jF R=some (x,R')):(R.wait=R'.wait++[x]/\R'.next=R.next/\x<R.next)\/(R.wait=[]/\R'.wait=[]/\x=R.next/\R'.next=R.next+1):=by
 unfold jF qm at a;cases b:R.wait.getLast? with
 |some y=>
  obtain⟨l,c⟩:=List.getLast?_eq_some_iff.1 b;rw[b] at a;simp only[ϛ,ϖ,Prod.mk.injEq] at a;obtain⟨rfl,rfl⟩:=a;refine Α ⟨?_,rfl,(e.wt y (by grind)).1⟩
  show R.wait=R.wait.dropLast++[y]
  rw[c];simp
 |none=>
  have d:R.wait=[]:=List.getLast?_eq_none_iff.1 b;rw[b] at a;dsimp only at a
  split at a
  .simp at a
  .simp only[ϛ,ϖ,Prod.mk.injEq] at a;obtain⟨rfl,rfl⟩:=a;exact Β ⟨d,d,rfl,rfl⟩
def RA.take(h:RA R T G)(f:R.Ok){x:Nat}{R':AR}(j:jF R=some (x,R')):RA R' (T++[((x:Int),(R.g x:Int)+1)]) G:=by
 have k:=qw f j;have d:=λy=>aaV f j y;have n:=λy=>VQ f j y;have l:=QY f j;have r:R.v x=false:=k.2.2.1;have o:=h.cnt;refine⟨λp=>⟨λhp=>?_,?_⟩,λp=>⟨λhp=>?_,?_⟩,λy=>?_,?_,λy w=>?_,?_,?_⟩
 .rcases τ.1 hp with hp|hp
  .obtain⟨y,g,rfl,c,a⟩:=(h.t p).1 hp;refine⟨y,g,rfl,c,?_⟩;rw[d]
   grind
  .simp at hp;subst hp;exact⟨x,R.g x+1,σ,ω,by grind⟩
 .rintro⟨y,g,rfl,c,a⟩;rw[d] at a
  by_cases e:y=x
  .subst e;rw[Δ rfl] at a
   by_cases i:g<=R.g y
   .exact τ.2 (Α ((h.t _).2 ⟨y,g,rfl,c,i⟩))
   .have:g=R.g y+1:=ω;subst this
    grind
  .rw[Γ e] at a;exact τ.2 (Α ((h.t _).2 ⟨y,g,rfl,c,a⟩))
 .obtain⟨y,g,rfl,c,a,b⟩:=(h.g p).1 hp;refine⟨y,g,rfl,c,?_,?_⟩
  .rw[d]
   grind
  .rw[d,n]
   grind
 .rintro⟨y,g,rfl,c,a,b⟩;rw[d] at a b;rw[n] at b
  by_cases e:y=x
  .subst e;rw[Δ rfl] at a b;have s:¬R.g y+1=g:=λe=>b ⟨σ,e⟩;exact(h.g _).2 ⟨y,g,rfl,c,ω,λq=>by grind⟩
  .rw[Γ e] at a b;refine(h.g _).2 ⟨y,g,rfl,c,a,λq=>b ⟨by grind,q.2⟩⟩
 .rw[zT,d,h.la]
  grind
 .rw[CL,h.fr];rcases l with⟨_,a,b⟩|⟨_,_,b,h4⟩
  .have:=h.nx x b
   grind
  .have:=(f.fresh x ω).1
   grind
 .rw[d]
  split
  .omega
  .rename_i e
   rcases l with⟨_,a,b⟩|⟨_,_,b,h4⟩
   .exact h.nx y ω
   .exact h.nx y ω
 .have t:R'.most=R.most:=k.2.2.2.2.2.1;rw[t];have u:G.filter (okW (T++[((x:Int),(R.g x:Int)+1)]) R.most)=(G.filter (okW T R.most)).filter (λp=>!decide (p.1=(x:Int))):=by
   rw[List.filter_filter];refine List.filter_congr λp hp=>?_;obtain⟨y,g,rfl,c,a,b⟩:=(h.g p).1 hp;unfold okW;rw[zT];dsimp only
   by_cases e:y=x
   .subst e;rw[Δ rfl];have:decide ((R.g y:Int)+1=(g:Int))=false:=ζ;rw[this];simp
   .have i:decide ((y:Int)=(x:Int))=false:=ζ;rw[Γ ω,i];simp
  rw[u];have i:((G.filter (okW T R.most)).filter (λp=>!decide (p.1=(x:Int)))).map (·.1)=((G.filter (okW T R.most)).map (·.1)).filter (λy=>!decide (y=(x:Int))):=by
   rw[List.filter_map];rfl
  rw[i,h.wt];rcases l with⟨a,_,_⟩|⟨a,b,_,_⟩
  .have m:=f.nd;rw[a] at m ⊢;rw[θ] at m;rw[List.map_append,List.filter_append,Dv _ _ (λv=>m.2.2 x v x σ rfl)];simp
  .rw[a,b];rfl
 .have:=k.2.2.2.2.2.2;simp;omega
def RA.give(h:RA R T G)(k:R.Ok){x:Nat}(f:R.v x=true):RA (iB R x) T (G++[((x:Int),(R.g x:Int))]):=by
 have a:=λy=>abn (R:=R) x y;have d:=λy=>Tt f y;have n:=Gn k f;have o:=k.lv x f;have j:=h.cnt;refine⟨λp=>by rw[h.t];simp only[a],λp=>⟨λhp=>?_,?_⟩,λy=>by rw[a,h.la],h.fr,λy m=>by rw[a];exact h.nx y m,?_,?_⟩
 .rcases τ.1 hp with hp|hp
  .obtain⟨y,g,rfl,i,b,c⟩:=(h.g p).1 hp
   grind
  .grind
 .rintro⟨y,g,rfl,i,b,c⟩;rw[a] at b c;rw[d] at c
  by_cases e:y=x/\g=R.g y
  .grind
  .refine τ.2 (Α ((h.g _).2 ⟨y,g,rfl,i,b,λr=>?_⟩))
   by_cases s:y=x
   .grind
   .grind
 .have l:(iB R x).most=R.most:=rfl;rw[l,List.filter_append,List.map_append,h.wt]
  show _=(if R.g x<R.most then R.wait++[x] else R.wait).map _
  have q:okW T R.most ((x:Int),(R.g x:Int))=decide (R.g x<R.most):=by
   unfold okW;dsimp only;rw[h.la];simp
  grind
 .grind
end
def gQ.add{w:World}{F:List Nat}{a d f c g i:Nat}{A:NS}(h:gQ w F a d f c g i A){b:Nat}(j:a≠b)(k:c≠b):gQ w (b::F) a d f c g i A:=
 ⟨h.hcap,h.Hf,h.lt,⟨λm=>by rcases ρ.1 m with e|e;exact j e;exact h.far.1 e,λm=>by rcases ρ.1 m with e|e;exact k e;exact h.far.2 e⟩,h.h,h.c0,h.c1,h.c2⟩
def gQ.less{w:World}{F G:List Nat}{a b c d e f:Nat}{A:NS}(h:gQ w F a b c d e f A)(g:∀x,x∈G->x∈F):gQ w G a b c d e f A:=
 ⟨h.hcap,h.Hf,h.lt,⟨λm=>h.far.1 (g _ m),λm=>h.far.2 (g _ m)⟩,h.h,h.c0,h.c1,h.c2⟩
def gQ.stored{w:World}{F:List Nat}{a c d e f g b:Nat}{A:NS}(h:gQ w (b::F) a c d e f g A)(j k:Value):gQ ((w.setCell b j).setCell ⟨b,1,none⟩ k) F a c d e f g A:=
 (h.upd (((ae.refl (b::F) w).setCell (Α σ) _).setCell (Α σ) _)).less (λx i=>Λ _ i)
section
variable{w:World}{F:List Nat}{v:Value}{A:NS}
def Xx(h:gM w F v A)(C:A.Ok)(hF:∀x,x∈F->x<w.heap.size)(c x k s:Int):
  Calls prog 77 #[v,c,x,.agg #[k,.int .u64 s]] w λe w'=>∃v',e=.returned (.tuple #[v',.bool (oF A c x)])/\gM w' F v' (aN A c x k s)/\ae [] w w':=by
 obtain⟨g,j,l,o,p,q,rfl,h⟩:=h;have u:=λW (r:ae [] w W)=>lK ⟨g,j,l,o,p,q,rfl,h.ag r⟩ C c;have B:=λW (r:ae [] w W)=>vJ ⟨g,j,l,o,p,q,rfl,h.ag r⟩ C x;have hlc:=h.lt;have Y:=λW (r:ae [] w W) (hs:w.heap.size+1+1<W.heap.size) (i:Nat) (hi:i<A.cs.length)=>zZ (F:=(w.heap.size+1+1)::F) ⟨g,j,l,o,p,q,rfl,(h.ag r).add ω ω⟩ C (λy hy=>by rcases ρ.1 hy with rfl|hy;exact hs;exact Ψ (hF y hy) r.size) i hi ⟨c,k,s⟩;have Z:=h.hcap;have h4:=C.c1;have H:=χ h
 have z:Hid (oF A c x=false->∀W,ae [] w W->gM W F (ic g j l o p q A) (aN A c x k s)):=λhp W r=>by
  unfold aN;rw[Γ (by rw[hp];simp)];exact⟨g,j,l,o,p,q,rfl,H.out.ag r⟩
 unfold ic at *;generalize hn:A.cs.length=n at *;generalize hm:A.hs.length=m at *
 have R:Hid (∀W,ae [] (((w.alloc (.cells #[.slice (some ⟨g,j,none⟩) m l,.slice (some ⟨o,p,none⟩) n q] 36)).alloc (.cells #[k,.int .u64 s] 97)).alloc (.cells #[.slice none 0 0,.slice none 0 0] 36)) W->
   W.cell? w.heap.size=some (.slice (some ⟨g,j,none⟩) m l)/\W.cell? ⟨w.heap.size,1,none⟩=some (.slice (some ⟨o,p,none⟩) n q)/\W.cell? (w.heap.size+1:Nat)=some (k:V)/\W.cell? ⟨w.heap.size+1,1,none⟩=some (.int .u64 s)/\
   W.cell? (w.heap.size+1+1:Nat)=some (.slice none 0 0)/\W.cell? ⟨w.heap.size+1+1,1,none⟩=some (.slice none 0 0)/\W.frozen? (w.heap.size+1+1:Nat)=false/\W.frozen? ⟨w.heap.size+1+1,1,none⟩=false):=λW h=>
  ⟨h.was γ,h.was γ,h.was γ,h.was γ,h.was γ,h.was γ,h.ay (v:=.slice none 0 0) γ σ γ,h.ay (v:=.slice none 0 0) γ σ γ⟩
 by_cases hp:oF A c x=true
 .have O:=(fB _ _ _).1 hp;have M:=(il _ _).1 O.2.1;obtain⟨i,rfl⟩:∃i:Nat,x=i:=⟨x.toNat,ω⟩;have k4:=λW r hs=>Y W r hs i ω;have e:aN A c (i:Int) k s=gu A i ⟨c,k,s⟩:=by unfold aN;rw[Δ hp];simp
  rw[hp,e];rw[O.1] at u;rw[O.2.2] at B;have hi:i<n:=ω;clear h C Y z hp O e hn hm M
  go_enter func77,ntmps77
  go_wp2_with (first
   |(((with_reducible refine(u _ β).mono ?_));rintro e f ⟨rfl,a⟩;(have N:ae [] w f:=ae.trans β a);obtain⟨P,Q,S,T,K,L,U,X⟩:=R.out f a)
   |(((with_reducible refine(B _ η).mono ?_));rintro e D ⟨rfl,b⟩;(have v2:ae [] w D:=ae.trans N b);obtain⟨p0,p1,p2,p3,p4,p5,p6,p7⟩:=R.out D (a.trans b))
   | (((with_reducible refine (k4 _ η (by have:=a.size;have:=b.size;simp at *;omega)).mono ?_));rintro e w3 ⟨E,G,I,gc',MW,cc',rfl,hM,J⟩;obtain ⟨r0,r1,r2,r3,r4,r5,r6,r7⟩:=R.out w3 ((a.trans b).trans J)))
  exact bodyPost_ret (v:=.tuple #[.agg #[.slice (some ⟨E,G,none⟩) (gu A i ⟨c,k,s⟩).hs.length I,.slice (some ⟨gc',MW,none⟩) (gu A i ⟨c,k,s⟩).cs.length cc'],true]) (by simp[results,results77,go_sem,r4,r5]) rfl
   ⟨_,rfl,⟨E,G,I,gc',MW,cc',rfl,hM.stored _ _⟩,ae.setCell (ae.setCell (ae.trans (ae.trans (ae.trans β a) b) J) (Β ζ) _) (Β ζ) _⟩
 .have d:oF A c x=false:=by simpa using hp
  rw[d];have FI:=χ (z.out d);have hk:aW A c=false\/(aW A c=true/\(x<0\/n<=x))\/(aW A c=true/\0<=x/\x<n/\bY A x=true):=by
   unfold oF uZ at d;rw[hn] at d;cases t:aW A c
   .exact Α rfl
   .rw[t] at d
    by_cases h0:0<=x
    .by_cases Z:x<n
     .refine Β (Β ⟨rfl,h0,Z,?_⟩);simpa[h0,Z] using d
     .exact Β (Α ⟨rfl,Β ω⟩)
    .exact Β (Α ⟨rfl,Α ω⟩)
  clear h C Y z hp d hn hm;rcases hk with t|⟨t,M⟩|⟨t,hx1,hx2,e2⟩
  .rw[t] at u;clear t B
   go_enter func77,ntmps77
   go_wp2_with ((((with_reducible refine(u _ β).mono ?_));rintro e f ⟨rfl,a⟩;(have N:ae [] w f:=ae.trans β a);obtain⟨P,Q,S,T,K,L,U,X⟩:=R.out f a))
   exact bodyPost_ret (v:=.tuple #[.agg #[.slice (some ⟨g,j,none⟩) m l,.slice (some ⟨o,p,none⟩) n q],false]) (by simp[results,results77,go_sem,K,L]) rfl
    ⟨_,rfl,FI.out _ β,β⟩
  .rw[t] at u;clear t B;rcases M with M|M
   all_goals
    go_enter func77,ntmps77
    go_wp2_with ((((with_reducible refine(u _ β).mono ?_));rintro e f ⟨rfl,a⟩;(have N:ae [] w f:=ae.trans β a);obtain⟨P,Q,S,T,K,L,U,X⟩:=R.out f a))
    exact bodyPost_ret (v:=.tuple #[.agg #[.slice (some ⟨g,j,none⟩) m l,.slice (some ⟨o,p,none⟩) n q],false]) (by simp[results,results77,go_sem,K,L]) rfl
     ⟨_,rfl,FI.out _ β,β⟩
  .rw[t] at u;rw[e2] at B;clear t e2
   go_enter func77,ntmps77
   go_wp2_with (first
    |(((with_reducible refine(u _ β).mono ?_));rintro e f ⟨rfl,a⟩;(have N:ae [] w f:=ae.trans β a);obtain⟨P,Q,S,T,K,L,U,X⟩:=R.out f a)
    | (((with_reducible refine (B _ η).mono ?_));rintro e D ⟨rfl,b⟩;(have v2:ae [] w D:=ae.trans N b);obtain ⟨p0,p1,p2,p3,p4,p5,p6,p7⟩:=R.out D (a.trans b)))
   exact bodyPost_ret (v:=.tuple #[.agg #[.slice (some ⟨g,j,none⟩) m l,.slice (some ⟨o,p,none⟩) n q],false]) (by simp[results,results77,go_sem,p4,p5]) rfl
    ⟨_,rfl,FI.out _ β,β⟩
end
def WB(w:World)(b o:Nat)(a:Ac):Prop:=
 w.cell? ⟨b,o,none⟩=some (a.op:V)/\w.cell? ⟨b,o+1,none⟩=some (a.a:V)/\w.cell? ⟨b,o+2,none⟩=some (a.b:V)/\w.cell? ⟨b,o+3,none⟩=some (a.s:V)/\w.cell? ⟨b,o+4,none⟩=some (.int .u32 a.g)/\w.cell? ⟨b,o+5,none⟩=some (.int .u8 a.o)/\w.cell? ⟨b,o+6,none⟩=some (a.k:V)
def WB.kept{w w':World}{S:List Nat}{b o:Nat}{a:Ac}(h:WB w b o a)(c:ae S w w')(d:b∉S):WB w' b o a:=
 ⟨c.kept h.1 d,c.kept h.2.1 d,c.kept h.2.2.1 d,c.kept h.2.2.2.1 d,c.kept h.2.2.2.2.1 d,c.kept h.2.2.2.2.2.1 d,c.kept h.2.2.2.2.2.2 d⟩
def VL(w:World)(v:Value)(len:Nat)(f:Nat->Ac):Prop:=
 ∃a cap,v=.slice a len cap/\len<=maxLen/\(∀j,j<len->(f j).Ok)/\∀j,j<len->∃b off,a=some ⟨b,off,none⟩/\b<w.heap.size/\WB w b (off+j*7) (f j)
def Zh{n:Int}(h:(Lit.int .i64 n).wf=true):Xk n:=by
 unfold Xk;simp[Lit.wf,IntKind.min,IntKind.max,IntKind.signed,IntKind.bits] at h;omega
def u32q{n:Int}(h:(Lit.int .u32 n).wf=true):0<=n/\n<=4294967295:=by
 simp[Lit.wf,IntKind.min,IntKind.max,IntKind.signed,IntKind.bits] at h;omega
def u8q{n:Int}(h:(Lit.int .u8 n).wf=true):0<=n/\n<=255:=by
 simp[Lit.wf,IntKind.min,IntKind.max,IntKind.signed,IntKind.bits] at h;omega
set_option maxRecDepth 100000 in
open Go.ChangeShapes Go.ChangeAt Go.WideShapes in
def Du{H:Type}{enc:TypeId×Value->H}{W:World}{v:Value}{d:DataW H}{pl:List MemPlace}{base:Nat}{sp:Nat->Bool}
  (ho:Value.okWide prog W .any base 59 v) (h:DataW.Trod enc prog W 0 sp true 59 v d pl):∃g f,VL W v g f:=by
 obtain⟨a,g,cap,rfl⟩:=okWide_slice underlying59 ho;obtain⟨B,O⟩:=h;rcases Go.Deep.open_slice underlying59 O with⟨hcs,_⟩|⟨y,l,c,m,n,D,Pl,hcs,_,hl,hm,hmm,_,hx⟩
 .simp[Value.cells] at hcs;obtain⟨rfl,rfl,rfl⟩:=hcs;exact⟨0,λ_=>⟨0,0,0,0,0,0,0⟩,none,0,rfl,σ,λj t=>ω,λj h=>ω⟩
 .simp[Value.cells] at hcs;obtain⟨rfl,rfl,rfl⟩:=hcs;have hlm:g<=m:=by grind
  have z:prog.cellsOf 64=7:=by kernel_rfl
  rw[z] at hx;have A:∀i,∃q:Ac,i<g->q.Ok/\W.cell? (y.add (i*7))=some (.int .i64 q.op)/\W.cell? (y.add (i*7+1))=some (.int .i64 q.a)/\W.cell? (y.add (i*7+2))=some (.int .i64 q.b)/\W.cell? (y.add (i*7+3))=some (.int .i64 q.s)/\W.cell? (y.add (i*7+4))=some (.int .u32 q.g)/\W.cell? (y.add (i*7+5))=some (.int .u8 q.o)/\W.cell? (y.add (i*7+6))=some (.int .i64 q.k):=λi=>by
   by_cases hi:i<g
   .obtain⟨cs,P,Q⟩:=hx i ω;obtain⟨_,p,e⟩:=World.cells?_some P;obtain⟨xs,n',_,_,_,w,o⟩:=DataW.trod_struct underlying64 Q
    match cs,p with
    | [c0,c1,c2,c3,c4,c5,c6],_=>
     have f0:=o 0 _ rfl;have f1:=o 1 _ rfl;have f2:=o 2 _ rfl;have f3:=o 3 _ rfl;have f4:=o 4 _ rfl;have f5:=o 5 _ rfl
     match xs,w with
     | [x0,x1,x2,x3,x4,x5],_=>
      obtain⟨R,C,_,w0⟩:=DataW.trod_int underlying3 f0;obtain⟨S,E,_,T⟩:=DataW.trod_int underlying3 f1;obtain⟨U,F,_,X⟩:=DataW.trod_int underlying3 f2;obtain⟨ys,n2,_,_,_,x,r⟩:=DataW.trod_struct underlying46 f3;have f6:=r 0 _ rfl;have f7:=r 1 _ rfl
      match ys,x with
      | [y0,y1],_=>
       obtain⟨Y,G,_,Z⟩:=DataW.trod_int underlying3 f6;obtain⟨gg,I,_,w4⟩:=DataW.trod_int underlying24 f7;obtain⟨oo,J,_,w5⟩:=DataW.trod_int underlying5 f4;obtain⟨kk,K,_,w6⟩:=DataW.trod_int underlying2 f5;have g0:=e 0 ω;have g1:=e 1 ω;have g2:=e 2 ω;have g3:=e 3 ω;have L:=e 4 ω;have M:=e 5 ω;have N:=e 6 ω;rw[Go.Deep.add_add] at g0 g1 g2 g3 L M N;have t1:prog.cellsOf 3=1:=by kernel_rfl
       have t2:prog.cellsOf 2=1:=by kernel_rfl
       have t3:prog.cellsOf 24=1:=by kernel_rfl
       have t4:prog.cellsOf 46=2:=by kernel_rfl
       have t5:prog.cellsOf 5=1:=by kernel_rfl
       simp[t1,t2,t3,t4,t5] at C E F G I J K;subst C E F G I J K;exact⟨⟨R,S,U,Y,gg,oo,kk⟩,λ_=>⟨⟨Zh T,Zh X,Zh Z,Zh w6,u32q w4,u8q w5⟩,by grind,by grind,by grind,by grind,by simpa using L,by simpa using M,by simpa using N⟩⟩
   .exact⟨⟨0,0,0,0,0,0,0⟩,λh=>absurd h hi⟩
  obtain⟨q,u⟩:=Classical.axiomOfChoice A;refine⟨g,q,some y,cap,rfl,ω,λj t=>(u j t).1,λj t=>?_⟩;obtain⟨b,off,s⟩:=y;have k:s=none:=by have:=World.cell?_spot (u 0 ω).2.1;simpa[Addr.add] using this
  subst k;refine⟨b,off,rfl,?_,?_⟩
  .have:=Ε W _ (u j t).2.1;rw[Go.WideShapes.add_plain] at this;exact this
  .have:=(u j t).2;unfold WB;simpa only[Go.WideShapes.add_plain,Nat.add_assoc] using this
def acW{α:Type}(l:List α)(h:l.length=4):∃a b c d,l=[a,b,c,d]:=by
 match l,h with
 | [a,b,c,d],_=>exact⟨a,b,c,d,rfl⟩
set_option maxRecDepth 100000 in
open Go.ChangeShapes Go.ChangeAt Go.WideShapes Go.Joins Go.Deep in
def DF{H:Type}{enc:TypeId×Value->H}{W:World}{v:Value}{d:DataW H}{P:List MemPlace}{base:Nat}{c:Nat->Bool}
  (Q:Value.okWide prog W .any base 58 v) (h:DataW.Trod enc prog W 0 c true 58 v d P):∃kd O n m:Int,v=.agg #[kd,O,.int .u8 n,.int .u32 m]/\(0<=n/\n<=255)/\(0<=m/\m<=4294967295):=by
 obtain⟨cs,rfl,e⟩:=okWide_struct underlying58 Q;have f:prog.cellsOf 58=4:=by kernel_rfl
 have g:prog.cellsOf 23=2:=by kernel_rfl
 have L:prog.cellsOf 3=1:=by kernel_rfl
 have M:prog.cellsOf 24=1:=by kernel_rfl
 have N:prog.cellsOf 5=1:=by kernel_rfl
 rw[f] at e;obtain⟨l⟩:=cs;obtain⟨i,j,y,z,rfl⟩:=acW l e;obtain⟨k,A⟩:=h;obtain⟨B,C,D,n,R,_,o,p,q⟩:=trod_struct3 underlying58 A;rw[g] at o;rw[N] at p;rw[M] at q;obtain⟨E,F,n',G,_,r,s⟩:=trod_struct2 underlying23 (show DataW.trod enc prog W 0 c true n 23 [i,j]=some B from o);rw[L] at r s;obtain⟨a,t,_,_⟩:=DataW.trod_int underlying3 (show DataW.trod enc prog W 0 c true n' 3 [i]=some E from r);obtain⟨b,u,_,_⟩:=DataW.trod_int underlying3 (show DataW.trod enc prog W 0 c true n' 3 [j]=some F from s)
 obtain⟨I,w,_,J⟩:=DataW.trod_int underlying5 (show DataW.trod enc prog W 0 c true n 5 [y]=some C from p);obtain⟨m,x,_,K⟩:=DataW.trod_int underlying24 (show DataW.trod enc prog W 0 c true n 24 [z]=some D from q);simp at t u w x;subst t u w x;exact⟨a,b,I,m,rfl,u8q J,u32q K⟩
def D8{P:Program}{o:Oper}{a:Act}{w:World}{K:Act->World->Prop}{Q:Exit->Act->World->Prop}(s x:Operand)(t:TypeId)
  (ho:o.op=.call { callee:=.builtin .append,args:=#[s,x],argTypes:=#[t,t] })
  (base:Nat) (e:TypeId) (z:Value) (b f:Nat) (ht:P.underlying t=some (.slice e)) (q:(P.info? e).map (λi=>(i.zero,i.size,i.bytes))=some (some z,b,f))
  (M:z.cells.size=b) (N:0<b) (r l n:Nat) (xs:List Value) (hs:a.eval s=.slice (some r) n l) (B:w.ownsRow base e b (.slice (some r) n l) n xs)
  (O R m cs:Nat) (d:List Value) (hx:a.eval x=.slice (some ⟨O,R,none⟩) m cs) (C:d.length=m*b) (v:∀j u,d[j]?=some u->w.cell? ⟨O,R+j,none⟩=some u) (h1:∀u∈d,u.oneCell'=true)
  (hn:n+m<=maxLen) (p:(n+m)*f<=140737488355328) (y:base<=w.heap.size)
  (h:∀g c w',w'.ownsRow base e b (.slice (some (g:Nat)) (n+m) c) (n+m) (xs++d)->ae [r] w w'->(g=r\/w.heap.size<=g)->n+m<=c->c<=9223372036854775807->g<w'.heap.size->K (a.put o.dst (.slice (some (g:Nat)) (n+m) c)) w'):
  Oper.wp P o a w K Q:=by
 obtain⟨i,T,D,E,F⟩:=info_parts q;obtain⟨v',w',U,S,W,_,A⟩:=run_append_own_at (P:=P) w base t o.type e i z b f ht T D E F M N (.slice (some r) n l) n xs B ⟨O,R,none⟩ m cs d C (λj u Z=>by rw[EH];exact v j u Z) h1 hn p y;unfold Oper.wp execOp;simp only[ho,resolve,invoke,builtin,Sem.run_bind,Sem.run_pure,Result.andThen_ok,List.map_toArray,List.map_cons,List.map_nil,hs,hx,U];have Y:∃g,v'.ownBlock=some g/\(g=r\/w.heap.size<=g):=by
  rcases A with A|A
  .exact⟨r,A,Α rfl⟩
  .exact⟨_,A,Β (Θ _)⟩
 obtain⟨g,G,H⟩:=Y;obtain⟨c,rfl,I,J,X,L⟩:=JC S G;exact h g c w' S ((ae.refl _ _).grown W (λk hk=>Α (by cases hk;simp))) H I J L
def tZ{P:Program}{v:Array Oper}{o:Oper}{a:Act}{w:World}{K:Act->World->Prop}{Q:Exit->Act->World->Prop}{E:Prop}(C:o.guard=none)(s x:Operand)(t:TypeId)
  (J:o.op=.call { callee:=.builtin .append,args:=#[s,x],argTypes:=#[t,t] })
  (base:Nat) (e:TypeId) (z:Value) (b d:Nat) (L:P.underlying t=some (.slice e)) (l:(P.info? e).map (λi=>(i.zero,i.size,i.bytes))=some (some z,b,d))
  (D:z.cells.size=b) (F:0<b) (y g n:Nat) (xs:List Value) (hs:a.eval s=.slice (some y) n g) (A:w.ownsRow base e b (.slice (some y) n g) n xs)
  (G H m cs:Nat) (c:List Value) (M:a.eval x=.slice (some ⟨G,H,none⟩) m cs) (B:c.length=m*b) (p:∀j u,c[j]?=some u->w.cell? ⟨G,H+j,none⟩=some u) (N:∀u∈c,u.oneCell'=true)
  (O:n+m<=maxLen) (k:(n+m)*d<=140737488355328) (q:base<=w.heap.size)
  (h:∀r f w',w'.ownsRow base e b (.slice (some (r:Nat)) (n+m) f) (n+m) (xs++c)->ae [y] w w'->(r=y\/w.heap.size<=r)->n+m<=f->f<=9223372036854775807->r<w'.heap.size->K (a.put o.dst (.slice (some (r:Nat)) (n+m) f)) w'):
  if Region.wanted o (yielded v a.tmps)=true then Oper.wp P o a w K Q else E:=by
 have I:Region.wanted o (yielded v a.tmps)=true:=by simp[Region.wanted,C]
 rw[Δ I];exact D8 s x t J base e z b d L l D F y g n xs hs A G H m cs c M B p N O k q h
def gX(l:List Bool):List Value:=l.map Value.bool
def Bh(l:List Bool):∀u∈gX l,u.oneCell'=true:=by
 intro u a;unfold gX at a;obtain⟨x,_,rfl⟩:=List.mem_map.1 a;rfl
def gQ.aap{w:World}{F:List Nat}{d e f g i k:Nat}{A:NS}(h:gQ w F d e f g i k A)(j:Nat)(u:Value)(a:(gX A.hs)[j]?=some u):w.cell? ⟨d,e+j,none⟩=some u:=by
 unfold gX at a;rw[ϑ] at a;cases c:A.hs[j]? with
 |none=>rw[c] at a;cases a
 |some b=>
  rw[c] at a;simp at a;subst a;rw[h.h j (List.getElem?_eq_some_iff.1 c).1];simp[φ,c]
def rO{w:World}{g:Nat}{e:TypeId}{base a:Nat}(h:w.heap[g]?=some (.cells #[] e (0,0)))(b:base<=g):w.ownsRow base e a (.slice (some g) 0 0) 0 []:=
 ⟨σ,Β ⟨g,0,#[],rfl,b,h,Θ _,by grind,σ,σ⟩⟩
def nI{w:World}{g:Nat}{o:Obj}(a:g=w.heap.size):(w.alloc o).heap[g]?=some o:=by
 subst a
 show(w.heap.push _)[w.heap.size]?=_;simp
def BK{w:World}{g:Nat}{o b:Obj}(h:w.heap[g]?=some o):(w.alloc b).heap[g]?=some o:=by
 have a:=(Array.getElem?_eq_some_iff.1 h).1;rw[Below.heap_alloc _ _ _ a];exact h
def TG{w:World}{g:Nat}{b:Value}(h:w.cell? g=some b)(j:Nat)(u:Value)(a:[b][j]?=some u):w.cell? ⟨g,0+j,none⟩=some u:=by
 match j,a with
 |0,a=>simp at a;subst a;exact h
section
variable{w:World}{F:List Nat}{v:Value}{A:NS}
def gQ.ownH{w W:World}{F:List Nat}{k l n c d e:Nat}{A:NS}(h:gQ w F k l n c d e A)(o:ae [] w W)(r:∀x,x∈F->x<w.heap.size){g cap:Nat}{hs:List Bool}
  (f:W.ownsRow w.heap.size 4 1 (.slice (some g) hs.length cap) hs.length (gX hs)) (p:hs.length<=cap/\cap<=9223372036854775807) (q:g<W.heap.size):gQ W F g 0 cap c d e ⟨hs,A.cs⟩:=by
 have a:=h.ag o;have i:=(f.lt g rfl).1;refine⟨p,a.Hf,⟨q,a.lt.2⟩,⟨λm=>by grind,a.far.2⟩,λj b=>?_,a.c0,a.c1,a.c2⟩;simp only at b;rw[ϓ,f.cellAt j ω];unfold gX;simp[φ,b]
def Uw{p q r j l n m a b gc' MW n' cc':Nat}{c:World}(h:gQ w F p q r j l n A)(s:∀x,x∈F->x<w.heap.size)(t:A.hs.length=m)
  (u:c.ownsRow w.heap.size 4 1 (.slice (some a) (m+1) b) (m+1) (gX A.hs++[.bool true])) (v:ae [] w c) (z:w.heap.size+2<=a) (D:m+1<=b) (E:b<=9223372036854775807) (B:a<c.heap.size):
  gQ ((c.setCell (w.heap.size+1:Nat) (.slice (some a) (m+1) b)).setCell ⟨w.heap.size+1,1,none⟩ (.slice (some ⟨gc',MW,none⟩) n' cc')) F a 0 b j l n ⟨A.hs++[true],A.cs⟩/\
  ae [] w ((c.setCell (w.heap.size+1:Nat) (.slice (some a) (m+1) b)).setCell ⟨w.heap.size+1,1,none⟩ (.slice (some ⟨gc',MW,none⟩) n' cc')):=by
 have f:ae [w.heap.size+1] c ((c.setCell (w.heap.size+1:Nat) (.slice (some a) (m+1) b)).setCell ⟨w.heap.size+1,1,none⟩ (.slice (some ⟨gc',MW,none⟩) n' cc')):=β;have i:ae [] w ((c.setCell (w.heap.size+1:Nat) (.slice (some a) (m+1) b)).setCell ⟨w.heap.size+1,1,none⟩ (.slice (some ⟨gc',MW,none⟩) n' cc')):=v.joined f (λy C=>Β (by grind));generalize ((c.setCell (w.heap.size+1:Nat) (.slice (some a) (m+1) b)).setCell ⟨w.heap.size+1,1,none⟩ (.slice (some ⟨gc',MW,none⟩) n' cc'))=W at *;have d:(A.hs++[true]).length=m+1:=by simp[t]
 have g:W.ownsRow w.heap.size 4 1 (.slice (some a) (A.hs++[true]).length b) (A.hs++[true]).length (gX (A.hs++[true])):=by
  rw[d];have e:gX (A.hs++[true])=gX A.hs++[.bool true]:=by unfold gX;simp
  rw[e];exact au u f (λk o=>by cases o;simp;omega)
 exact⟨gQ.ownH h i s g (by grind) (Ψ B f.size),i⟩
def RQ(h:gM w F v A)(T:A.Ok)(U:∀x,x∈F->x<w.heap.size):
    Calls prog 74 #[v] w λe w'=>∃v',e=.returned (.tuple #[v',(dF A:Int)])/\gM w' F v' (aO A)/\ae [] w w':=by
  obtain⟨p,q,r,f,g,i,rfl,h⟩:=h;have h3:=T.h1;have H:=χ h;have HF:=χ U;unfold dF aO
  by_cases b:65536<A.hs.length
  · rw[Δ ω,Δ b]
    have FI:Hid (∀W,ae [] w W->gM W F (ic p q r f g i A) A):=λW c=>⟨p,q,r,f,g,i,rfl,H.out.ag c⟩
    unfold ic at *;have M:(65536:Int)<(A.hs.length:Int):=ω;clear h T U b;generalize A.cs.length=n at *;generalize A.hs.length=m at *
    go_enter func74,ntmps74
    go_wp2;exact bodyPost_ret (v:=.tuple #[.agg #[.slice (some ⟨p,q,none⟩) m r,.slice (some ⟨f,g,none⟩) n i],(0:Int)]) (by simp[results,results74,go_sem]) rfl
      ⟨_,rfl,FI.out _ β,β⟩
  · rw[Γ ω,Γ b]
    unfold ic;have M:¬(65536:Int)<(A.hs.length:Int):=ω;have z:(gX A.hs).length=A.hs.length*1:=by unfold gX;simp
    have N:=χ z;clear h T U b z;generalize hn:A.cs.length=n at *;generalize hm:A.hs.length=m at *;have O:=χ (ψ hn hm);clear hn hm;obtain⟨a,d⟩:∃a,a=((w.alloc (.cells #[.slice (some ⟨p,q,none⟩) m r,.slice (some ⟨f,g,none⟩) n i] 36)).alloc (.cells #[.slice none 0 0,.slice none 0 0] 36)):=⟨_,rfl⟩;have P:=χ d;have B:ae [] w a:=by rw[d];exact β
    have C:a.heap.size=w.heap.size+2:=by rw[d];simp
    have r0:∀W,ae [] a W->W.cell? w.heap.size=some (.slice (some ⟨p,q,none⟩) m r):=λW c=>c.was (by rw[d];go_simp);have r1:∀W,ae [] a W->W.cell? ⟨w.heap.size,1,none⟩=some (.slice (some ⟨f,g,none⟩) n i):=λW c=>c.was (by rw[d];go_simp);have R2:Hid (∀W,ae [] a W->W.cell? (w.heap.size+1:Nat)=some (.slice none 0 0)/\W.cell? ⟨w.heap.size+1,1,none⟩=some (.slice none 0 0)/\W.frozen? (w.heap.size+1:Nat)=false/\W.frozen? ⟨w.heap.size+1,1,none⟩=false):=λW c=>
      ⟨c.was (by rw[d];go_simp),c.was (by rw[d];go_simp),c.ay (v:=.slice none 0 0) (by rw[d];go_simp) σ (by rw[d];go_simp),c.ay (v:=.slice none 0 0) (by rw[d];go_simp) σ (by rw[d];go_simp)⟩
    have Q:=χ C;clear d C
    go_enter func74,ntmps74
    go_wp2;rw[←P.out];have z0:∀W,ae [w.heap.size+1] a W->W.cell? w.heap.size=some (.slice (some ⟨p,q,none⟩) m r):=λW c=>c.kept (r0 a (ae.refl _ _)) ι;have z1:∀W,ae [w.heap.size+1] a W->W.cell? ⟨w.heap.size,1,none⟩=some (.slice (some ⟨f,g,none⟩) n i):=λW c=>c.kept (r1 a (ae.refl _ _)) ι;have hT:∀W,ae [w.heap.size+1] a W->ae [] w W:=λW c=>B.joined c (λy j=>Β (by simp at j;omega));have HT:=χ hT;have hS0:ae [w.heap.size+1] a a:=ae.refl _ _;have hszB:w.heap.size+2<=a.heap.size:=by have:=Q.out;omega
    clear r0 r1 hT
    go_region_held_law (λW=>ae [w.heap.size+1] a W) (exact ν)
      (first
        | (refine tZ (o:=⟨some 12,_,_,_,_,_⟩) (by rfl) (.tmp 9) (.tmp 11) 33 (by rfl) w.heap.size 4 (.bool false) 1 1 underlying33 Cs rfl δ _ 0 0 [] (by rfl) (rO (by first|exact nI σ|exact BK (nI σ)) (by first|omega|(simp;omega))) p q m r (gX A.hs) (by rfl) N.out ((H.out.ag (HT.out _ ν)).aap) (Bh _) μ ω (by first|omega|(simp;omega)) ?_
           intro g2 cap2 X s l D hc2 hd2 hl2;have R:ae [w.heap.size+1] a X:=ae.joined (S:=[w.heap.size+1]) ν l (λy j=>Β (by simp at j;omega));have hS2':ae [] a X:=ae.joined (S:=[]) β l (λy j=>Β (by simp at j;omega));rw[ϓ,Ϛ] at s;have g2b:a.heap.size<=g2:=by(rcases D with h|h;(first|omega|(simp at h;omega));(first|omega|(simp at h;omega)))
           simp only [Act.put,ϓ,List.setIfInBounds_toArray,List.set_cons_zero,List.set_cons_succ])
        | (refine tZ (o:=⟨some 14,_,_,_,_,_⟩) (by rfl) (.tmp 12) (.tmp 13) 33 (by rfl) w.heap.size 4 (.bool false) 1 1 underlying33 Cs rfl δ g2 cap2 m (gX A.hs) (by rfl) (au s (S:=[]) β σ) _ 0 1 1 [.bool true] (by rfl) rfl (TG (by first|(go_simp;done)|exact l.kept γ ι)) (by simp [Value.oneCell']) μ ω (by have:=R.size;first|omega|(simp;omega)) ?_
           intro Y Z E G t I J K L;have k:ae [] a E:=ae.joined (S:=[]) β t (λy j=>Β (by simp at j;omega));obtain⟨p0,p1,p2,p3⟩:=R2.out E k;have zz:ae [w.heap.size+1] a E:=ae.joined (S:=[w.heap.size+1]) ν t (λy j=>Β (by simp at j;omega))
           simp only [Act.put,List.setIfInBounds_toArray,List.set_cons_zero,List.set_cons_succ]))
    all_goals
      go_wp2;obtain⟨u,hu⟩:=Uw (gc':=f) (MW:=g) (n':=n) (cc':=i) H.out HF.out O.out.2 G (B.trans k) (by first|omega|(rcases I with h|h;(omega);(first|omega|(simp at h;omega)))) J K L;exact bodyPost_ret (v:=.tuple #[.agg #[.slice (some (Y:Nat)) (m+1) Z,.slice (some ⟨f,g,none⟩) n i],(m:Int)]) (by simp[results,results74,go_sem,p0,p1]) rfl
        ⟨_,rfl,⟨Y,0,Z,f,g,i,by unfold ic;simp only[υ,O.out.1,O.out.2,Ω,List.length_nil],u⟩,hu⟩
end
section
variable{w:World}{F:List Nat}{v:Value}{A:NS}
def Q9(h:gM w F v A)(u:A.Ok)(Z:∀x,x∈F->x<w.heap.size)(x:Int):
  Calls prog 97 #[v,x] w λe w'=>∃v',e=.returned (.tuple #[v',.bool (bY A x)])/\gM w' F v' (aS A x)/\ae [] w w':=by
 obtain⟨c,d,f,g,j,k,rfl,h⟩:=h;have t:=λW (b:ae [] w W)=>vJ ⟨c,d,f,g,j,k,rfl,h.ag b⟩ u x;have S:=h.lt;have z:=λW (b:ae [] w W) (hs:w.heap.size+1<W.heap.size) (i:Nat) (Y:i<A.cs.length)=>zZ (F:=(w.heap.size+1)::F) ⟨c,d,f,g,j,k,rfl,(h.ag b).add ω ω⟩ u (λy B=>by rcases ρ.1 B with rfl|B;exact hs;exact Ψ (Z y B) b.size) i Y ⟨0,0,0⟩;have H:=χ h;unfold ic at *;generalize C:A.cs.length=n at *;generalize D:A.hs.length=m at *
 have R:Hid (∀W,ae [] ((w.alloc (.cells #[.slice (some ⟨c,d,none⟩) m f,.slice (some ⟨g,j,none⟩) n k] 36)).alloc (.cells #[.slice none 0 0,.slice none 0 0] 36)) W->
   W.cell? w.heap.size=some (.slice (some ⟨c,d,none⟩) m f)/\W.cell? ⟨w.heap.size,1,none⟩=some (.slice (some ⟨g,j,none⟩) n k)/\
   W.cell? (w.heap.size+1:Nat)=some (.slice none 0 0)/\W.cell? ⟨w.heap.size+1,1,none⟩=some (.slice none 0 0)/\W.frozen? (w.heap.size+1:Nat)=false/\W.frozen? ⟨w.heap.size+1,1,none⟩=false):=λW h=>
  ⟨h.was γ,h.was γ,h.was γ,h.was γ,h.ay (v:=.slice none 0 0) γ σ γ,h.ay (v:=.slice none 0 0) γ σ γ⟩
 cases l:bY A x
 .rw[l] at t;have e:aS A x=A:=by unfold aS;rw[Γ (by rw[l];simp)]
  rw[e];have T:Hid (∀W,ae [] w W->gM W F (.agg #[.slice (some ⟨c,d,none⟩) m f,.slice (some ⟨g,j,none⟩) n k]) A):=λW b=>⟨c,d,f,g,j,k,by unfold ic;rw[C,D],H.out.ag b⟩
  clear h u z C D l e
  go_enter func97,ntmps97
  go_wp2_with ((((with_reducible refine(t _ β).mono ?_));rintro e o ⟨rfl,a⟩;(have J:ae [] w o:=ae.trans β a);obtain⟨L,M,G,I,N,O⟩:=R.out o a))
  exact bodyPost_ret (v:=.tuple #[.agg #[.slice (some ⟨c,d,none⟩) m f,.slice (some ⟨g,j,none⟩) n k],false]) (by simp[results,results97,go_sem,G,I]) rfl
   ⟨_,rfl,T.out _ β,β⟩
 .have U:=(qF _ _).1 l;obtain⟨i,rfl⟩:∃i:Nat,x=i:=⟨x.toNat,ω⟩;have X:=λW b hs=>z W b hs i ω;have e:aS A (i:Int)=gu A i ⟨0,0,0⟩:=by unfold aS;rw[Δ l];simp[Cl.z]
  rw[e];rw[l] at t;clear h u z C D l e U
  go_enter func97,ntmps97
  go_wp2_with (first
   |(((with_reducible refine(t _ β).mono ?_));rintro e o ⟨rfl,a⟩;(have J:ae [] w o:=ae.trans β a);obtain⟨L,M,G,I,N,O⟩:=R.out o a)
   | (((with_reducible refine (X _ η (by have:=a.size;simp at *;omega)).mono ?_));rintro e E ⟨p,q,r,gc',MW,cc',rfl,K,s⟩;(have v3:ae [] w E:=ae.trans J s);obtain ⟨r0,r1,P,Q,r6,r7⟩:=R.out E (a.trans s)))
  exact bodyPost_ret (v:=.tuple #[.agg #[.slice (some ⟨p,q,none⟩) (gu A i ⟨0,0,0⟩).hs.length r,.slice (some ⟨gc',MW,none⟩) (gu A i ⟨0,0,0⟩).cs.length cc'],true]) (by simp[results,results97,go_sem,P,Q]) rfl
   ⟨_,rfl,⟨p,q,r,gc',MW,cc',rfl,K.stored _ _⟩,β⟩
def WO(h:gM w F v A)(ok:A.Ok)(hF:∀x,x∈F->x<w.heap.size)(x k s:Int):
  Calls prog 82 #[v,x,.agg #[k,.int .u64 s]] w λe w'=>∃v',e=.returned (.tuple #[v',.bool (iX A x k s)])/\gM w' F v' (aA A x k s)/\ae [] w w':=by
 obtain⟨p,q,r,j,l,t,rfl,h⟩:=h;have U:=λW (f:ae [] w W)=>vJ ⟨p,q,r,j,l,t,rfl,h.ag f⟩ ok x;have hlc:=h.lt;have k3:=λW (f:ae [] w W) (hs:w.heap.size+1+1<W.heap.size) (i:Nat) (hi:i<A.cs.length)=>zZ (F:=(w.heap.size+1+1)::F) ⟨p,q,r,j,l,t,rfl,(h.ag f).add ω ω⟩ ok (λy X=>by rcases ρ.1 X with rfl|X;exact hs;exact Ψ (hF y X) f.size) i hi ⟨(A.c i).i,k,s⟩;have H:=χ h;unfold ic at *;generalize Y:A.cs.length=n at *;generalize Z:A.hs.length=m at *
 obtain⟨g,u⟩:∃g,g=(((w.alloc (.cells #[.slice (some ⟨p,q,none⟩) m r,.slice (some ⟨j,l,none⟩) n t] 36)).alloc (.cells #[k,.int .u64 s] 97)).alloc (.cells #[.slice none 0 0,.slice none 0 0] 36)):=⟨_,rfl⟩
 have R:Hid (∀W,ae [] (((w.alloc (.cells #[.slice (some ⟨p,q,none⟩) m r,.slice (some ⟨j,l,none⟩) n t] 36)).alloc (.cells #[k,.int .u64 s] 97)).alloc (.cells #[.slice none 0 0,.slice none 0 0] 36)) W->
   W.cell? w.heap.size=some (.slice (some ⟨p,q,none⟩) m r)/\W.cell? ⟨w.heap.size,1,none⟩=some (.slice (some ⟨j,l,none⟩) n t)/\W.cell? (w.heap.size+1:Nat)=some (k:V)/\W.cell? ⟨w.heap.size+1,1,none⟩=some (.int .u64 s)/\
   W.cell? (w.heap.size+1+1:Nat)=some (.slice none 0 0)/\W.cell? ⟨w.heap.size+1+1,1,none⟩=some (.slice none 0 0)/\W.frozen? (w.heap.size+1+1:Nat)=false/\W.frozen? ⟨w.heap.size+1+1,1,none⟩=false):=λW h=>
  ⟨h.was γ,h.was γ,h.was γ,h.was γ,h.was γ,h.was γ,h.ay (v:=.slice none 0 0) γ σ γ,h.ay (v:=.slice none 0 0) γ σ γ⟩
 have o:ae [] w g:=by rw[u];exact β
 have hsB:w.heap.size+3<=g.heap.size:=by rw[u];simp
 cases D:bY A x
 .rw[D] at U;have e:iX A x k s=false:=by unfold iX;rw[D];rfl
  have C:aA A x k s=A:=by unfold aA;rw[Γ (by rw[e];simp)]
  rw[e,C];have FI:Hid (∀W,ae [] w W->gM W F (.agg #[.slice (some ⟨p,q,none⟩) m r,.slice (some ⟨j,l,none⟩) n t]) A):=λW f=>⟨p,q,r,j,l,t,by unfold ic;rw[Y,Z],H.out.ag f⟩
  clear h ok k3 Y Z D e C u hsB o
  go_enter func82,ntmps82
  go_wp2
  first
   |(go_region_with (((with_reducible refine(U _ β).mono ?_));rintro e G ⟨rfl,I⟩;(have v0:ae [] (((w.alloc (.cells #[.slice (some ⟨p,q,none⟩) m r,.slice (some ⟨j,l,none⟩) n t] 36)).alloc (.cells #[k,.int .u64 s] 97)).alloc (.cells #[.slice none 0 0,.slice none 0 0] 36)) G:=ae.trans β I);(have v1:ae [] w G:=ae.trans β v0);obtain⟨q0,q1,q2,q3,q4,q5,q6,q7⟩:=R.out G v0))
   |fail
  all_goals
   go_wp2;exact bodyPost_ret (v:=.tuple #[.agg #[.slice (some ⟨p,q,none⟩) m r,.slice (some ⟨j,l,none⟩) n t],false]) (by simp[results,results82,go_sem,q4,q5]) rfl
    ⟨_,rfl,FI.out _ β,β⟩
 .have hx:=(qF _ _).1 D;obtain⟨i,rfl⟩:∃i:Nat,x=i:=⟨x.toNat,ω⟩;have hi:i<n:=ω;have k4:=λW f hs=>k3 W f hs i hi;have d0:=H.out.c0 i ω;have d1:=H.out.c1 i ω;have d2:=H.out.c2 i ω;have M:=λW=>Fg (A.c i).k (A.c i).s k s W;have N:iX A (i:Int) k s=!ry (A.c i).k (A.c i).s k s:=by unfold iX;rw[D];simp
  have r1:∀W,ae [] g W->W.cell? ⟨w.heap.size,1,none⟩=some (.slice (some ⟨j,l,none⟩) n t):=λW f=>(R.out W (by rw[←u];exact f)).2.1;have r0:∀W,ae [] g W->W.cell? w.heap.size=some (.slice (some ⟨p,q,none⟩) m r):=λW f=>(R.out W (by rw[←u];exact f)).1;have r2:∀W,ae [] g W->W.cell? (w.heap.size+1:Nat)=some (k:V):=λW f=>(R.out W (by rw[←u];exact f)).2.2.1;have r3:∀W,ae [] g W->W.cell? ⟨w.heap.size+1,1,none⟩=some (.int .u64 s):=λW f=>(R.out W (by rw[←u];exact f)).2.2.2.1
  have r4:∀W,ae [] g W->W.cell? ⟨j,l+i*3,none⟩=some (.int .i64 (A.c i).i):=λW f=>(o.trans f).was d0;have r5:∀W,ae [] g W->W.cell? ⟨j,l+i*3+1,none⟩=some (.int .i64 (A.c i).k):=λW f=>(o.trans f).was d1;have r6:∀W,ae [] g W->W.cell? ⟨j,l+i*3+2,none⟩=some (.int .u64 (A.c i).s):=λW f=>(o.trans f).was d2;have z:∀W,ae [] g W->Calls prog 93 #[.agg #[.slice (some ⟨p,q,none⟩) m r,.slice (some ⟨j,l,none⟩) n t],(i:Int)] W λe w'=>e=.returned (.bool (bY A i))/\ae [] W w':=λW f=>U W (o.trans f);rw[D] at z
  have R8:Hid (∀W,ae [] g W->W.cell? (w.heap.size+1+1:Nat)=some (.slice none 0 0)/\W.cell? ⟨w.heap.size+1+1,1,none⟩=some (.slice none 0 0)/\W.frozen? (w.heap.size+1+1:Nat)=false/\W.frozen? ⟨w.heap.size+1+1,1,none⟩=false):=λW f=>by
   obtain⟨_,_,_,_,a,b,c,d⟩:=R.out W (by rw[←u];exact f);exact⟨a,b,c,d⟩
  have FI:Hid (∀W,ae [] w W->gM W F (.agg #[.slice (some ⟨p,q,none⟩) m r,.slice (some ⟨j,l,none⟩) n t]) A):=λW f=>⟨p,q,r,j,l,t,by unfold ic;rw[Y,Z],H.out.ag f⟩
  cases E:ry (A.c i).k (A.c i).s k s
  .have C:aA A (i:Int) k s=gu A i ⟨(A.c i).i,k,s⟩:=by unfold aA;rw[Δ (by rw[N,E];rfl)];simp
   rw[N,E,C];rw[E] at M;generalize (A.c i).i=i0 at *;generalize (A.c i).k=k0 at *;generalize (A.c i).s=s0 at *;have K:=χ u;clear h ok k3 Y Z D N E C hx d0 d1 d2 R FI U u
   go_enter func82,ntmps82
   go_wp2;rw[←K.out]
   go_region_held3 (ae [] g) (exact η)
    (first
     |((with_reducible refine(z _ η).mono ?_);rintro e G ⟨rfl,I⟩;(have v1:ae [] g G:=η))
     | ((with_reducible refine (M _).mono ?_);rintro e B ⟨rfl,J⟩;(have L:ae [] g B:=ae.trans v1 J)))
   have z0:∀W,ae [w.heap.size+1+1] g W->W.cell? w.heap.size=some (.slice (some ⟨p,q,none⟩) m r):=λW f=>f.kept (r0 g (ae.refl _ _)) ι;have z1:∀W,ae [w.heap.size+1+1] g W->W.cell? ⟨w.heap.size,1,none⟩=some (.slice (some ⟨j,l,none⟩) n t):=λW f=>f.kept (r1 g (ae.refl _ _)) ι;have z2:∀W,ae [w.heap.size+1+1] g W->W.cell? (w.heap.size+1:Nat)=some (k:V):=λW f=>f.kept (r2 g (ae.refl _ _)) ι;have z3:∀W,ae [w.heap.size+1+1] g W->W.cell? ⟨w.heap.size+1,1,none⟩=some (.int .u64 s):=λW f=>f.kept (r3 g (ae.refl _ _)) ι
   have z4:∀W,ae [w.heap.size+1+1] g W->W.cell? ⟨j,l+i*3,none⟩=some ((i0:Int):V):=λW f=>f.kept (r4 g (ae.refl _ _)) ι;have hT:∀W,ae [w.heap.size+1+1] g W->ae [] w W:=λW f=>o.joined f (λy X=>Β (by simp at X;omega));have HT:=χ hT;have v5:ae [w.heap.size+1+1] g B:=L.mono σ;clear r0 r1 r2 r3 r4 r5 r6 z M hT;go_wp2
   go_region_held3 (ae [w.heap.size+1+1] g) (exact ν)
    (((with_reducible refine(k4 _ (HT.out _ ν) (by have h5:=L.size;simp;omega)).mono ?_);rintro e w3 ⟨O,P,Q,gc',MW,cc',rfl,hM,S⟩;(have iK:=S.mono (T:=[w.heap.size+1+1]) σ);(have v3:ae [w.heap.size+1+1] g w3:=ν);(have v6:ae [] g w3:=by(refine ae.trans ?_ S;exact ν));obtain⟨p0,p1,p2,p3⟩:=R8.out w3 v6))
   go_wp2;have hfin:=ae.trans o v6;exact bodyPost_ret (v:=.tuple #[.agg #[.slice (some ⟨O,P,none⟩) (gu A i ⟨i0,k,s⟩).hs.length Q,.slice (some ⟨gc',MW,none⟩) (gu A i ⟨i0,k,s⟩).cs.length cc'],true]) (by simp[results,results82,go_sem,p0,p1]) rfl
    ⟨_,rfl,⟨O,P,Q,gc',MW,cc',rfl,hM.stored _ _⟩,β⟩
  .have C:aA A (i:Int) k s=A:=by unfold aA;rw[Γ (by rw[N,E];simp)]
   rw[N,E,C];rw[E] at M;generalize (A.c i).i=i0 at *;generalize (A.c i).k=k0 at *;generalize (A.c i).s=s0 at *;have K:=χ u;clear h ok k3 k4 Y Z D N E C hx d0 d1 d2 R U u
   go_enter func82,ntmps82
   go_wp2;rw[←K.out]
   go_region_held3 (ae [] g) (exact η)
    (first
     |((with_reducible refine(z _ η).mono ?_);rintro e G ⟨rfl,I⟩;(have v1:ae [] g G:=η))
     | ((with_reducible refine (M _).mono ?_);rintro e B ⟨rfl,J⟩;(have L:ae [] g B:=ae.trans v1 J)))
   have q0:=r0 B L;have q1:=r1 B L;obtain⟨p0,p1,p2,p3⟩:=R8.out B L;have v3:ae [] w B:=o.trans L;clear r0 r1 r2 r3 r4 r5 r6 z M;go_wp2;exact bodyPost_ret (v:=.tuple #[.agg #[.slice (some ⟨p,q,none⟩) m r,.slice (some ⟨j,l,none⟩) n t],false]) (by simp[results,results82,go_sem,p0,p1]) rfl
    ⟨_,rfl,FI.out _ β,β⟩
end
def jc(a b:Int)(c:Cl):Cl:=if c.i=b then⟨a,c.k,c.s⟩ else c
def jL(cs:List Cl)(a b:Int)(j:Nat):List Cl:=(cs.take j).map (jc a b)++cs.drop j
def Vl(cs:List Cl)(a b:Int)(j:Nat):(jL cs a b j).length=cs.length:=by unfold jL;simp;omega
def Z4(cs:List Cl)(a b:Int):jL cs a b 0=cs:=by unfold jL;simp
def Yl(cs:List Cl)(a b:Int):jL cs a b cs.length=cs.map (jc a b):=by unfold jL;simp
def WT(cs:List Cl)(a b:Int)(j:Nat)(c:j<cs.length):(jL cs a b j).getD j Cl.z=cs.getD j Cl.z:=by
 unfold jL;simp only[φ];rw[ϊ ζ];simp[Nat.min_eq_left (Nat.le_of_lt c)]
def OG(cs:List Cl)(a b:Int)(j:Nat)(e:j<cs.length):jL cs a b (j+1)=(jL cs a b j).set j (jc a b (cs.getD j Cl.z)):=by
 apply List.ext_getElem?;intro i;unfold jL;rw[ύ];have c:cs.getD j Cl.z=cs[j]:=by grind
 by_cases h:j=i
 .subst h;rw[Δ rfl,Δ ζ,Ρ ζ,c];simp[e]
 .rw[Γ h];rcases ϕ i j with d|d
  .rw[Ρ ζ,Ρ ζ];simp only[ϑ,List.getElem?_take];rw[Δ ω,Δ ω]
  .rw[ϊ ζ,ϊ ζ];simp only[List.getElem?_drop,ϐ,Ϗ]
   congr 1;omega
def Zy(cs:List Cl)(a b:Int)(j:Nat)(c:j<cs.length)(h:(cs.getD j Cl.z).i≠b):jL cs a b (j+1)=jL cs a b j:=by
 rw[OG cs a b j c];have e:jc a b (cs.getD j Cl.z)=(jL cs a b j).getD j Cl.z:=by rw[WT cs a b j c];unfold jc;rw[Γ h]
 rw[e];apply List.ext_getElem?;intro i;rw[ύ]
 by_cases h:j=i
 .subst h;have d:j<(jL cs a b j).length:=by rw[Vl];exact c
  rw[Δ rfl,Δ d];simp[φ,d]
 .rw[Γ h]
section
variable{w:World}{F:List Nat}{v:Value}{A:NS}
def VE{q r s t u v m n g1 mK g2 cap2:Nat}{a:World}{hs:List Bool}{cs:List Cl}(h:gQ w F q r s t u v A)(l:∀x,x∈F->x<w.heap.size)(z:hs.length=m)(B:cs.length=n)
  (c:a.ownsRow (w.heap.size+2) 4 1 (.slice (some g1) m mK) m (gX hs)) (d:a.ownsRow (w.heap.size+2) 115 3 (.slice (some g2) n cap2) n (qc cs)) (C:ae [] w a)
  (D:m<=mK/\mK<=9223372036854775807) (E:n<=cap2/\cap2<=9223372036854775807):
  gQ ((a.setCell (w.heap.size+1:Nat) (.slice (some g1) m mK)).setCell ⟨w.heap.size+1,1,none⟩ (.slice (some g2) n cap2)) F g1 0 mK g2 0 cap2 ⟨hs,cs⟩/\
  ae [] w ((a.setCell (w.heap.size+1:Nat) (.slice (some g1) m mK)).setCell ⟨w.heap.size+1,1,none⟩ (.slice (some g2) n cap2)):=by
 have e:ae [w.heap.size+1] a ((a.setCell (w.heap.size+1:Nat) (.slice (some g1) m mK)).setCell ⟨w.heap.size+1,1,none⟩ (.slice (some g2) n cap2)):=β;have f:ae [] w ((a.setCell (w.heap.size+1:Nat) (.slice (some g1) m mK)).setCell ⟨w.heap.size+1,1,none⟩ (.slice (some g2) n cap2)):=C.joined e (λy I=>Β (by grind));generalize ((a.setCell (w.heap.size+1:Nat) (.slice (some g1) m mK)).setCell ⟨w.heap.size+1,1,none⟩ (.slice (some g2) n cap2))=W at *;have G:=c.lt g1 rfl;have H:=d.lt g2 rfl
 have g:W.ownsRow w.heap.size 4 1 (.slice (some g1) hs.length mK) hs.length (gX hs):=by
  rw[z];exact jX (au c e (λk i=>by cases i;simp;omega)) ω
 have o:W.ownsRow w.heap.size 115 3 (.slice (some g2) cs.length cap2) cs.length (qc cs):=by
  rw[B];exact jX (au d e (λk i=>by cases i;simp;omega)) ω
 have p:=e.size;have b:=gQ.own h f l o (by grind) ω;have j:=gQ.ownH h f l g (by grind) ω;exact⟨⟨by grind,b.Hf,⟨ω,ω⟩,⟨j.far.1,b.far.2⟩,j.h,b.c0,b.c1,b.c2⟩,f⟩
def Rw(h:gM w F v A)(ok:A.Ok)(hF:∀x,x∈F->x<w.heap.size)(a b:Int):
  Calls prog 83 #[v,a,b] w λe w'=>∃v',e=.returned (.tuple #[v',.bool (fQ A a b)])/\gM w' F v' (az A a b)/\ae [] w w':=by
 obtain⟨J,L,M,K,N,O,rfl,h⟩:=h;have X:=λW (hW:ae [] w W)=>lK ⟨J,L,M,K,N,O,rfl,h.ag hW⟩ ok a;have k2:=λW (hW:ae [] w W)=>lK ⟨J,L,M,K,N,O,rfl,h.ag hW⟩ ok b;have h1:=h.hcap;have h2:=h.Hf;have h3:=ok.h1;have h4:=ok.c1;have hlc:=h.lt;have H:=χ h;have HF:=χ hF;have FI:Hid (fQ A a b=false->∀W,ae [] w W->gM W F (ic J L M K N O A) (az A a b)):=λhp W hW=>by
  unfold az;rw[Γ (by rw[hp];simp)];exact⟨J,L,M,K,N,O,rfl,H.out.ag hW⟩
 unfold ic at *;have Y:(gX A.hs).length=A.hs.length*1:=by unfold gX;simp
 have HBL:=χ Y;have HCL:=χ (rE A.cs);generalize hn:A.cs.length=n at *;generalize hm:A.hs.length=m at *;have Z:=χ (ψ hn hm)
 have R:Hid (∀W,ae [] ((w.alloc (.cells #[.slice (some ⟨J,L,none⟩) m M,.slice (some ⟨K,N,none⟩) n O] 36)).alloc (.cells #[.slice none 0 0,.slice none 0 0] 36)) W->
   W.cell? w.heap.size=some (.slice (some ⟨J,L,none⟩) m M)/\W.cell? ⟨w.heap.size,1,none⟩=some (.slice (some ⟨K,N,none⟩) n O)/\
   W.cell? (w.heap.size+1:Nat)=some (.slice none 0 0)/\W.cell? ⟨w.heap.size+1,1,none⟩=some (.slice none 0 0)/\W.frozen? (w.heap.size+1:Nat)=false/\W.frozen? ⟨w.heap.size+1,1,none⟩=false):=λW h=>
  ⟨h.was γ,h.was γ,h.was γ,h.was γ,h.ay (v:=.slice none 0 0) γ σ γ,h.ay (v:=.slice none 0 0) γ σ γ⟩
 by_cases hp:fQ A a b=true
 .have hq:=(dI _ _ _).1 hp;have X4:=(aF _ _).1 hq.2.1;obtain⟨y,rfl⟩:∃y:Nat,b=y:=⟨b.toNat,ω⟩;have hym:y<m:=ω;have hab:(a == (y:Int))=false:=by simpa using hq.2.2
  have e:az A a (y:Int)=⟨A.hs.set y false,A.cs.map (jc a y)⟩:=by unfold az jc;rw[Δ hp];simp
  rw[hp,e];rw[hq.1] at X;rw[hq.2.1] at k2;clear h ok FI hp hq X4 e hn hm hF Y
  go_enter func83,ntmps83
  go_wp2_with fail
  refine(X _ β).mono ?_;rintro e P ⟨rfl,c⟩;have v1:ae [] w P:=ae.trans β c;obtain⟨q0,q1,_⟩:=R.out P c
  go_wp2_with fail
  refine(k2 _ v1).mono ?_;rintro e r ⟨rfl,C⟩;have v2:ae [] w r:=ae.trans v1 C;obtain⟨p0,p1,p2,p3,p4,p5⟩:=R.out r (c.trans C);have l2:w.heap.size+1<r.heap.size:=Ε r _ p2;have l0:w.heap.size<r.heap.size:=ω;clear q0 q1 X k2;have N2:=χ ((H.out.ag v2).aap);have C2:=χ ((H.out.ag v2).news);have hg2:J<r.heap.size/\K<r.heap.size:=ω
  go_wp2_with (first
   |(at_builtin;refine l9 (o:=⟨some 31,_,_,_,_,_⟩) (by rfl) _ _ 33 (by rfl) (w.heap.size+2) 4 (.bool false) 1 1 underlying33 Cs rfl δ _ 0 0 [] (by rfl) (rO (nI σ) (by first|omega|(simp;omega))) J L m M (gX A.hs) (by rfl) HBL.out (λj u hj=>ae.was β (N2.out j u hj)) (Bh _) μ ω (by first|omega|(simp;omega)) ?_;intro s ug D E hu3 hg3 hc3 hd3 hl3;rw[ϓ,Ϛ] at E;(have g3b:r.heap.size<=s:=by(rcases hg3 with h|h;(first|omega|(simp at h;omega));(first|omega|(simp at h;omega))));(have p:ae [] r D:=ae.joined (S:=[]) β hu3 (λz U=>Β (by simp at U;omega)));(have z0:∃u,D.cell? ⟨s,y,none⟩=some u:=⟨_,(E.cellAt y ω).trans (ε (by rw[HBL.out];omega))⟩);obtain⟨u0,z0⟩:=z0;(have z1:=E.frozenAt y);(have s1:=p.was p1);(have l03:w.heap.size<D.heap.size:=Ψ l0 p.size);simp only[ϓ])
   | (at_builtin;refine l9 (o:=⟨some 38,_,_,_,_,_⟩) (by rfl) _ _ 34 (by rfl) (w.heap.size+2) 115 (.agg #[(0:Int),(0:Int),.int .u64 0]) 3 24 underlying34 vH rfl δ _ 0 0 [] (by rfl) (rO (nI σ) (by have:=p.size;first|omega|(simp;omega))) K N n O (qc A.cs) (by rfl) HCL.out (λj u hj=>ae.kept (S:=[s]) (w:=D) β (p.was (C2.out j u hj)) ι) (Jn _) μ ω (by have:=p.size;first|omega|(simp;omega)) ?_;intro t d G XC iK hg4 hc4 hd4 hl4;rw [ϓ,Ϛ] at XC;simp only [ϓ]))
  have hl3:s<D.heap.size:=hl3;have B1:Hid (G.ownsRow (w.heap.size+2) 4 1 (.slice (some (s:Nat)) m ug) m (gX (A.hs.set y false))):=by
   have f:=kQ E y (.bool false);rw[show(gX A.hs).set y (.bool false)=gX (A.hs.set y false) by unfold gX;rw[List.map_set]] at f;exact au (au f (S:=[]) ((ae.refl _ _).alloc _) σ) iK (λk I=>by cases I;simp;omega)
  have hw3:ae [] w D:=v2.trans p;have l3s:=p.size;have Q:ae [] w ((D.setCell ⟨s,y,none⟩ (.bool false)).alloc (.cells #[] 115)):=β;have hw4:ae [] w G:=Q.joined iK (λz U=>Β (by simp at U;omega));have I:ae [s,D.heap.size] D G:=ae.joined (S:=[s,D.heap.size]) β iK (λz U=>Α (by simp at U;simp[U]));have t0:G.cell? (w.heap.size+1:Nat)=some (.slice none 0 0):=I.kept (p.was p2) ζ;have t1:G.cell? ⟨w.heap.size+1,1,none⟩=some (.slice none 0 0):=I.kept (p.was p3) ζ;have t2:G.frozen? (w.heap.size+1:Nat)=false:=I.ay (p.was p2) ζ (p.ay p2 σ p4)
  have t3:G.frozen? ⟨w.heap.size+1,1,none⟩=false:=I.ay (p.was p3) ζ (p.ay p3 σ p5);have g4b:D.heap.size<=t:=by(rcases hg4 with h|h;(first|omega|(simp at h;omega));(first|omega|(simp at h;omega)))
  have o4:Hid (G.ownsRow (w.heap.size+2) 115 3 (.slice (some (t:Nat)) n d) n (qc A.cs)):=XC;have hg34:s≠t:=ω;have hw14:w.heap.size+1<G.heap.size:=Ε G _ t0;clear E XC hu3 iK hg3 hg4 z0 z1 s1 p0 p1 p2 p3 p4 p5 I Q;obtain⟨W4,Qa⟩:∃W4,W4=G:=⟨_,rfl⟩;subst Qa
  go_loopw [41] (λi wr=>∃j:Nat,j<=n/\i=.int .i64 (j:Int)/\wr.ownsRow (w.heap.size+2) 115 3 (.slice (some (t:Nat)) n d) n (qc (jL A.cs a y j))/\ae [t] W4 wr) (λi _=>n-(intOf i).toNat)
  case atStart=>exact⟨0,ω,rfl,by rw[Z4];exact o4.out,ae.refl _ _⟩
  case round=>
   obtain⟨j,hj,rfl,B,hu⟩:=hrel
   by_cases hlt:j<n
   .have hlj:j<A.cs.length:=by rw[Z.out.1];exact hlt
    have hll:(jL A.cs a y j).length=n:=by rw[Vl,Z.out.1]
    have ge:(jL A.cs a y j).getD j Cl.z=A.c j:=WT _ _ _ _ hlj;have d0:wr.cell? ⟨t,j*3,none⟩=some (.int .i64 (A.c j).i):=by rw[B.cellAt (j*3) ω,nM (by rw[hll];omega),AV,ge]
    have d1:wr.cell? ⟨t,j*3+1,none⟩=some (.int .i64 (A.c j).k):=by rw[B.cellAt (j*3+1) ω,nM (by rw[hll];omega),vZ,ge]
    have d2:wr.cell? ⟨t,j*3+2,none⟩=some (.int .u64 (A.c j).s):=by rw[B.cellAt (j*3+2) ω,nM (by rw[hll];omega),vS,ge]
    have f0:=B.frozenAt (j*3);have f1:=B.frozenAt (j*3+1);have f2:=B.frozenAt (j*3+2);have l4:=(B.lt t rfl).2;have g:=OG A.cs a y j hlj;have T:=Bo (jL A.cs a y j) j (jc a y (A.c j));have f:A.cs.getD j Cl.z=A.c j:=rfl;rw[f] at g;have l:=Zy A.cs a y j hlj;rw[f] at l;have HO:=χ (ψ B (ψ g T));have HS:=χ l;clear B g T l ge f
    by_cases hy:(A.c j).i=(y:Int)
    .have hb:((A.c j).i == (y:Int))=true:=by simpa using hy
     have HY:=χ hy;clear hy;have hjc:jc a y (A.c j)=⟨a,(A.c j).k,(A.c j).s⟩:=by unfold jc;rw[Δ HY.out]
     rw[hjc] at HO;clear hjc;generalize (A.c j).i=ci at *;generalize (A.c j).k=ck at *;generalize (A.c j).s=cs at *;go_wp2
     go_roundw
     case rel=>
      obtain⟨h1,h2,h3⟩:=HO.out;refine⟨j+1,ω,by go_num,?_,β⟩;rw[h2,←h3];exact au (kQ (kQ (kQ h1 (j*3) (.int .i64 a)) (j*3+1) (.int .i64 ck)) (j*3+2) (.int .u64 cs)) (S:=[]) ((ae.refl _ _).alloc _) σ
     case measure=>simp[intOf];omega
    .have hb:((A.c j).i == (y:Int))=false:=by simpa using hy
     have HS2:=χ (HS.out hy);clear hy;generalize (A.c j).i=ci at *;generalize (A.c j).k=ck at *;generalize (A.c j).s=cs at *;go_wp2
     go_roundw
     case rel=>
      refine⟨j+1,ω,by go_num,?_,β⟩;rw[HS2.out];exact au HO.out.1 (S:=[]) ((ae.refl _ _).alloc _) σ
     case measure=>simp[intOf];omega
   .obtain rfl:j=n:=ω;have q0:wr.cell? (w.heap.size+1:Nat)=some (.slice none 0 0):=hu.kept t0 ζ;have q1:wr.cell? ⟨w.heap.size+1,1,none⟩=some (.slice none 0 0):=hu.kept t1 ζ;have q2:=hu.ay t0 ζ t2;have q3:=hu.ay t1 ζ t3;have b1:=au B1.out hu (λk I=>by cases I;simp;omega);have hjn:qc (jL A.cs a y j)=qc (A.cs.map (jc a y)):=by rw[←Z.out.1,Yl]
    rw[hjn] at B;have hwr:ae [] w wr:=hw4.joined hu (λz U=>Β (by simp at U;omega));have HQ:=χ (ψ B b1);clear B b1 hjn t0 t1 t2 t3;go_wp2;obtain⟨hfin,huf⟩:=VE (m:=m) (n:=j) (g1:=s) (mK:=ug) (g2:=t) (cap2:=d) (hs:=A.hs.set y false) (cs:=A.cs.map (jc a y)) H.out HF.out (by rw[Ι];exact Z.out.2) (by rw[ϐ];exact Z.out.1) HQ.out.2 HQ.out.1 hwr ⟨ω,ω⟩ ⟨ω,ω⟩;exact bodyPost_ret (v:=.tuple #[.agg #[.slice (some (s:Nat)) m ug,.slice (some (t:Nat)) j d],true]) (by simp[results,results83,go_sem,q0,q1]) rfl
     ⟨_,rfl,⟨s,0,ug,t,0,d,by unfold ic;simp only[Ι,ϐ,Z.out.1,Z.out.2],hfin⟩,huf⟩
 .have q:fQ A a b=false:=by simpa using hp
  rw[q];have FI2:=χ (FI.out q);have I:aW A a=false\/(aW A a=true/\aW A b=false)\/(aW A a=true/\aW A b=true/\a=b):=by
   unfold fQ at q;cases f:aW A a
   .exact Α rfl
   .cases e2:aW A b
    .exact Β (Α ⟨rfl,rfl⟩)
    .rw[f,e2] at q;exact Β (Β ⟨rfl,rfl,by simpa using q⟩)
  clear h ok FI hp q hn hm hF Y;rcases I with f|⟨f,e2⟩|⟨f,e2,e3⟩
  .rw[f] at X;clear f k2
   go_enter func83,ntmps83
   go_wp2_with ((((with_reducible refine(X _ β).mono ?_));rintro e P ⟨rfl,c⟩;(have v1:ae [] w P:=ae.trans β c);obtain⟨q0,q1,q4,q5,q6,q7⟩:=R.out P c))
   exact bodyPost_ret (v:=.tuple #[.agg #[.slice (some ⟨J,L,none⟩) m M,.slice (some ⟨K,N,none⟩) n O],false]) (by simp[results,results83,go_sem,q4,q5]) rfl
    ⟨_,rfl,FI2.out _ β,β⟩
  all_goals
   rw[f] at X;rw[e2] at k2
   try(subst e3)
   clear f e2
   go_enter func83,ntmps83
   go_wp2_with fail
   refine(X _ β).mono ?_;rintro e P ⟨rfl,c⟩;have v1:ae [] w P:=ae.trans β c;obtain⟨q0,q1,_⟩:=R.out P c
   go_wp2_with fail
   refine(k2 _ v1).mono ?_;rintro e r ⟨rfl,C⟩;have v2:ae [] w r:=ae.trans v1 C;obtain⟨p0,p1,q4,q5,p4,p5⟩:=R.out r (c.trans C);go_wp2;exact bodyPost_ret (v:=.tuple #[.agg #[.slice (some ⟨J,L,none⟩) m M,.slice (some ⟨K,N,none⟩) n O],false]) (by simp[results,results83,go_sem,q4,q5]) rfl
    ⟨_,rfl,FI2.out _ β,β⟩
end
def l8(A:NS):Nat->Nat
 |0=>0
 |i+1=>l8 A i+cZ A (i:Int)
def M9{α}(l:List α)(d:α):(List.range l.length).map (λx=>l.getD x d)=l:=by
 apply List.ext_getElem
 .simp
 .intro i b a;simp[φ,ε a]
def Oe{α}(l:List α)(p:α->Bool)(d:α):(l.filter p).length=((List.range l.length).filter (λx=>p (l.getD x d))).length:=by
 conv=>lhs;rw[←M9 l d]
 rw[List.filter_map,ϐ]
 rfl
def Sr(c:Cl)(cs:List Cl)(h:Int):qO (c::cs) h=(if c.i=h/\0<h then 1 else 0)+qO cs h:=by
 unfold qO;rw[List.filter_cons]
 by_cases e:c.i=h/\0<h
 .rw[Δ e,Δ (by grind)];simp;omega
 .rw[Γ e,Γ (by simpa using e)];omega
def DC(cs:List Cl):Nat->Nat
 |0=>0
 |i+1=>DC cs i+qO cs (i:Int)
def Pt(A:NS)(i:Nat):l8 A i=DC A.cs i:=by
 induction i with
 |zero=>rfl
 |succ i a=>unfold l8 DC;rw[a];rfl
def Uc(i:Nat):DC [] i=0:=by
 induction i with
 |zero=>rfl
 |succ i a=>unfold DC;rw[a];rfl
def Sn(c:Cl)(cs:List Cl)(i:Nat):DC (c::cs) i=(if 0<c.i/\c.i<i then 1 else 0)+DC cs i:=by
 induction i with
 |zero=>unfold DC;rw[Γ ω]
 |succ i d=>
  unfold DC;rw[d,Sr]
  by_cases a:c.i=(i:Int)/\0<(i:Int)
  .rw[Δ a,Γ ω,Δ ω];omega
  .rw[Γ a]
   by_cases b:0<c.i/\c.i<(i:Int)
   .rw[Δ b,Δ ω];omega
   .rw[Γ b,Γ ω];omega
def TK(cs:List Cl)(n:Nat)(h:∀c,c∈cs->c.i<(n:Int)):DC cs n=(cs.filter (λc=>decide (0<c.i))).length:=by
 induction cs with
 |nil=>rw[Uc];rfl
 |cons c cs d=>
  rw[Sn,d (λx a=>h x (Λ _ a)),List.filter_cons];have:=h c List.mem_cons_self
  by_cases b:0<c.i
  .rw[Δ ⟨b,this⟩,Δ (by grind),Ω];omega
  .rw[Γ ω,Γ (by grind)];omega
def Zc{S:St}(f:S.Ok):l8 S.A S.A.hs.length=S.R.cnt:=by
 rw[Pt,TK _ _ (λc h=>?_)]
 .unfold AR.cnt GV;rw[Oe S.A.cs _ Cl.z,Oe S.R.sl _ (0,false),f.2.2.1]
  congr 1
  apply List.filter_congr;intro x b;have b:x<S.A.cs.length:=List.mem_range.1 b;have:=f.2.2.2 x;have d:=aj S.A x;unfold AR.v at this;rw[this];unfold NS.c at d
  by_cases a:0<(S.A.cs.getD x Cl.z).i
  .rw[d.2 ⟨b,a⟩];simpa using a
  .rw[Bool.eq_false_iff.2 (λe=>a (d.1 e).2)];simpa using a
 .obtain⟨i,g,rfl⟩:=List.getElem_of_mem h;have:=(f.1.nat i g).2;unfold NS.c at this;rwa[φ,ε g] at this
def Sw(A:NS)(i j:Nat)(h:i<=j):l8 A i<=l8 A j:=by
 induction h with
 |refl=>exact Θ _
 |step _ a=>exact Χ a (Nat.le_add_right _ _)
