/-
  Lemmas for PqAlike: OpA, RPa, RLf, RSk, RBn, RFb, HdO, RaP, RefN3, ActQ. Conditions: those of each lemma.
-/
import Derived.Deep.Slices
import Derived.Deep.Strs
import Derived.Lib.SmallJoins
import Derived.Test.YtnpdakpagnpanaaGreatC06
import Derived.Test.YtnpdakpagnpanaaGreatC07
import Derived.Test.YtnpdakpagnpanaaGreatC09
import Derived.Test.YtnpdakpagnpanaaGreatC11
import Derived.Test.YtnpdakpagnpanaaGreatC12
import Derived.Test.YtnpdakpagnpanaaGreatC13
set_option linter.all false
set_option maxHeartbeats 8000000
set_option maxRecDepth 10000
namespace Go.Proofs.YtnpdakpagnpanaaGreat
open Tryz
open Go Go.RowKit
theorem Lu(kd d:Int)(n:Nat)(hc:sG kd d=0)(h8:kd≠8)(hn:n<=65536):∃K:NestQ,o9 K kd d n:=by
 have h1:=EK hc
 by_cases hk:kd=1\/kd=2
 ·obtain⟨m,hm⟩:∃m:Nat,arity kd d=(m:Int):=by
   refine⟨(arity kd d).toNat,?_⟩;unfold arity;rcases hk with e|e
   ·rw[Δ e];rfl
   ·rw[Γ ω];have:=h1.2.2.1 e;omega
  exact⟨_,JL kd d n m hc hk hm hn⟩
 ·have hd:d=0:=h1.2.2.2 ω;subst hd;have h7:kd=3\/kd=4\/kd=5\/kd=6\/kd=7:=ω;rcases h7 with rfl|rfl|rfl|rfl|rfl
  ·exact⟨_,Jf n hn⟩
  ·exact⟨_,Im n hn⟩
  ·exact⟨_,GM n hn⟩
  ·exact⟨_,Jc n hn⟩
  ·exact⟨_,Il n hn⟩
theorem Ia:VI 130 "Len" 126:=by intro p c W h;unfold method;obtain⟨m,h1,h2,h3,h4⟩:=wC Tryz.t130.methods "Len" [⟨188,0,true⟩] 126 (by kernel_rfl);exact vZ
theorem Gg:VI 130 "Home" 124:=by intro p c W h;unfold method;obtain⟨m,h1,h2,h3,h4⟩:=wC Tryz.t130.methods "Home" [⟨188,0,true⟩] 124 (by kernel_rfl);exact vZ
theorem MB:MI 130 "Delete" 198:=λ_ _=>by kernel_rfl
theorem RB:MI 130 "Meld" 202:=λ_ _=>by kernel_rfl
def Wh:jZ where
 toNestQ:=xh
 delete:=λ{w p F A} y hin h=>by
  obtain⟨B,F1,gt,ct,st,tr,rfl,rfl,hL⟩:=h;refine aJ 198 (λ_ _=>by kernel_rfl) (MB _) (λW hW=>?_);have jG:=hL.ag hW;have hx:y∈(tr (A.c y).i.toNat).nodes:=by
   obtain⟨S,ai,hM,hI, -⟩:=jG;have:=(aj _ _).1 hin;exact(hI.mem _ y).2 ⟨ω,this.1,ω⟩
  refine(Er jG _ y hx).mono ?_;rintro e w' ⟨rfl,hu,st',JE,hL2⟩;exact⟨rfl,Goes.stay ⟨B,F1,gt,ct,_,_,rfl,rfl,hL2⟩ hu⟩
 Ab:=λ{w p F A} a b hB h=>by
  obtain⟨B,F1,gt,ct,st,tr,rfl,rfl,hL⟩:=h;refine aJ 202 (λ_ _=>by kernel_rfl) (RB _) (λW hW=>?_);refine(Ls (hL.ag hW) a b hB).mono ?_;rintro e w' ⟨rfl,hu,st',hL2⟩;exact⟨rfl,Goes.stay ⟨B,F1,gt,ct,_,_,rfl,rfl,hL2⟩ hu⟩
 len:=λx hx h=>by
  obtain⟨B,F1,gt,ct,st,tr,rfl,rfl,S,ai,hM, -⟩:=h;exact dQ 126 (λ_ _=>by kernel_rfl) hM.h0 (Ia _ _) (λW hW=>iT (hM.ag hW).cells x hx)
 home:=λ{w p F A} y hin h=>by
  obtain⟨B,F1,gt,ct,st,tr,rfl,rfl,S,ai,hM,hQ⟩:=h;refine dQ 124 (λ_ _=>by kernel_rfl) hM.h0 (Gg _ _) (λW hW=>?_);have jq:=hM.ag hW;refine(bV jq.cells y hin).mono ?_;rintro e w' ⟨rfl,hC,hu⟩;exact⟨rfl,Goes.stay ⟨B,F1,gt,ct,st,tr,rfl,rfl,S,ai,jq.cB hu hC (λy hy=>Α hy) rfl rfl,hQ⟩ (hu.mono (λz hz=>by simp only[PB.blk,ρ];simp[hz]))⟩
theorem Hy:VI 138 "Len" 126:=by intro p c W h;unfold method;obtain⟨m,h1,h2,h3,h4⟩:=wC Tryz.t138.methods "Len" [⟨204,0,true⟩] 126 (by kernel_rfl);exact vZ
theorem EP:VI 138 "Home" 124:=by intro p c W h;unfold method;obtain⟨m,h1,h2,h3,h4⟩:=wC Tryz.t138.methods "Home" [⟨204,0,true⟩] 124 (by kernel_rfl);exact vZ
theorem J5:MI 138 "Delete" 228:=λ_ _=>by kernel_rfl
theorem R8:MI 138 "Meld" 232:=λ_ _=>by kernel_rfl
def Wj:jZ where
 toNestQ:=xw
 delete:=λ{w p F A} y hin h=>by
  obtain⟨B,F1,gt,ct,st,tr,rfl,rfl,hL⟩:=h;refine aJ 228 (λ_ _=>by kernel_rfl) (J5 _) (λW hW=>?_);have jG:=hL.ag hW;have hx:y∈(tr (A.c y).i.toNat).nodes:=by
   obtain⟨S,rk,ai,hM,hI, -⟩:=jG;have:=(aj _ _).1 hin;exact(hI.mem _ y).2 ⟨ω,this.1,ω⟩
  refine(zq jG _ y hx).mono ?_;rintro e w' ⟨rfl,hu,hL2⟩;exact⟨rfl,Goes.stay ⟨B,F1,gt,ct,_,_,rfl,rfl,hL2⟩ hu⟩
 Ab:=λ{w p F A} a b hB h=>by
  obtain⟨B,F1,gt,ct,st,tr,rfl,rfl,hL⟩:=h;refine aJ 232 (λ_ _=>by kernel_rfl) (R8 _) (λW hW=>?_);refine(Oh (hL.ag hW) a b hB).mono ?_;rintro e w' ⟨rfl,hu,hL2⟩;exact⟨rfl,Goes.stay ⟨B,F1,gt,ct,_,_,rfl,rfl,hL2⟩ hu⟩
 len:=λx hx h=>by
  obtain⟨B,F1,gt,ct,st,tr,rfl,rfl,S,rk,ai,hM, -⟩:=h;exact dQ 126 (λ_ _=>by kernel_rfl) hM.h0 (Hy _ _) (λW hW=>iT (hM.ag hW).cells x hx)
 home:=λ{w p F A} y hin h=>by
  obtain⟨B,F1,gt,ct,st,tr,rfl,rfl,S,rk,ai,hM,hQ⟩:=h;refine dQ 124 (λ_ _=>by kernel_rfl) hM.h0 (EP _ _) (λW hW=>?_);have jq:=hM.ag hW;refine(bV jq.cells y hin).mono ?_;rintro e w' ⟨rfl,hC,hu⟩;exact⟨rfl,Goes.stay ⟨B,F1,gt,ct,st,tr,rfl,rfl,S,rk,ai,jq.cB hu hC (λy hy=>Α hy) rfl rfl,hQ⟩ (hu.mono (λz hz=>by simp only[LB.blk,ρ];simp[hz]))⟩
theorem JD:VI 142 "Len" 126:=by intro p c W h;unfold method;obtain⟨m,h1,h2,h3,h4⟩:=wC Tryz.t142.methods "Len" [⟨207,0,true⟩] 126 (by kernel_rfl);exact vZ
theorem EM:VI 142 "Home" 124:=by intro p c W h;unfold method;obtain⟨m,h1,h2,h3,h4⟩:=wC Tryz.t142.methods "Home" [⟨207,0,true⟩] 124 (by kernel_rfl);exact vZ
theorem Mk:MI 142 "Delete" 251:=λ_ _=>by kernel_rfl
theorem Uv:MI 142 "Meld" 254:=λ_ _=>by kernel_rfl
def VW:jZ where
 toNestQ:=wV
 delete:=λ{w p F A} y hin h=>by
  obtain⟨B,F1,st,tr,rfl,rfl,hL⟩:=h;refine aJ 251 (λ_ _=>by kernel_rfl) (Mk _) (λW hW=>?_);have jG:=hL.ag hW;have hx:y∈(tr (A.c y).i.toNat).nodes:=by
   obtain⟨S,hM,hI⟩:=jG;have:=(aj _ _).1 hin;exact(hI.mem _ y).2 ⟨ω,this.1,ω⟩
  refine(zh jG _ y hx).mono ?_;rintro e w' ⟨rfl,hu,hL2⟩;exact⟨rfl,Goes.stay ⟨B,F1,_,_,rfl,rfl,hL2⟩ hu⟩
 Ab:=λ{w p F A} a b hB h=>by
  obtain⟨B,F1,st,tr,rfl,rfl,hL⟩:=h;refine aJ 254 (λ_ _=>by kernel_rfl) (Uv _) (λW hW=>?_);refine(Ps (hL.ag hW) a b hB).mono ?_;rintro e w' ⟨rfl,hu,hL2⟩;exact⟨rfl,Goes.stay ⟨B,F1,_,_,rfl,rfl,hL2⟩ hu⟩
 len:=λx hx h=>by
  obtain⟨B,F1,st,tr,rfl,rfl,S,hM, -⟩:=h;exact dQ 126 (λ_ _=>by kernel_rfl) hM.h0 (JD _ _) (λW hW=>iT (hM.ag hW).cells x hx)
 home:=λ{w p F A} y hin h=>by
  obtain⟨B,F1,st,tr,rfl,rfl,S,hM,hQ⟩:=h;refine dQ 124 (λ_ _=>by kernel_rfl) hM.h0 (EM _ _) (λW hW=>?_);have jq:=hM.ag hW;refine(bV jq.cells y hin).mono ?_;rintro e w' ⟨rfl,hC,hu⟩;exact⟨rfl,Goes.stay ⟨B,F1,st,tr,rfl,rfl,S,jq.cB hu hC (λy hy=>Α hy) rfl,hQ⟩ (hu.mono (λz hz=>by simp only[SB.blk,ρ];simp[hz]))⟩
theorem GD:VI 126 "Len" 126:=by intro p c W h;unfold method;obtain⟨m,h1,h2,h3,h4⟩:=wC Tryz.t126.methods "Len" [⟨185,0,true⟩] 126 (by kernel_rfl);exact vZ
theorem Fg:VI 126 "Home" 124:=by intro p c W h;unfold method;obtain⟨m,h1,h2,h3,h4⟩:=wC Tryz.t126.methods "Home" [⟨185,0,true⟩] 124 (by kernel_rfl);exact vZ
theorem Li:MI 126 "Delete" 166:=λ_ _=>by kernel_rfl
theorem Rn:MI 126 "Meld" 170:=λ_ _=>by kernel_rfl
noncomputable def Xb:jZ where
 toNestQ:=xS
 delete:=λ{w p F A} y hin h=>by
  obtain⟨st,G,hL⟩:=h;refine aJ 166 (λ_ _=>by kernel_rfl) (Li _) (λW hW=>?_);refine(Rm (ug hL hW σ) y hin).mono ?_;rintro e w' ⟨rfl,F',hL2,hu,hf⟩;exact⟨rfl,F',⟨_,_,hL2⟩,hu,hf⟩
 Ab:=λ{w p F A} a b hB h=>by
  obtain⟨st,G,hL⟩:=h;refine aJ 170 (λ_ _=>by kernel_rfl) (Rn _) (λW hW=>?_);refine(Pm (ug hL hW σ) a b hB).mono ?_;rintro e w' ⟨rfl,F',hL2,hu,hf⟩;exact⟨rfl,F',⟨_,_,hL2⟩,hu,hf⟩
 len:=λx hx h=>by
  obtain⟨st,G,hL⟩:=h;obtain⟨c,F1,h0,hC⟩:=Nv hL;exact dQ 126 (λ_ _=>by kernel_rfl) h0 (GD _ _) (λW hW=>iT (hC.ag hW) x hx)
 home:=λ{w p F A} y hin h=>by
  obtain⟨st,G,⟨B,F1,gr,cr,lo,S1,vs,rfl,rfl,M,eF⟩,I⟩:=h;refine dQ 124 (λ_ _=>by kernel_rfl) M.h0 (Fg _ _) (λW hW=>?_);have jq:=M.ag hW;refine(bV jq.cells y hin).mono ?_;rintro e w' ⟨rfl,hC,hu⟩;exact⟨rfl,Goes.stay ⟨st,G,⟨B,F1,gr,cr,lo,S1,vs,rfl,rfl,jq.cB hu hC (λy hy=>Α hy) rfl rfl,eF⟩,I⟩ (hu.mono tF)⟩
theorem JI:VI 134 "Len" 126:=by intro p c W h;unfold method;obtain⟨m,h1,h2,h3,h4⟩:=wC Tryz.t134.methods "Len" [⟨196,0,true⟩] 126 (by kernel_rfl);exact vZ
theorem FP:VI 134 "Home" 124:=by intro p c W h;unfold method;obtain⟨m,h1,h2,h3,h4⟩:=wC Tryz.t134.methods "Home" [⟨196,0,true⟩] 124 (by kernel_rfl);exact vZ
theorem Ka:MI 134 "Delete" 209:=λ_ _=>by kernel_rfl
theorem TQ:MI 134 "Meld" 213:=λ_ _=>by kernel_rfl
noncomputable def VQ:jZ where
 toNestQ:=wU
 delete:=λ{w p F A} y hin h=>by
  obtain⟨st,G,hL⟩:=h;refine aJ 209 (λ_ _=>by kernel_rfl) (Ka _) (λW hW=>?_);refine(Ty (hL.ag hW) y hin).mono ?_;rintro e w' ⟨rfl,F',hL2,hu,hf⟩;exact⟨rfl,F',⟨_,_,hL2⟩,hu,hf⟩
 Ab:=λ{w p F A} a b hB h=>by
  obtain⟨st,G,hL⟩:=h;refine aJ 213 (λ_ _=>by kernel_rfl) (TQ _) (λW hW=>?_);refine(Px (hL.ag hW) a b hB).mono ?_;rintro e w' ⟨rfl,F',hL2,hu,hf⟩;exact⟨rfl,F',⟨_,_,hL2⟩,hu,hf⟩
 len:=λx hx h=>by
  obtain⟨st,G,hL⟩:=h;obtain⟨c,F1,h0,hC⟩:=Na hL;exact dQ 126 (λ_ _=>by kernel_rfl) h0 (JI _ _) (λW hW=>iT (hC.ag hW) x hx)
 home:=λ{w p F A} y hin h=>by
  obtain⟨st,G,⟨B,F1,gt,ct,rfl,rfl,M⟩,I⟩:=h;refine dQ 124 (λ_ _=>by kernel_rfl) M.h0 (FP _ _) (λW hW=>?_);have jq:=M.ag hW;refine(bV jq.cells y hin).mono ?_;rintro e w' ⟨rfl,hC,hu⟩;exact⟨rfl,Goes.stay ⟨st,G,⟨B,F1,gt,ct,rfl,rfl,jq.cB hu hC (λy hy=>Α hy) rfl rfl⟩,I⟩ (hu.mono gN)⟩
abbrev Hd:=Int×Int
theorem aa8:(prog.info? 46).map (λi=>(i.zero,i.size,i.bytes))=some (some (.agg #[.int .i64 0,.int .u32 0]),2,16):=by kernel_rfl
def Ci:List Hd->List Value
 | []=>[]
 |p::l=>.int .i64 p.1::.int .u32 p.2::Ci l
theorem Np:∀(l m:List Hd),Ci (l++m)=Ci l++Ci m
 | [],_=>rfl
 |p::l,m=>by simp[Ci,Np l m]
theorem NJ:∀(l:List Hd) (u:Value),u∈Ci l->u.oneCell'=true
 | [],u,h=>by cases h
 |p::l,u,h=>by
  simp only[Ci,ρ] at h;rcases h with rfl|rfl|h
  ·rfl
  ·rfl
  ·exact NJ l u h
theorem EN:∀(l:List Hd) (j:Nat) (p:Hd),l[j]?=some p->(Ci l)[j*2]?=some (.int .i64 p.1)/\(Ci l)[j*2+1]?=some (.int .u32 p.2)
 | [],j,e,h=>by simp at h
 |x::l,0,e,h=>by
  simp at h;subst h;exact⟨rfl,rfl⟩
 |x::l,j+1,e,h=>by
  have h':=EN l j e (by simpa using h);rw[show(j+1)*2=j*2+1+1 by omega];exact h'
def Dk(w:World)(F:List Nat)(v:Value)(l:List Hd):Prop:=
 ∃a cap,v=.slice a l.length cap/\l.length<=cap/\cap<=9223372036854775807/\∀(j:Nat) (p:Hd),l[j]?=some p->∃g off,a=some ⟨g,off,none⟩/\g<w.heap.size/\g∉F/\w.cell? ⟨g,off+j*2,none⟩=some (.int .i64 p.1)/\w.cell? ⟨g,off+j*2+1,none⟩=some (.int .u32 p.2)
theorem Dk.fresh{w w':World}{F F':List Nat}{v:Value}{l:List Hd}(h:Dk w F v l)(hu:ae F w w')(hF:∀g,g∈F'->g∈F\/w.heap.size<=g):Dk w' F' v l:=by
 obtain⟨a,cap,rfl,c1,c2,hc⟩:=h;refine⟨a,cap,rfl,c1,c2,λj p hj=>?_⟩;obtain⟨g,off,e,h1,hg,h2,h3⟩:=hc j p hj;exact⟨g,off,e,Ψ h1 hu.size,λhm=>by rcases hF g hm with h|h;exact hg h;omega,hu.kept h2 hg,hu.kept h3 hg⟩
theorem Dk.ag{w w':World}{F:List Nat}{v:Value}{l:List Hd}(h:Dk w F v l)(hu:ae [] w w'):Dk w' F v l:=h.fresh (hu.mono σ) (λg hg=>Α hg)
theorem Dk.iA{w:World}{base:Nat}{v:Value}{l:List Hd}{F:List Nat}(h:w.ownsRow base 46 2 v l.length (Ci l))(hF:∀k,v.ownBlock=some k->k∉F):Dk w F v l:=by
 rcases h.2 with⟨rfl,h0⟩|⟨g,cap,cur,rfl,hb,hg,hnc,hc,_⟩
 ·refine⟨none,0,by rw[h0],ω,ω,λj p hj=>?_⟩;have hjl:=(List.getElem?_eq_some_iff.1 hj).1;omega
 ·have hlt:=(h.lt g rfl).2;unfold maxLen at hc;refine⟨_,cap,rfl,hnc,ω,λj p hj=>⟨g,0,rfl,hlt,hF g rfl,?_,?_⟩⟩
  ·have hjl:=(List.getElem?_eq_some_iff.1 hj).1;rw[ϔ,h.cellAt (j*2) ω];exact(EN l j p hj).1
  ·have hjl:=(List.getElem?_eq_some_iff.1 hj).1;rw[ϔ,h.cellAt (j*2+1) ω];exact(EN l j p hj).2
theorem Dk.nil(w:World)(F:List Nat):Dk w F (.slice none 0 0) []:=⟨none,0,rfl,σ,ω,λj p hj=>by simp at hj⟩
theorem lq{ops:Array Oper}{rest:List Oper}{o:Oper}{a:Act}{w:World}{Q:Exit->Act->World->Prop}(hgd:o.guard=none)(s x:Operand)
  (ho:o.op=.call { callee:=.builtin .append,args:=#[s,x],argTypes:=#[30,30] })
  (base:Nat) (v:Value) (n:Nat) (l:List Hd) (hs:a.eval s=v) (hown:w.ownsRow base 46 2 v n (Ci l))
  (gn:Nat) (p:Hd) (hx:a.eval x=.slice (some ⟨gn,0,none⟩) 1 1) (h0:w.cell? ⟨gn,0,none⟩=some (.int .i64 p.1)) (h1:w.cell? ⟨gn,1,none⟩=some (.int .u32 p.2)) (hn:n<=1000000) (hbase:base<=w.heap.size)
  (h:∀v' w',w'.ownsRow base 46 2 v' (n+1) (Ci (l++[p]))->ae v.ownBlock.toList w w'->(v'.ownBlock=v.ownBlock\/v'.ownBlock=some w.heap.size)->wpList prog ops Q rest (a.put o.dst v') w') :
  wpList prog ops Q (o::rest) a w:=
 qD hgd s x 30 ho base 46 (.agg #[.int .i64 0,.int .u32 0]) 2 16 underlying30 aa8 rfl δ v n (Ci l) hs hown gn (Ci [p]) hx rfl
  (λj u hj=>by match j,hj with|0,hj=>(simp[Ci] at hj;subst hj;exact h0)|1,hj=>(simp[Ci] at hj;subst hj;exact h1)) (NJ _) μ ω hbase (λv' w' h1 h2 h3=>h v' w' (by rw[Np];exact h1) h2 h3)
def lastT(T:List Hd)(s:Int):Int:=T.foldl (λg p=>if p.1=s then p.2 else g) 0
def Zo(T:List Hd):Nat:=(T.filter (λp=>decide (p.2=1))).length
def okW(T:List Hd)(most:Int)(p:Hd):Bool:=decide (p.2<most) && decide (lastT T p.1=p.2)
structure RA(R:AR)(T G:List Hd):Prop where
 t:∀p,p∈T↔∃x g:Nat,p=((x:Int),(g:Int))/\1<=g/\g<=R.g x
 g:∀p,p∈G↔∃x g:Nat,p=((x:Int),(g:Int))/\1<=g/\g<=R.g x/\¬(R.v x=true/\R.g x=g)
 la:∀x:Nat,lastT T x=R.g x
 fr:Zo T=R.next
 nx:∀x,x<R.next->1<=R.g x
 wt:(G.filter (okW T R.most)).map (·.1)=R.wait.map (λx:Nat=>(x:Int))
 cnt:T.length=G.length+R.cnt
theorem Z9(n m:Nat):RA (AR.new n m) [] []:=by
 have e:∀x,(AR.new n m).g x=0:=λx=>by
  unfold AR.new AR.g;simp only[φ,List.getElem?_replicate]
  split<;>rfl
 refine⟨λp=>⟨λh=>(by cases h),?_⟩,λp=>⟨λh=>(by cases h),?_⟩,λx=>by rw[e];rfl,rfl,λx h=>absurd h (Nat.not_lt_zero _),rfl,by rw[AR.E8];rfl⟩
 ·rintro⟨x,g,rfl,h1,h2⟩;rw[e] at h2;omega
 ·rintro⟨x,g,rfl,h1,h2,_⟩;rw[e] at h2;omega
theorem Bu.less{w:World}{F G:List Nat}{gh oh ch gc oc cc:Nat}{A:NS}(h:Bu w F gh oh ch gc oc cc A)(hG:∀x,x∈G->x∈F):Bu w G gh oh ch gc oc cc A:=
 ⟨h.hcap,h.Ze,h.lt,⟨λm=>h.far.1 (hG _ m),λm=>h.far.2 (hG _ m)⟩,h.h,h.c0,h.c1,h.c2⟩
def Sc(w:World)(b o:Nat)(a:Ac):Prop:=
 w.cell? ⟨b,o,none⟩=some (.int .i64 a.op)/\w.cell? ⟨b,o+1,none⟩=some (.int .i64 a.a)/\w.cell? ⟨b,o+2,none⟩=some (.int .i64 a.b)/\w.cell? ⟨b,o+3,none⟩=some (.int .i64 a.s)/\w.cell? ⟨b,o+4,none⟩=some (.int .u32 a.g)/\w.cell? ⟨b,o+5,none⟩=some (.int .u8 a.o)/\w.cell? ⟨b,o+6,none⟩=some (.int .i64 a.k)
theorem Sc.kept{w w':World}{S:List Nat}{b o:Nat}{a:Ac}(h:Sc w b o a)(hu:ae S w w')(hb:b∉S):Sc w' b o a:=
 ⟨hu.kept h.1 hb,hu.kept h.2.1 hb,hu.kept h.2.2.1 hb,hu.kept h.2.2.2.1 hb,hu.kept h.2.2.2.2.1 hb,hu.kept h.2.2.2.2.2.1 hb,hu.kept h.2.2.2.2.2.2 hb⟩
def AQ(w:World)(v:Value)(len:Nat)(f:Nat->Ac):Prop:=
 ∃a cap,v=.slice a len cap/\len<=maxLen/\(∀j,j<len->(f j).Ok)/\∀j,j<len->∃b off,a=some ⟨b,off,none⟩/\b<w.heap.size/\Sc w b (off+j*7) (f j)
theorem X6{n:Int}(h:(Lit.int .i64 n).wf=true):vH n:=by
 unfold vH;simp[Lit.wf,IntKind.min,IntKind.max,IntKind.signed,IntKind.bits] at h;omega
theorem u32q{n:Int}(h:(Lit.int .u32 n).wf=true):0<=n/\n<=4294967295:=by
 simp[Lit.wf,IntKind.min,IntKind.max,IntKind.signed,IntKind.bits] at h;omega
theorem u8q{n:Int}(h:(Lit.int .u8 n).wf=true):0<=n/\n<=255:=by
 simp[Lit.wf,IntKind.min,IntKind.max,IntKind.signed,IntKind.bits] at h;omega
set_option maxRecDepth 100000 in
open Go.ChangeShapes Go.ChangeAt Go.WideShapes in
theorem pR{H:Type}{enc:TypeId×Value->H}{W:World}{v:Value}{d:DataW H}{pl:List MemPlace}{base:Nat}{sp:Nat->Bool}
  (ho:Value.okWide prog W .any base 59 v) (h:DataW.Trod enc prog W 0 sp true 59 v d pl):∃len f,AQ W v len f:=by
 obtain⟨a,len,cap,rfl⟩:=okWide_slice underlying59 ho;obtain⟨fuel,hf⟩:=h;rcases Go.Deep.open_slice underlying59 hf with⟨hcs,_⟩|⟨y,l,c,m,n,D,Pl,hcs,_,hl,hm,hmm,_,hx⟩
 ·simp[Value.cells] at hcs;obtain⟨rfl,rfl,rfl⟩:=hcs;exact⟨0,λ_=>⟨0,0,0,0,0,0,0⟩,none,0,rfl,σ,λj hj=>ω,λj h=>ω⟩
 ·simp[Value.cells] at hcs;obtain⟨rfl,rfl,rfl⟩:=hcs;have hlm:len<=m:=by rw[hmm];split<;>omega
  have hc5:prog.cellsOf 64=7:=by kernel_rfl
  rw[hc5] at hx;have key:∀i,∃q:Ac,i<len->q.Ok/\W.cell? (y.add (i*7))=some (.int .i64 q.op)/\W.cell? (y.add (i*7+1))=some (.int .i64 q.a)/\W.cell? (y.add (i*7+2))=some (.int .i64 q.b)/\W.cell? (y.add (i*7+3))=some (.int .i64 q.s)/\W.cell? (y.add (i*7+4))=some (.int .u32 q.g)/\W.cell? (y.add (i*7+5))=some (.int .u8 q.o)/\W.cell? (y.add (i*7+6))=some (.int .i64 q.k):=λi=>by
   by_cases hi:i<len
   ·obtain⟨cs,h1,h2⟩:=hx i ω;obtain⟨_,hlen,hcell⟩:=World.cells?_some h1;obtain⟨xs,n',_,_,_,hlx,PL⟩:=DataW.trod_struct underlying64 h2
    match cs,hlen with
    | [c0,c1,c2,c3,c4,c5,c6],_=>
     have f0:=PL 0 _ rfl;have f1:=PL 1 _ rfl;have f2:=PL 2 _ rfl;have f3:=PL 3 _ rfl;have f4:=PL 4 _ rfl;have f5:=PL 5 _ rfl
     match xs,hlx with
     | [x0,x1,x2,x3,x4,x5],_=>
      obtain⟨op,e0,_,w0⟩:=DataW.trod_int underlying3 f0;obtain⟨aa,e1,_,w1⟩:=DataW.trod_int underlying3 f1;obtain⟨bb,e2,_,w2⟩:=DataW.trod_int underlying3 f2;obtain⟨ys,n2,_,_,_,hly,hfe⟩:=DataW.trod_struct underlying46 f3;have f6:=hfe 0 _ rfl;have f7:=hfe 1 _ rfl
      match ys,hly with
      | [y0,y1],_=>
       obtain⟨ss,e3,_,w3⟩:=DataW.trod_int underlying3 f6;obtain⟨gg,e4,_,w4⟩:=DataW.trod_int underlying24 f7;obtain⟨oo,e5,_,w5⟩:=DataW.trod_int underlying5 f4;obtain⟨kk,e6,_,w6⟩:=DataW.trod_int underlying2 f5;have g0:=hcell 0 ω;have g1:=hcell 1 ω;have g2:=hcell 2 ω;have g3:=hcell 3 ω;have g4:=hcell 4 ω;have g5:=hcell 5 ω;have g6:=hcell 6 ω;rw[Go.Deep.add_add] at g0 g1 g2 g3 g4 g5 g6;have t1:prog.cellsOf 3=1:=by kernel_rfl
       have t2:prog.cellsOf 2=1:=by kernel_rfl
       have t3:prog.cellsOf 24=1:=by kernel_rfl
       have t4:prog.cellsOf 46=2:=by kernel_rfl
       have t5:prog.cellsOf 5=1:=by kernel_rfl
       simp[t1,t2,t3,t4,t5] at e0 e1 e2 e3 e4 e5 e6;subst e0 e1 e2 e3 e4 e5 e6;exact⟨⟨op,aa,bb,ss,gg,oo,kk⟩,λ_=>⟨⟨X6 w1,X6 w2,X6 w3,X6 w6,u32q w4,u8q w5⟩,by simpa using g0,by simpa using g1,by simpa using g2,by simpa using g3,by simpa using g4,by simpa using g5,by simpa using g6⟩⟩
   ·exact⟨⟨0,0,0,0,0,0,0⟩,λh=>absurd h hi⟩
  obtain⟨q,hq⟩:=Classical.axiomOfChoice key;refine⟨len,q,some y,cap,rfl,ω,λj hj=>(hq j hj).1,λj hj=>?_⟩;obtain⟨b,off,spot⟩:=y;have hspot:spot=none:=by have:=World.cell?_spot (hq 0 ω).2.1;simpa[Addr.add] using this
  subst hspot;refine⟨b,off,rfl,?_,?_⟩
  ·have:=Ε W _ (hq j hj).2.1;rw[Go.WideShapes.add_plain] at this;exact this
  ·have:=(hq j hj).2;unfold Sc;simpa only[Go.WideShapes.add_plain,Nat.add_assoc] using this
theorem Zb{α:Type}(l:List α)(h:l.length=4):∃a b c d,l=[a,b,c,d]:=by
 match l,h with
 | [a,b,c,d],_=>exact⟨a,b,c,d,rfl⟩
set_option maxRecDepth 100000 in
open Go.ChangeShapes Go.ChangeAt Go.WideShapes Go.Joins Go.Deep in
theorem pV{H:Type}{enc:TypeId×Value->H}{W:World}{v:Value}{d:DataW H}{pl:List MemPlace}{base:Nat}{sp:Nat->Bool}
  (ho:Value.okWide prog W .any base 58 v) (h:DataW.Trod enc prog W 0 sp true 58 v d pl):∃kd dd n m:Int,v=.agg #[.int .i64 kd,.int .i64 dd,.int .u8 n,.int .u32 m]/\(0<=n/\n<=255)/\(0<=m/\m<=4294967295):=by
 obtain⟨cs,rfl,hsz⟩:=okWide_struct underlying58 ho;have hc4:prog.cellsOf 58=4:=by kernel_rfl
 have hc2:prog.cellsOf 23=2:=by kernel_rfl
 have t1:prog.cellsOf 3=1:=by kernel_rfl
 have t3:prog.cellsOf 24=1:=by kernel_rfl
 have t5:prog.cellsOf 5=1:=by kernel_rfl
 rw[hc4] at hsz;obtain⟨l⟩:=cs;obtain⟨c0,c1,c2,c3,rfl⟩:=Zb l hsz;obtain⟨fuel,hf⟩:=h;obtain⟨y0,y1,y2,n,hx,_,h0,h1,h2⟩:=trod_struct3 underlying58 hf;rw[hc2] at h0;rw[t5] at h1;rw[t3] at h2;obtain⟨z0,z1,n',hx',_,k0,k1⟩:=trod_struct2 underlying23 (show DataW.trod enc prog W 0 sp true n 23 [c0,c1]=some y0 from h0);rw[t1] at k0 k1;obtain⟨a,e0,_,_⟩:=DataW.trod_int underlying3 (show DataW.trod enc prog W 0 sp true n' 3 [c0]=some z0 from k0);obtain⟨b,e1,_,_⟩:=DataW.trod_int underlying3 (show DataW.trod enc prog W 0 sp true n' 3 [c1]=some z1 from k1)
 obtain⟨cc,e2,_,w2⟩:=DataW.trod_int underlying5 (show DataW.trod enc prog W 0 sp true n 5 [c2]=some y1 from h1);obtain⟨m,e3,_,w3⟩:=DataW.trod_int underlying24 (show DataW.trod enc prog W 0 sp true n 24 [c3]=some y2 from h2);simp at e0 e1 e2 e3;subst e0 e1 e2 e3;exact⟨a,b,cc,m,rfl,u8q w2,u32q w3⟩
end Go.Proofs.YtnpdakpagnpanaaGreat
