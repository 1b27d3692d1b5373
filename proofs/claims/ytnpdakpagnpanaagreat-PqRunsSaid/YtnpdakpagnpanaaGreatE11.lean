/-
  Lemmas.
-/
import Derived.Test.YtnpdakpagnpanaaGreatE04
import Derived.Test.YtnpdakpagnpanaaGreatE10
set_option linter.all false
set_option maxHeartbeats 8000000
set_option maxRecDepth 10000
namespace Go.Proofs.YtnpdakpagnpanaaGreat
open Tryz
open Go Go.RowKit
def Yi:(prog.info? 77).map (λi=>(i.zero,i.size,i.bytes))=some (some (.slice none 0 0),1,24):=by kernel_rfl
def aaX{A:NS}{G:BG}(I:CZ A G)(c:A.Ok):G.R A.hs.length=[]:=by
 cases e:G.R A.hs.length with
 |nil=>rfl
 |cons x t=>
  have b:x∈G.R A.hs.length:=by rw[e];simp
  obtain⟨y,_,a,_,d,_⟩:=Xl I b;have:=c.nat y a;omega
def EX(vs:List Value)(v:Value)(k:Nat):(vs++[v]).getD k undef=if k<vs.length then vs.getD k undef else if k=vs.length then v else undef:=by
 grind
section
variable{w:World}{p:Nat}{FF:List Nat}{A:NS}{st:Nat}{G:BG}
def Rx(h:FC w p FF A st G):
  Calls prog 169 #[(p:Nat)] w λe w'=>e=.returned (dF A:Int)/\Goes FF w w' (λCr=>FC w' p Cr (aO A) st G):=by
 obtain⟨⟨B,F,gr,cr,lo,S,vs,rfl,rfl,M,O⟩,I⟩:=h;have k:=jg M.cells;have h0:=M.h0;have W:=Yq I
 by_cases Q:65536<A.hs.length
 .have C:dF A=0:=by unfold dF;rw[Δ Q]
  have K:aO A=A:=by unfold aO;rw[Δ Q]
  rw[C,K] at k;rw[C,K];have m:=χ M;have x:=χ (ψ I O);clear M I O C K W
  go_enter func169,ntmps169
  go_wp2_with (((with_reducible refine k.mono ?_));rintro e R ⟨rfl,v,L,l,T⟩)
  go_ret;refine⟨rfl,B.blk v gr A.cs.length S vs,⟨⟨B,v,gr,cr,lo,S,vs,rfl,rfl,m.out.cK l L T rfl rfl,x.out.2⟩,x.out.1⟩,l.mono uQ,λy c=>?_⟩;simp only[BB.blk,ρ,τ] at c ⊢
  grind
 .have C:dF A=A.hs.length:=by unfold dF;rw[Γ Q]
  rw[C] at k;rw[C];have s:(aO A).cs.length=A.cs.length:=by rw[OW]
  have jw:(aO A).hs.length=A.hs.length+1:=by unfold aO;rw[Γ Q];simp
  have hh0:=M.cells.ok.h0;have hvl:vs.length<=65536:=by rw[M.len];omega
  have z:=M.len;have m:=χ M;have x:=χ (ψ W (ψ O (ψ (aaX I M.cells.ok) z)));clear M I C W O z
  go_enter func169,ntmps169
  go_wp2_with (first
   |(((with_reducible refine k.mono ?_));rintro e R ⟨rfl,v,L,l,T⟩;(have d3:=l.kept m.out.h2 m.out.d1.1);(have f3:=l.ay m.out.h2 m.out.d1.1 (m.out.head.free 2));(have X:=au m.out.rows l (λg a=>by simp[Value.ownBlock] at a;subst a;exact m.out.d1.2.2.2));(have g0:B.n0≠gr:=m.out.d2.2.2.1);(have gl:=Ψ m.out.Jj l.size))
   | ((at_builtin;refine bD rfl _ _ 183 rfl 0 77 (.slice none 0 0) 1 24 underlying183 Yi rfl δ _ _ _ rfl (X) [.slice none 0 0] rfl (by simp [Value.oneCell']) (by first|rfl|(rw [Κ];rfl)) μ ω ω ?_;intro v2 N J b oq);(have b:ae [gr] R N:=b);obtain ⟨n,o,ev,_⟩:=fU J ω;subst ev;(have d4:=b.kept d3 ζ);(have f4:=b.ay d3 ζ f3)))
  go_ret;have d:=m.out;have D:=d.lt;have f:=d.d1;have q:=d.d2;have hws:=l.size;have t:ae [B.n0] N (N.setCell ⟨B.n0,2,none⟩ (.slice (some (n:Nat)) (vs.length+1) o)):=β;have hg1:n=gr\/R.heap.size<n:=by
   rcases oq with h|h
   .exact Α (Option.some.inj h)
   .exact Β (h n rfl)
  have gK:=L.lt;have Y:=D B.n0 (by simp[BB.blk]);have l1:=D B.bt (by simp[BB.blk]);have l2:=D B.ba (by simp[BB.blk]);have l4:=d.Jj;have u:∀y,y<w.heap.size->y∉F->y∉v:=λy c hn i=>by rcases T y i with h'|h';exact hn h';omega
  have xm:n∉v:=by
   grind
  have E:∀y,y<w.heap.size->y≠gr->y≠n:=λy c hn e=>by
   grind
  have s:=s;have H:(vs++[Value.slice none 0 0]).length=vs.length+1:=σ;have Z:=x.out.2.2.1;have hhd:=((d.head.upd l f.1).upd b ζ).set 2 (.slice (some (n:Nat)) (vs.length+1) o);have P:∀j,j<vs.length+1->∀g,((vs++[Value.slice none 0 0]).getD j undef).ownBlock=some g->j<vs.length/\(vs.getD j undef).ownBlock=some g:=λj r g a=>by
   rw[EX] at a
   by_cases e:j<vs.length
   .grind
   .rw[Γ e,Δ ω] at a;cases a
  have hBM:iZ (N.setCell ⟨B.n0,2,none⟩ (.slice (some (n:Nat)) (vs.length+1) o)) B v n o lo (aO A) st S (vs++[.slice none 0 0]) G.R:=by
   refine⟨?_,?_,?_,?_,by rw[H,jw,x.out.2.2.2],λj r=>?_,⟨u _ Y f.1,u _ l1 f.2.1,u _ l2 f.2.2.1,xm⟩,⟨q.1,q.2.1,E _ Y q.2.2.1,E _ l1 q.2.2.2.1,E _ l2 q.2.2.2.2⟩,λg a=>?_,λj g r a=>?_,λj k g r hk hne a=>?_⟩
   .grind
   .exact(L.upd b (λy c=>by simp at c;rw[c];exact u gr l4 f.2.2.2)).upd t (λy c=>by simp at c;rw[c];exact u _ Y f.1)
   .rw[s];exact((d.jG.upd l f.2.1 f.2.2.1 (λg a=>(d.d3 g a).2.2)).upd b (by simp;exact q.2.2.2.1) (by simp;exact q.2.2.2.2) (λg a i=>by simp at i;exact(d.d3 g a).2.1 i)).upd t (by simp;exact Ne.symm q.1) (by simp;exact Ne.symm q.2.1) (λg a i=>by simp at i;exact(d.d3 g a).1 i)
   .rw[H];refine au (jX J (Nat.zero_le _)) t (λg a i=>?_);simp[Value.ownBlock] at a i
    grind
   .rw[H] at r;rw[EX]
    by_cases e:j<vs.length
    .rw[Δ e];exact(((d.each j e).upd l (λg a=>(d.d4 j g e a).2.2.2.2.1)).upd b (λg a i=>by simp at i;exact(d.d4 j g e a).2.2.2.1 i)).upd t (λg a i=>by simp at i;exact(d.d4 j g e a).1 i)
    .obtain rfl:j=vs.length:=ω;rw[Γ e,Δ rfl,x.out.2.2.2,Z];exact bB.nil _ _
   .rw[s] at a;have:=d.d3 g a;have hgl:=(d.jG.pq a).2
    grind
   .rw[H] at r;obtain⟨e,a⟩:=P j r g a;have:=d.d4 j g e a;have hgl:=d.zw e a
    grind
   .rw[H] at r hk;obtain⟨e,a⟩:=P j r g a;intro U;obtain⟨K,U⟩:=P k hk g U;exact d.d5 j k g e K hne a U
  refine⟨rfl,B.blk v n (aO A).cs.length S (vs++[.slice none 0 0]),⟨⟨B,v,n,o,lo,S,_,rfl,rfl,hBM,x.out.2.1⟩,x.out.1⟩,((l.mono uQ).trans (b.mono (λy c=>by simp at c;subst c;simp[BB.blk]))).trans (t.mono (λy c=>by simp at c;subst c;simp[BB.blk])),λy c=>?_⟩;rw[s] at c;simp only[BB.blk,ρ,τ] at c ⊢;rcases c with e|e|e|e|e|e|e
  .exact Α (Α e)
  .exact Α (Β (Α e))
  .exact Α (Β (Β (Α e)))
  .grind
  .grind
  .exact Α (Β (Β (Β (Β (Β (Α e))))))
  .obtain⟨j,r,a⟩:=jN.1 e;rw[H] at r;obtain⟨e3,a⟩:=P j r y a;exact Α (Β (Β (Β (Β (Β (Β (jN.2 ⟨j,e3,a⟩)))))))
end
def Uo(n:Nat)(w:World)(h:n<=65536):
  Calls prog 60 #[(n:Int)] w λe w'=>∃p FF,e=.returned (.tuple #[(p:Nat),(0:Int)])/\FC w' p FF (NS.new n) 0 BG.none/\ae [] w w'/\∀x,x∈FF->w.heap.size<=x:=by
 have k:=pR n w h;have J:=λW=>Gw n W h
 go_enter func60,ntmps60
 go_wp2_with (first
  |(((with_reducible refine k.mono ?_));rintro e E ⟨c,F,rfl,C,s,G⟩)
  | (((with_reducible refine (J _).mono ?_));rintro e a ⟨bt,ba,rfl,o,q,H,Q⟩))
 go_ret2;have K:(NS.new n).cs.length=n:=by simp[NS.new]
 obtain⟨d,f⟩:∃d,d=a.alloc (.cells #[.slice none 0 0] 77):=⟨_,rfl⟩;have t:d.heap.size=a.heap.size+1:=by rw[f];simp
 have v:ae [] a d:=by rw[f];exact(ae.refl _ _).alloc _
 have L:d.ownsRow 0 77 1 (.slice (some a.heap.size) 1 1) 1 [.slice none 0 0]:=by rw[f];exact qz a [.slice none 0 0] 77 0 1 1 rfl (Nat.zero_le _) μ
 rw[←f];have D:=eO d [Value.pointer (some (c:Nat)),.pointer (some (bt:Nat)),.slice (some a.heap.size) 1 1] 185;rw[t] at D;have u:ae [] d (d.alloc (.cells #[(c:Nat),(bt:Nat),.slice (some a.heap.size) 1 1] 185)):=(ae.refl _ _).alloc _;have R:=s.size;have S:=q.size;have M:=C.lt;have N:=o.head.lt;have O:=o.row.lt;have i:∀y,E.heap.size<=y->y∉F:=λy B P=>by have:=M y P;omega
 have z:∀m g,g∉CS.none.blk m:=λm g b=>by
  obtain⟨y,_,e⟩:=(CS.kS _ m g).1 b;cases e
 have l:∀h,h < [Value.slice none 0 0].length->[Value.slice none 0 0].getD h undef=Value.slice none 0 0:=λh r=>by
  grind
 have A:iZ (d.alloc (.cells #[(c:Nat),(bt:Nat),.slice (some a.heap.size) 1 1] 185)) ⟨a.heap.size+1,c,bt,ba⟩ F a.heap.size 1 a.heap.size (NS.new n) 0 CS.none [.slice none 0 0] BG.none.R:=by
  refine⟨D,C.ag (q.trans (v.trans u)),by rw[K];exact o.ag (v.trans u),au L u σ,rfl,λh r=>by rw[l h r];exact bB.nil _ _,⟨i _ (by simp only;omega),i _ (by simp only;omega),i _ (by simp only;omega),i _ ω⟩,⟨?_,?_,?_,?_,?_⟩,λg b=>absurd b (z _ g),λh g r b=>(by rw[l h r] at b;cases b),λh k g r T _ b=>(by rw[l h r] at b;cases b)⟩
  all_goals simp only;omega
 refine⟨a.heap.size+1,_,by simp[t],⟨⟨⟨a.heap.size+1,c,bt,ba⟩,F,a.heap.size,1,a.heap.size,CS.none,[.slice none 0 0],rfl,rfl,A,rfl⟩,abS n⟩,s.trans (q.trans (v.trans u)),λy B=>?_⟩;simp only[BB.blk,ρ,τ] at B;rcases B with e|e|e|e|e|e|e
 .omega
 .omega
 .omega
 .omega
 .exact G y e
 .grind
 .obtain⟨j,I,b⟩:=jN.1 e;rw[l j I] at b;cases b
def IB:VI 126 "Has" 123:=by intro p c W h;unfold method;obtain⟨m,h1,h2,h3,h4⟩:=xA Tryz.t126.methods "Has" [⟨185,0,true⟩] 123 (by kernel_rfl);exact xD
def DW:VI 126 "Entry" 121:=by intro p c W h;unfold method;obtain⟨m,h1,h2,h3,h4⟩:=xA Tryz.t126.methods "Entry" [⟨185,0,true⟩] 121 (by kernel_rfl);exact xD
def Wh:MI 126 "Make" 169:=λ_ _=>by kernel_rfl
def Mm:MI 126 "Insert" 168:=λ_ _=>by kernel_rfl
def Yw:MI 126 "Min" 171:=λ_ _=>by kernel_rfl
def Jg:MI 126 "Extract" 167:=λ_ _=>by kernel_rfl
def Hr:MI 126 "Decrease" 165:=λ_ _=>by kernel_rfl
def uN{w w':World}{p:Nat}{F S:List Nat}{A:NS}{st:Nat}{G:BG}(h:FC w p F A st G)(d:ae S w w')(e:∀x,x∈S->x∉F):FC w' p F A st G:=by
 obtain⟨⟨B,a,gr,cr,lo,b,vs,rfl,rfl,M,c⟩,I⟩:=h;exact⟨⟨B,a,gr,cr,lo,b,vs,rfl,rfl,M.upd d e,c⟩,I⟩
def adG{w:World}{p:Nat}{F:List Nat}{A:NS}{st:Nat}{G:BG}(h:FC w p F A st G):∀x,x∈F->x<w.heap.size:=by
 obtain⟨⟨B,a,gr,cr,lo,b,vs,rfl,rfl,M,c⟩,I⟩:=h;exact M.lt
def afS{w:World}{p:Nat}{F:List Nat}{A:NS}{st:Nat}{G:BG}(h:FC w p F A st G):A.Ok:=by
 obtain⟨⟨B,a,gr,cr,lo,b,vs,rfl,rfl,M,c⟩,I⟩:=h;exact M.cells.ok
def O4{w:World}{p:Nat}{F:List Nat}{A:NS}{st:Nat}{G:BG}(h:FC w p F A st G):∃c a,w.cell? p=some ((c:Nat):V)/\aD w c a A st:=by
 obtain⟨⟨B,a,gr,cr,lo,b,vs,rfl,rfl,M,d⟩,I⟩:=h;exact⟨B.c,a,M.h0,M.cells⟩
def BnQ(w:World)(p:Nat)(F:List Nat)(A:NS):Prop:=∃st G,FC w p F A st G
noncomputable def yz:NestQ where
 ty:=126
 at_:=BnQ
 upd:=λh hu hS=>by
  obtain⟨st,G,hL⟩:=h;exact⟨st,G,uN hL hu hS⟩
 lt:=λh=>by
  obtain⟨st,G,hL⟩:=h;exact adG hL
 ok:=λh=>by
  obtain⟨st,G,hL⟩:=h;exact afS hL
 make:=λ{w p F A} h=>by
  obtain⟨st,G,hL⟩:=h;refine aL 169 (λ_ _=>by kernel_rfl) (Wh _) (λW hW=>?_);refine(Rx (uN hL hW σ)).mono ?_;rintro e w' ⟨rfl,F',hA,hu,hf⟩;exact⟨rfl,F',⟨_,_,hA⟩,hu,hf⟩
 insert:=λ{w p F A} g y k s hk hB h=>by
  obtain⟨st,G,hL⟩:=h;refine aL 168 (λ_ _=>by kernel_rfl) (Mm _) (λW hW=>?_);refine(Kw (uN hL hW σ) g y k s hk hB).mono ?_;rintro e w' ⟨rfl,F',hA,hu,hf⟩;exact⟨rfl,F',⟨_,_,hA⟩,hu,hf⟩
 min:=λ{w p F A} y hB h=>by
  obtain⟨st,G,hL⟩:=h;refine aL 171 (λ_ _=>by kernel_rfl) (Yw _) (λW hW=>?_);have jT:=uN hL hW σ;obtain⟨⟨B,F1,gr,cr,lo,S1,vs,rfl,rfl,M,eF⟩,I⟩:=jT;refine(J6 M I (y:Int)).mono ?_;rintro e w' ⟨rfl,hM2,hu⟩;exact⟨rfl,Goes.stay ⟨_,_,⟨B,F1,gr,cr,lo,S1,vs,rfl,rfl,hM2,eF⟩,I⟩ (hu.mono (λy hy=>by simp at hy;subst hy;exact uQ _ M.cells.mem))⟩
 extract:=λ{w p F A} y m hm h=>by
  obtain⟨st,G,hL⟩:=h;refine aL 167 (λ_ _=>by kernel_rfl) (Jg _) (λW hW=>?_);have jT:=uN hL hW σ;have e2:uh A (y:Int)=aS A (m:Int):=by unfold uh;rw[hm]
  have k:=GU jT (y:Int);rw[e2,hm] at k;refine k.mono ?_;rintro e w' ⟨rfl,F',hA,hu,hf⟩;exact⟨rfl,F',⟨_,_,hA⟩,hu,hf⟩
 nC:=λ{w p F A} y k s hk hB h=>by
  obtain⟨st,G,hL⟩:=h;refine aL 165 (λ_ _=>by kernel_rfl) (Hr _) (λW hW=>?_);have jT:=uN hL hW σ;refine(WG jT y k s hk hB).mono ?_;rintro e w' ⟨rfl,F',hA,hu,hf⟩;exact⟨rfl,F',⟨_,_,hA⟩,hu,hf⟩
 has:=λx h=>by
  obtain⟨st,G,hL⟩:=h;obtain⟨c,F1,h0,hC⟩:=O4 hL;exact dQ 123 (λ_ _=>by kernel_rfl) h0 (IB _ _) (λW hW=>jQ (hC.ag hW) x)
 entry:=λ{w p F A} x h=>by
  obtain⟨st,G,hL⟩:=h;obtain⟨c,F1,h0,hC⟩:=O4 hL;refine dQ 121 (λ_ _=>by kernel_rfl) h0 (DW _ _) (λW hW=>?_);cases hin:bY A x with
  |false=>simpa using mH (hC.ag hW) x hin
  |true=>
   obtain⟨y,rfl⟩:=sO hin;simpa using lg (hC.ag hW) y hin
def LW(p:Nat)(w:World):Calls prog 59 #[p,(0:Int)] w λe w'=>e=.returned (.tuple #[.iface 126 (.pointer (some p)),(0:Int)])/\w'=w:=by
 go_enter func59,ntmps59
 go_wp2;go_ret2;exact⟨rfl,rfl⟩
def Iq(n:Nat)(k:n<=65536):qG yz 3 0 n:=by
 intro w;have g:=λW=>Uo n W k;have i:=LW;have c:yz.ty=126:=rfl;have a:∀w' p FF,FC w' p FF (NS.new n) 0 BG.none->yz.at_ w' p FF (NS.new n)/\IL w' p n:=λw' p FF h=>⟨⟨_,_,h⟩,O4 h⟩
 generalize yz=K at *;rw[c]
 go_enter func35,ntmps35
 go_wp2_with (first
  |(((with_reducible refine(g _).mono ?_));rintro e l ⟨pn,FF,rfl,d,b,f⟩)
  | (((with_reducible refine (i _ _).mono ?_));rintro e m ⟨rfl,rfl⟩))
 go_ret2;exact⟨pn,FF,rfl,(a _ _ _ d).1,(a _ _ _ d).2,ae.trans β b,λx j=>by have:=f x j;simp at this;omega⟩
