/-
  Lemmas.
-/
import Derived.Deep.DeepCutAuto
import Derived.Outline
import Derived.Deep.LoopGhost
import Derived.Test.YtnpdakpagnpanaaGreatE15
set_option linter.all false
set_option maxHeartbeats 8000000
set_option maxRecDepth 10000
namespace Go.Proofs.YtnpdakpagnpanaaGreat
open Tryz
open Go Go.RowKit
def Kq{w:World}{base g n cap:Nat}{l:List Int}(h:w.ownsRow base 3 1 (.slice (some g) n cap) n (aZ l))(j:Nat)(x:Int):(w.setCell ⟨g,j,none⟩ (.int .i64 x)).ownsRow base 3 1 (.slice (some g) n cap) n (aZ (l.set j x)):=by
 have a:l.length=n:=by have:=h.1;rw[iq] at this;omega
 rcases h.2 with⟨h1,_⟩|⟨g',cap',cur,h1,hb,hg,hn,hc,hs,ht⟩
 .cases h1
 .cases h1;refine⟨by rw[iq,Ι];omega,Β ⟨g,cap,cur.setIfInBounds j (.int .i64 x),rfl,by grind,?_,hn,hc,ζ,?_⟩⟩
  .simp[World.setCell,Array.getElem?_modify,hg]
  .rw[Array.toList_setIfInBounds]
   by_cases b:j<n
   .rw[List.take_set,ht];unfold aZ;rw[List.map_set]
   .rw[List.take_set_of_le ω,ht,List.set_eq_of_length_le ω]
section
variable{w:World}{B:FB}{F:List Nat}{gt ct:Nat}{A:NS}{st:Nat}{G:FG}
def fD.own{w0 b c:World}{e:TypeId}{a k:Nat}{v:Value}{xs:List Value}(h:fD b B F gt ct A st G)(f:∀x,x∈B.blk F gt->x<w0.heap.size)(g:b.ownsRow w0.heap.size e a v k xs)(i:ae v.ownBlock.toList b c):fD c B F gt ct A st G:=
 h.upd i (λx m d=>by
  have j:=(g.lt x (by grind)).1;have l:=f x d
  omega)
def RS(M:fD w B F gt ct A st G){I:List Nat}{v:Value}{h:Nat}{bZ:Nat->Int}(h1:1<=h)(hin:∀z,z<A.cs.length->bZ z=h->bY A (z:Int)=true)(H:TT A.cs.length bZ (dA A) h [] I G)(hv:lS w [B.c,B.bn,B.bp,B.bl] v (ru I)):
  Calls prog 219 #[B.n0,v] w λe w'=>∃v',e=.returned v'/\w'.ownsRow w.heap.size 3 1 v' (tid (nR A) I ⟨[],G,0⟩).T.length (aZ (tid (nR A) I ⟨[],G,0⟩).T)/\
   fD w' B F gt ct A (dw st (tid (nR A) I ⟨[],G,0⟩).q) (tid (nR A) I ⟨[],G,0⟩).G/\ae [B.c,B.bn,B.bp,B.bl] w w':=by
 have hc1:=M.cells.ok.c1;have hz:=fG M.cells.oG;have hlr:I.length<=A.cs.length:=jR _ _ H.nd (λz hz=>(H.xr z hz).1);obtain⟨a,cap,rfl,hcap,hcap2,hel⟩:=hv;rw[nD] at hcap ⊢;have hlt:=M.lt;obtain⟨g1,g2,g3,g4,g5,g6,g7⟩:=M.d3;obtain⟨e1,e2,e3,e4,e5⟩:=M.d2;obtain⟨D,Q⟩:∃D,tid (nR A) I ⟨[],G,0⟩=D:=⟨_,rfl⟩;rw[Q];have hbl:∀y,y∈[B.c,B.bn,B.bp,B.bl]->y<w.heap.size:=λy b=>by
  simp only[ρ,ς,or_false] at b;rcases b with rfl|rfl|rfl|rfl
  .exact M.cells.lt _ M.cells.mem
  .exact hlt _ (by simp[FB.blk])
  .exact hlt _ (by simp[FB.blk])
  .exact hlt _ (by simp[FB.blk])
 have HLT:=χ hlt;have H0:=χ (ψ M (ψ H (ψ Q (ψ hel (ψ hbl hz)))));clear M H Q hel hbl hz hlt;generalize hrl:I.length=len at *;have WJ:=χ hrl;clear hrl
 go_enter func219,ntmps219
 go_wp2
 go_loopw [5,12] (λs5 s12 wr=>∃ (i:Nat) (T:List Int) (G':FG) (q:Nat),i<=len/\s12=.int .i64 (i:Int)/\tid (nR A) (I.drop i) ⟨T,G',q⟩=D/\TT A.cs.length bZ (dA A) h T (I.drop i) G'/\T.length<=A.cs.length+1/\
  wr.ownsRow w.heap.size 3 1 s5 T.length (aZ T)/\fD wr B F gt ct A (dw st q) G'/\ae [B.c,B.bn,B.bp,B.bl] w wr) (λ_ s12 _=>len-(intOf s12).toNat)
 case atStart=>
  obtain⟨M,H,Q,hel,hbl,hz⟩:=H0.out;exact⟨0,[],G,0,ω,rfl,Q,H,σ,World.ownsRow_nil _ _ _ _,by rw[hz];exact M,ae.refl _ _⟩
 case round=>
  obtain⟨i,T,G',q,hi,rfl,Q,hT,Sz,r,O,J⟩:=hrel;rename World=>wr
  by_cases hil:i<len
  .obtain⟨x,hx⟩:∃x,I[i]?=some x:=⟨_,ε (by rw[WJ.out];exact hil)⟩;have hdr:I.drop i=x::I.drop (i+1):=by
    rw[Ϝ (by rw[WJ.out];exact hil)]
    congr 1
    rw[ε (by rw[WJ.out];exact hil)] at hx
    injection hx
   rw[hdr] at Q hT;obtain⟨gr,off,rfl,hgl,xm,hcx⟩:=H0.out.2.2.2.1 i (x:Int) (by unfold ru;rw[ϑ,hx];rfl);have hcx:=J.kept hcx xm;have hiI:(i:Int)<(len:Int):=ω;have hw1:IntKind.i64.wrap ((i:Int)+1)=(i:Int)+1:=Μ _ ω;have HR:=χ (ψ Q (ψ hT (ψ r (ψ O J))));clear Q hT r O J hx hdr;go_wp2;obtain⟨D1,hD1⟩:∃D1,LD (nR A) (p9 T+1) T x G' q=D1:=⟨_,rfl⟩;have HD1:=χ hD1;clear hD1
   go_loopg [5,7] (p9 T+1) (λfu s5 s7 wr2=>∃ (u:List Int) (p:Nat) (U:FG) (q1:Nat),s7=.int .i64 (p:Int)/\LD (nR A) fu u p U q1=D1/\p9 u<fu/\TT A.cs.length bZ (dA A) h u (p::I.drop (i+1)) U/\u.length<=A.cs.length+1/\
    wr2.ownsRow w.heap.size 3 1 s5 u.length (aZ u)/\fD wr2 B F gt ct A (dw st q1) U/\ae [B.c,B.bn,B.bp,B.bl] w wr2)
   case atStart=>exact⟨T,x,G',q,rfl,HD1.out,ω,HR.out.2.1,Sz,HR.out.2.2.1,HR.out.2.2.2.1,HR.out.2.2.2.2⟩
   case round=>
    rename Nat=>fu;obtain⟨u,p,U,q1,rfl,j,D5,f,hTl1,C,s,K⟩:=hrel;rename World=>wr2;obtain⟨fv,rfl⟩:∃fv,fu=fv+1:=⟨fu-1,ω⟩;have Dm:=f.xr p σ;have hx1:=Dm.1;have hx1I:(p:Int)<(A.cs.length:Int):=ω;have hq2:=s.h2;have hp2:=s.p2 hx1;have hdn:=f.ff.yH hx1;obtain⟨d,hd⟩:∃d,(U.K p).length=d:=⟨_,rfl⟩;rw[hd] at hp2 hdn;have HI:=χ (ψ j (ψ D5 (ψ f (ψ s (ψ K (ψ C (ψ hd Dm)))))));clear j D5 f s K hd Dm hx1;obtain⟨a5,c5,rfl,hc5⟩:=bz C;clear C;go_wp2
    go_loopw [5] (λs5 o=>∃m:Nat,u.length+m<=max u.length (d+1)/\o.ownsRow w.heap.size 3 1 s5 (u.length+m) (aZ (u++List.replicate m (-1)))/\fD o B F gt ct A (dw st q1) U/\ae [B.c,B.bn,B.bp,B.bl] w o) (λs5 _=>match s5 with | .slice _ l _=>d+1-l|_=>0)
    case atStart=>
     obtain⟨j,D5,f,s,K,C,hd,Dm⟩:=HI.out;exact⟨0,ω,by simpa using C,s,K⟩
    case round=>
     obtain⟨m,Z,r,O,J⟩:=hrel;rename World=>o;obtain⟨a,c,rfl,hc⟩:=bz r
     by_cases hmd:u.length+m<=d
     .have hmdI:((u.length+m:Nat):Int)<=(d:Int):=ω;have hsz3:=J.size;have HU:=χ (ψ O J);clear O J
      go_wp2_with (first
       | (at_builtin;refine bD rfl _ _ 77 rfl w.heap.size 3 (.int .i64 0) 1 8 underlying77 gN rfl δ _ _ _ rfl (r) [.int .i64 (-1)] rfl (by simp [Value.oneCell']) (by first|rfl|(rw [Κ];rfl)) μ ω (ω) ?_;intro v2 w2 n hu2 oq))
      obtain⟨O,J⟩:=HU.out;obtain⟨a2,c2,rfl,_⟩:=bz n;refine⟨⟨m+1,ω,?_,O.own HLT.out r hu2,J.own r (Θ _) hu2⟩,ζ⟩;rw[List.replicate_succ',←ϋ,dO];exact n
     .have hm':m=d+1-u.length:=ω;have hP:u++List.replicate m (-1)=lh u d:=by unfold lh;rw[hm']
      rw[hP] at r;obtain⟨j,D5,f,s,K,C,hd,Dm⟩:=HI.out;obtain⟨s0,s1,s2⟩:=f.step (Ab A A.cs.length U _ h) h1;rw[hd] at s0 s1 s2;unfold LD at j;rw[hd] at j;have hPl:=FT u d;have hPn:u.length+m=(lh u d).length:=ω;rw[hPn] at r ⊢;obtain⟨P,eP⟩:∃P,lh u d=P:=⟨_,rfl⟩;rw[eP] at r s0 s1 s2 j hPl ⊢;obtain⟨g,cp,hv,hbg,hgs,hcp1,hcp2,E,YF⟩:=fU r ω;have hcd:o.cell? ⟨g,d,none⟩=some (.int .i64 (P.getD d (-1))):=E d _ (by unfold aZ;rw[ϑ,s0];rfl);have hfd:=YF d;rw[hv] at r ⊢;have hPlI:(d:Int)<(P.length:Int):=by clear s0 s1 s2 j;omega
      have hni:¬(P.length:Int)<=(d:Int):=by clear s0 s1 s2 j;omega
      have abg:g∉B.blk F gt:=λZ=>by have:=HLT.out g Z;omega
      have HPL:=χ hPl;clear hPl
      by_cases b:P.getD d (-1)=-1
      .rw[Δ b] at j;rw[b] at hcd;have HS:=χ (ψ O (ψ J (ψ r (ψ (s1 b) j))));clear j D5 f s K C hd Dm s0 s1 s2 O J r E YF hv eP hP b HI hPn;go_wp2;obtain⟨O,J,r,hpl,j⟩:=HS.out;obtain⟨Q,hT,_,_,_⟩:=HR.out;have hD2:tid (nR A) (I.drop (i+1)) ⟨P.set d p,U,q1⟩=D:=by
        have:tid (nR A) (x::I.drop (i+1)) ⟨T,G',q⟩=tid (nR A) (I.drop (i+1)) (LD (nR A) (p9 T+1) T x G' q):=rfl;rw[this,HD1.out,←j] at Q;exact Q
       refine⟨⟨i+1,P.set d p,U,q1,ω,by go_num,hD2,hpl.1,by rw[Ι];have:=HPL.out;omega,?_,O.upd ((ae.refl [g] o).setCell (Α σ) _) (λy b=>by simp at b;subst b;exact abg),J.setCell (Β hbg) _⟩,by simp[intOf];omega⟩;rw[Ι];exact Kq r d p
      .rw[Γ b] at j;obtain⟨z,ez,hzn,hzx,hzh,hoc,X,Y⟩:=s2 b;rw[ez] at hcd j;rw[π] at j;have xL:=Dm.1;have hin1:bY A (p:Int)=true:=hin p xL Dm.2.2;have hinz:bY A (z:Int)=true:=hin z hzn hzh;have hzm:((z:Int) == -1)=false:=σ;have hu0:ae [g] o (o.setCell ⟨g,d,none⟩ (.int .i64 (-1))):=(ae.refl [g] o).setCell (Α σ) _;have hgc:B.n0∉[g]:=by simp;intro e;exact abg (by rw[←e];simp[FB.blk])
       have L:=O.upd hu0 (λy b=>by simp at b;subst b;exact abg);have ka:=fA L.cells z p hinz hin1;have hn0:(o.setCell ⟨g,d,none⟩ (.int .i64 (-1))).cell? B.n0=some (B.c:V):=L.h0;have n:=Kq r d (-1);obtain⟨wq,hwq⟩:∃wq,o.setCell ⟨g,d,none⟩ (.int .i64 (-1))=wq:=⟨_,rfl⟩;rw[hwq] at L ka hn0 n hu0;have R:ae [B.c,B.bn,B.bp,B.bl] w wq:=hwq▸J.setCell (Β hbg) _;have HS:=χ (ψ L (ψ R (ψ n (ψ j (ψ hoc (ψ X (ψ Y (ψ f D5))))))));cases hb:decide (dA A z p) with
       |true=>
        rw[hb] at ka;have kz:=λW st' (hW:fD W B F gt ct A st' U)=>BV hW (x:=z) (y:=p) hzn xL (λk t e=>(f.ff.kid z k hzn (by rw[e];simp)).1) (Χ (f.ff.yH hzn) hc1);have KZ:=χ kz;have HB:=χ hb;clear j D5 f s K C hd Dm s0 s1 s2 O J r E YF hv eP hP b HI hPn X Y hoc L R n ez kz hb
        go_wp2_with (first
         |(((with_reducible refine ka.mono ?_));rintro e w5 ⟨rfl,Td,S⟩;(have k5:=KZ.out w5 _ (HS.out.1.setSt S Td));(have RY:=χ S);clear Td S ka)
         | (((with_reducible refine k5.mono ?_));rintro e w6 ⟨rfl,wR,iD⟩;(have HU6:=χ (ψ wR iD));clear wR iD k5))
        go_roundg fv
        case measure=>omega
        case rel=>
         obtain⟨L,R,n,j,hoc,X,Y,f,D5⟩:=HS.out;have N:nR A z p=true:=HB.out;rw[N,Δ rfl] at j;obtain⟨wR,iD⟩:=HU6.out;have S:=RY.out;have hg1:∀y,y∈[B.c,B.bn,B.bp,B.bl]->y≠g:=λy b e=>by have:=H0.out.2.2.2.2.1 y b;omega
         rw[je] at wR;refine⟨P.set d (-1),z,eB U p z,q1+1,rfl,j,ω,X N,by rw[Ι];have:=HPL.out;omega,?_,wR,?_⟩
         .rw[Ι];exact au (au n S (λy b Z=>by simp[Value.ownBlock] at b Z;exact hg1 B.c σ ω)) iD (λy b Z=>by simp[Value.ownBlock] at b;subst b;exact hg1 g (by simp at Z;rcases Z with e|e|e<;>simp[e]) rfl)
         .exact(R.trans (S.mono σ)).trans (iD.mono (λy b=>by simp at b;rcases b with e|e|e<;>simp[e]))
       |false=>
        rw[hb] at ka;have kz:=λW st' (hW:fD W B F gt ct A st' U)=>BV hW (x:=p) (y:=z) xL hzn (λk t e=>(f.ff.kid p k xL (by rw[e];simp)).1) (Χ (f.ff.yH xL) hc1);have KZ:=χ kz;have HB:=χ hb;clear j D5 f s K C hd Dm s0 s1 s2 O J r E YF hv eP hP b HI hPn X Y hoc L R n ez kz hb
        go_wp2_with (first
         |(((with_reducible refine ka.mono ?_));rintro e w5 ⟨rfl,Td,S⟩;(have k5:=KZ.out w5 _ (HS.out.1.setSt S Td));(have RY:=χ S);clear Td S ka)
         | (((with_reducible refine k5.mono ?_));rintro e w6 ⟨rfl,wR,iD⟩;(have HU6:=χ (ψ wR iD));clear wR iD k5))
        go_roundg fv
        case measure=>omega
        case rel=>
         obtain⟨L,R,n,j,hoc,X,Y,f,D5⟩:=HS.out;have N:nR A z p=false:=HB.out;rw[N,Γ σ] at j;obtain⟨wR,iD⟩:=HU6.out;have S:=RY.out;have hg1:∀y,y∈[B.c,B.bn,B.bp,B.bl]->y≠g:=λy b e=>by have:=H0.out.2.2.2.2.1 y b;omega
         rw[je] at wR;refine⟨P.set d (-1),p,eB U z p,q1+1,rfl,j,ω,Y N,by rw[Ι];have:=HPL.out;omega,?_,wR,?_⟩
         .rw[Ι];exact au (au n S (λy b Z=>by simp[Value.ownBlock] at b Z;exact hg1 B.c σ ω)) iD (λy b Z=>by simp[Value.ownBlock] at b;subst b;exact hg1 g (by simp at Z;rcases Z with e|e|e<;>simp[e]) rfl)
         .exact(R.trans (S.mono σ)).trans (iD.mono (λy b=>by simp at b;rcases b with e|e|e<;>simp[e]))
  .obtain rfl:i=len:=ω;have hdr:I.drop i=[]:=List.drop_eq_nil_of_le (by have:=WJ.out;omega);rw[hdr] at Q;have hD2:(⟨T,G',q⟩:TD)=D:=Q;subst hD2;have HR:=χ (ψ r (ψ O J));clear hT r O J Q hdr;go_wp2;go_ret;exact⟨_,rfl,HR.out.1,HR.out.2.1,HR.out.2.2⟩
end
end Go.Proofs.YtnpdakpagnpanaaGreat
namespace Go.Proofs.YtnpdakpagnpanaaGreat
open Tryz
def BQ(l:List Nat)(x:Nat):List Nat:=(l.dropWhile (λz=>z != x)).tail++l.takeWhile (λz=>z != x)
def ES{l:List Nat}{x:Nat}(g:x∈l)(c:l.Nodup):∃a b,l=a++x::b/\x∉a/\x∉b/\l.takeWhile (λz=>z != x)=a/\(l.dropWhile (λz=>z != x)).tail=b:=by
 obtain⟨a,b,rfl⟩:=List.append_of_mem g;rw[θ,Ζ] at c;have d:x∉a:=λh=>c.2.2 x h x σ rfl;have hp:∀z,z∈a->(z != x)=true:=λz f=>by simp;intro e;subst e;exact d f
 refine⟨a,b,rfl,d,c.2.1.1,?_,?_⟩
 .rw[List.takeWhile_append_of_pos hp,List.takeWhile_cons_of_neg σ];simp
 .rw[List.dropWhile_append_of_pos hp,List.dropWhile_cons_of_neg σ];rfl
def Nb{l:List Nat}{x:Nat}(h:x∈l)(i:l.Nodup):∃a b,l=a++x::b/\BQ l x=b++a/\x∉a/\x∉b:=by
 obtain⟨a,b,c,d,e,f,g⟩:=ES h i;exact⟨a,b,c,by unfold BQ;rw[f,g],d,e⟩
def dM(h x:Nat)(G:FG):FG:=
 { (match G.R h with|[]=>prt G x|t::_=>Om (prt G x) t x) with
  up:=ah G.up x (-1),mr:=ah G.mr x false,K:=ah G.K (G.up x).toNat (BQ (G.K (G.up x).toNat) x),R:=match G.R h with|[]=>G.R|t::s=>ah G.R h (t::x::s) }
def sM:Nat->Nat->Nat->FG->FG
 |0,_,_,G=>G
 |f+1,h,x,G=>if G.up x=-1 then G else if G.mr x=false then{ G with mr:=ah G.mr x true } else sM f h (G.up x).toNat (dM h x G)
def marks(n:Nat)(G:FG):Nat:=((List.range n).filter G.mr).length
def CE{p:Nat->Bool}{x:Nat}{b:Bool}:∀l:List Nat,l.Nodup->x∈l->(l.filter (ah p x b)).length+(if p x then 1 else 0)=(l.filter p).length+(if b then 1 else 0)
 | [],_,h=>by cases h
 |y::t,hn,hx=>by
  rw[Ζ] at hn
  by_cases e:y=x
  .subst e;have hc:t.filter (ah p y b)=t.filter p:=List.filter_congr (λz hz=>aY _ _ (λe=>hn.1 (e▸hz)));have h1:ah p y b y=b:=bG _ _ _;rw[List.filter_cons,List.filter_cons,h1,hc];cases b<;>cases p y<;>simp
  .have ih:=CE (p:=p) (b:=b) t hn.2 (by rcases ρ.1 hx with h|h;exact absurd h.symm e;exact h);have h1:ah p x b y=p y:=aY _ _ e;rw[List.filter_cons,List.filter_cons,h1];cases p y<;>simp<;>omega
def rq{n:Nat}{G:FG}{x:Nat}{b:Bool}{mr:Nat->Bool}(c:x<n)(a:mr=ah G.mr x b)(G':FG)(e:G'.mr=mr):marks n G'+(if G.mr x then 1 else 0)=marks n G+(if b then 1 else 0):=by
 unfold marks;rw[e,a];exact CE _ List.nodup_range (by grind)
section
variable{n:Nat}{G:FG}{bZ:Nat->Int}{L M:Nat->Nat->Prop}{ex:Nat->Nat}
def yV(H:FF n G bZ L ex)(R:FR n G bZ M none){h x p t:Nat}{s:List Nat}(O:G.R h=t::s)(P:x<n)(ux:G.up x=p)(hpx:p≠x)(hh:bZ x=h)(hL:M t x):
  FF n (dM h x G) bZ L (λc=>if c=p then ex c+1 else ex c)/\FR n (dM h x G) bZ M none/\(dM h x G).up=ah G.up x (-1)/\(dM h x G).mr=ah G.mr x false/\(dM h x G).K=ah G.K p (BQ (G.K p) x)/\
   (dM h x G).R=ah G.R h (t::x::s)/\(∃a b,G.K p=a++x::b/\BQ (G.K p) x=b++a)/\G.nx x=(BQ (G.K p) x).headD x:=by
 obtain⟨hp,hxk⟩:=H.above P ux;obtain⟨q1,q2,q3⟩:=R.all h;obtain⟨h1,ht,ut,htm⟩:=(q2 t).1 (by rw[O];simp);have N7:=H.ring p hp;obtain⟨a,b,eK,eA,xa,xb⟩:=Nb hxk N7.nd;have Q:∀z,z∈G.K p->z<n/\G.up z=p:=λz u=>H.kid p z hp u;have Y:Ring G.nx (x::(b++a)):=by rw[eK] at N7;exact Ring.XE (a:=a) (b:=x::b) N7
 have k:∀z,z∈x::(b++a)↔z∈G.K p:=λz=>by rw[eK];simp;grind
 have B:∀z,z∈x::(b++a)->z<n:=λz u=>(Q z ((k z).1 u)).1;obtain⟨p1,p2⟩:=H.rg.part Y B;have hpm:G.pv x∈G.K p:=by
  rw[←k];rcases List.eq_nil_or_concat (b++a) with e|⟨c,y,e⟩
  .rw[e] at Y;have w:=jr.1 Y;have:=H.rg.pn x P
   grind
  .rw[List.concat_eq_append] at e;have:=H.rg.last (x:=x) (y:=y) (a:=c) (by grind) (B y (by rw[e];simp));rw[this,e];simp
 have E:=Q _ hpm;have htx:t≠x:=λe=>by subst e;omega
 have htp:t≠G.pv x:=λe=>by rw[←e] at E;omega
 have F:(dM h x G).up=ah G.up x (-1):=rfl;have I:(dM h x G).mr=ah G.mr x false:=rfl;have K':(dM h x G).K=ah G.K p (b++a):=by show ah G.K (G.up x).toNat _=_;rw[ux,π,eA]
 have R':(dM h x G).R=ah G.R h (t::x::s):=by show(match G.R h with|[]=>G.R|t::s=>ah G.R h (t::x::s))=_;rw[O]
 have r:(dM h x G).nx=dP (dP G.nx x (G.pv x)) t x:=by unfold dM;rw[O];rfl
 have pv':(dM h x G).pv=jO (dP G.nx x (G.pv x)) (jO G.nx G.pv x (G.pv x)) t x:=by unfold dM;rw[O];rfl
 have S:∀l,Ring G.nx l->x∉l->G.pv x∉l->t∉l->Ring (dM h x G).nx l:=λl hl w j Z=>by rw[r];exact(hl.nJ w j).nJ Z w
 have C:∀y,y≠x->(dM h x G).up y=G.up y:=λy f=>by rw[F,aY _ _ f]
 have A:(dM h x G).up x=-1:=by rw[F,bG]
 have T:(dM h x G).K p=b++a:=by rw[K',bG]
 have U:∀y,y≠p->(dM h x G).K y=G.K y:=λy f=>by rw[K',aY _ _ f]
 have J:∀y,y<n->y≠p->x∉G.K y:=λy f X i=>X (by have:=(H.kid y x f i).2;omega);have hpos:(0:Int)<bZ p/\(0:Int)<bZ x:=by
  have:=H.home x p P ux
  grind
 have W:(G.K p).length=(b++a).length+1:=by grind
 have D:∀c,c≠x->(G.K c).length+(if G.mr c then 1 else 0)+ex c<=((dM h x G).K c).length+(if(dM h x G).mr c then 1 else 0)+(if c=p then ex c+1 else ex c):=λc hc=>by
  rw[I,aY _ _ hc]
  by_cases e:c=p
  .rw[e,T,W,Δ rfl];omega
  .rw[U c e,Γ e];omega
 refine⟨⟨?_,λy z f u=>?_,λy f=>?_,λy f=>?_,λy q f v=>?_,λy q f v=>?_,λy f h0=>?_,λy f v=>?_,λy d f=>?_⟩,⟨λg _=>?_,λg y _=>?_,λg t' s' _ o=>?_⟩,F,I,by grind,R',⟨a,b,eK,eA⟩,by rw[eA];exact(jy.1 Y).2.1⟩
 .rw[r,pv'];exact(H.rg.swap P E.1).swap ht P
 .by_cases e:y=p
  .subst e;rw[T] at u;have hzk:z∈G.K y:=(k z).1 (by grind);have K:z≠x:=λe=>by subst e;simp at u;rcases u with h|h;exact xb h;exact xa h
   rw[C z K];exact H.kid y z f hzk
  .rw[U y e] at u;have K:z≠x:=λj=>J y f e (j▸u);rw[C z K];exact H.kid y z f u
 .by_cases e:y=x
  .subst e;exact Α A
  .rw[C y e];rcases H.Ik y f with w|⟨q,hq,w,j⟩
   .exact Α w
   .refine Β ⟨q,hq,w,?_⟩
    by_cases Z:q=p
    .subst Z;rw[T];rcases ρ.1 ((k y).2 j) with e4|e4
     .exact absurd e4 e
     .exact e4
    .rw[U q Z];exact j
 .by_cases e:y=p
  .subst e;rw[T,r];exact p2.nJ (λi=>by grind) (λi=>by grind)
  .rw[U y e];exact S _ (H.ring y f) (J y f e) (λi=>e (by have:=(H.kid y _ f i).2;omega)) (H.sN f ut)
 .have m:y≠x:=λe=>by subst e;rw[A] at v;omega
  rw[C y m] at v;exact H.home y q f v
 .have m:y≠x:=λe=>by subst e;rw[A] at v;omega
  rw[C y m] at v;exact H.ord y q f v
 .obtain⟨a1,a2,a3⟩:=H.alone y f h0;have m:y≠x:=λe=>h0 (by grind);have X:y≠p:=λe=>h0 (by grind);have hyv:y≠G.pv x:=λe=>by rw[←e] at E;omega
  have TB:y≠t:=λe=>h0 (by grind);exact⟨by grind,by grind,by rw[r,jv TB m,jv m hyv];exact a3⟩
 .rw[I]
  by_cases e:y=x
  .rw[e,bG]
  .rw[C y e] at v;rw[aY _ _ e];exact H.free y f v
 .by_cases e:y=p
  .subst e;rw[T];have m1:few (dM h x G) (λc=>if c=y then ex c+1 else ex c) (b++a) d<=few G ex (b++a) d:=JV d (λc hc=>D c (λe=>by grind));have m2:few G ex (G.K y) d=few G ex (x::(b++a)) d:=IK _ _ (by grind) d;rw[KO] at m2;have m3:=H.cnt y d f;omega
  .rw[U y e];exact Χ (JV d (λc hc=>D c (λj=>J y f e (j▸hc)))) (H.cnt y d f)
 .obtain⟨r1,N,_⟩:=R.all g
  by_cases e:g=h
  .subst e;rw[R',bG,r];have hs1:Ring (dP G.nx x (G.pv x)) (t::s):=by
    rw[←O];exact r1.nJ (λi=>by have:=((N x).1 i).2.2.1;omega) (λi=>by have:=((N _).1 i).2.2.1;omega)
   exact Ring.join hs1 p1 (λz u i=>by
    simp at i;subst i;have:=((N z).1 (by grind)).2.2.1
    omega)
  .rw[R',aY _ _ e];exact S _ r1 (λi=>by have:=((N x).1 i).2.2.1;omega) (λi=>by have:=((N _).1 i).2.2.1;omega) (λi=>e (by have:=((N t).1 i).2.2.2;omega))
 .rw[R'];have old:=(R.all g).2.1 y
  by_cases e:g=h
  .subst e;rw[bG];have:y∈t::x::s↔y=x\/y∈G.R g:=by grind
   rw[this,old]
   by_cases j:y=x
   .subst j;simp[A,h1,P,hh]
   .rw[C y j];simp[j,xS]
  .rw[aY _ _ e,old]
   by_cases j:y=x
   .subst j;constructor
    .rintro⟨_,_,a2,_⟩;omega
    .rintro⟨_,_,_,a3⟩;exact absurd (show g=h by omega) e
   .rw[C y j];exact Iff.rfl
 .rw[R'] at o
  by_cases e:g=h
  .subst e;rw[bG] at o;have w:t=t':=by injection o
   have j:x::s=s':=by injection o
   subst w j;intro y f;rcases ρ.1 f with rfl|f
   .exact hL
   .exact q3 t s O y f
  .rw[aY _ _ e] at o;exact(R.all g).2.2 t' s' o
def LX(v:∀a,¬L a a){h t:Nat}:∀(f p:Nat) (s:List Nat) (G:FG),FF n G bZ L (λc=>if c=p then 1 else 0)->FR n G bZ M none->G.R h=t::s->p<n->bZ p=h->1<=h->(∀y,y<n->bZ y=h->y≠t->M t y)->marks n G<f->
  FF n (sM f h p G) bZ L (λ_=>0)/\FR n (sM f h p G) bZ M none/\(∃s',(sM f h p G).R h=t::s')/\(∀g,g≠h->(sM f h p G).R g=G.R g)/\
   (G.R h).length<=((sM f h p G).R h).length/\((sM f h p G).R h).length+marks n (sM f h p G)<=(G.R h).length+marks n G+1/\marks n (sM f h p G)<=marks n G+1/\(∀y,G.up y=-1->(sM f h p G).up y=-1)
 |0,p,s,G,H,R,hR,hp,hh,h1,hf,hm=>ω
 |f+1,p,s,G,H,R,hR,hp,hh,h1,hf,hm=>by
  unfold sM
  by_cases e:G.up p=-1
  .rw[Δ e];refine⟨⟨H.rg,H.kid,H.Ik,H.ring,H.home,H.ord,H.alone,H.free,λx d r=>?_⟩,R,⟨s,hR⟩,λ_ _=>rfl,Θ _,ω,ω,λ_ h=>h⟩
   rw [wm (G:=G) (ex:=λc=>if c=p then 1 else 0) d (λc z=>by
    have m:c≠p:=λu=>H.sN r e (u▸z)
    rw [Γ m])]
   exact H.cnt x d r
  .rw[Γ e]
   by_cases u:G.mr p=false
   .rw[Δ u];have j:=rq (G:=G) (b:=true) hp rfl { G with mr:=ah G.mr p true } rfl;rw[u] at j;simp only[Ϟ,if_false,if_true] at j;refine⟨⟨H.rg,H.kid,H.Ik,H.ring,H.home,H.ord,H.alone,λy A Q=>?_,λx d r=>?_⟩,⟨R.ring,R.mem,R.top⟩,⟨s,hR⟩,λ_ _=>rfl,Θ _,by grind,ω,λ_ h=>h⟩
    .have o:y≠p:=λi=>e (i▸Q)
     show ah G.mr p true y=false
     rw[aY _ _ o];exact H.free y A Q
    .have:=wm (G:=G) (G':={ G with mr:=ah G.mr p true }) (ex:=λc=>if c=p then 1 else 0) (ex':=λ_=>0) (l:=G.K x) d (λc z=>by
      by_cases i:c=p
      .subst i
       show(G.K c).length+(if ah G.mr c true c=true then 1 else 0)+0=_
       rw[bG,u];simp
      .show(G.K c).length+(if ah G.mr p true c=true then 1 else 0)+0=_
       rw [aY _ _ i,Γ i])
     show few { G with mr:=ah G.mr p true } (λ_=>0) (G.K x) d<=d
     rw[this];exact H.cnt x d r
   .rw[Γ u];obtain⟨q,T,w,U⟩:=(H.Ik p hp).resolve_left e;rw[w,π];have B:q≠p:=λi=>by subst i;exact v _ (H.ord q q hp w)
    have C:p≠t:=λi=>by
     subst i;have:=((R.all h).2.1 p).1 (by rw[hR];simp);exact e this.2.2.1
    obtain⟨k,W,J,X,o5,K,o7,_⟩:=yV H R hR hp w B hh (hf p hp hh C);have D:bZ q=h:=by have:=(H.home p q hp w).1;omega
    have j:=rq (G:=G) (b:=false) hp rfl (dM h p G) X;have E:G.mr p=true:=by grind
    rw[E] at j;simp only[Ϟ,if_false,if_true] at j;have F:FF n (dM h p G) bZ L (λc=>if c=q then 1 else 0):=by
     refine⟨k.rg,k.kid,k.Ik,k.ring,k.home,k.ord,k.alone,k.free,λx d r=>?_⟩;have I:(dM h p G).up p=-1:=by rw[J,bG]
     rw [wm (G:=dM h p G) (ex:=λc=>if c=q then (if c=p then 1 else 0)+1 else if c=p then 1 else 0) d (λc z=>by
      have m:c≠p:=λi=>k.sN r I (i▸z)
      rw [Γ m])]
     exact k.cnt x d r
    have P:(dM h p G).R h=t::p::s:=by rw[K,bG]
    obtain⟨Y,Z,r3,r4,N,O,r7,r8⟩:=LX v f q (p::s) (dM h p G) F W P T D h1 hf ω;rw[P] at N O;rw[hR];simp only[Ω] at N O ⊢;refine⟨Y,Z,r3,λg S=>by rw[r4 g S,K,aY _ _ S],ω,ω,ω,λy A=>r8 y ?_⟩;have o:y≠p:=λi=>e (i▸A);rw[J,aY _ _ o];exact A
end
def dJ(n h x:Nat)(G:FG):FG:=if G.up x=-1 then G else sM (marks n (dM h x G)+1) h (G.up x).toNat (dM h x G)
def L8(h x:Nat)(G:FG):FG:={ G with R:=ah G.R h (x::BQ (G.R h) x) }
def fZ(A':NS)(h x:Nat)(G:FG):FG:=if G.up x≠-1/\nR A' x (G.up x).toNat=true then dJ A'.cs.length h x G else G
def lV(A':NS)(h x:Nat)(G:FG):FG:=if mi ((fZ A' h x G).R h)≠x/\nR A' x (mi ((fZ A' h x G).R h)).toNat=true then L8 h x (fZ A' h x G) else fZ A' h x G
def zA(A':NS)(h x:Nat)(G:FG):Nat:=(if G.up x=-1 then 0 else 1)+(if mi ((fZ A' h x G).R h)=x then 0 else 1)
def Qr(l k:List Nat)(x:Nat):List Nat:=l.takeWhile (λz=>z != x)++(k++(l.dropWhile (λz=>z != x)).tail)
def nZ(h x:Nat)(G:FG):FG:={ prt (bI G x) x with R:=ah G.R h (Qr (G.R h) (kl (G.K x)) x) }
def UW(A':NS)(h x:Nat)(G:FG):FG:=gP (nR A') h [x] G
def yS(A':NS)(a b:Nat)(G:FG):FG:=match G.R b with
 | []=>{ G with R:=ah G.R b [] }
 |x::r=>{ gP (nR A') a (x::r) G with R:=ah (gP (nR A') a (x::r) G).R b [] }
def TR(a b:Nat)(G:FG):Nat:=if G.R b=[] then 0 else qZ a G
section
variable{A:NS}{G:FG}
def Vb{n:Nat}{bZ:Nat->Int}{L M:Nat->Nat->Prop}(f:∀a,¬L a a){h x t p:Nat}{s:List Nat}(H:FF n G bZ L (λ_=>0))(K:FF n (dM h x G) bZ L (λc=>if c=p then 0+1 else 0))(R:FR n (dM h x G) bZ M none)(B:G.R h=t::s)(q:(dM h x G).R h=t::x::s)(i:∀g,g≠h->(dM h x G).R g=G.R g)
  (C:G.up x=p) (j:(dM h x G).up=ah G.up x (-1)) (k:(dM h x G).mr=ah G.mr x false) (D:x<n) (hp:p<n) (E:bZ p=h) (F:1<=h) (I:∀y,y<n->bZ y=h->y≠t->M t y):
  FF n (dJ n h x G) bZ L (λ_=>0)/\FR n (dJ n h x G) bZ M none/\(∃A,(dJ n h x G).R h=t::A)/\(∀g,g≠h->(dJ n h x G).R g=G.R g)/\(dJ n h x G).up x=-1/\
   (G.R h).length<=((dJ n h x G).R h).length/\((dJ n h x G).R h).length+marks n (dJ n h x G)<=(G.R h).length+marks n G+2/\marks n (dJ n h x G)<=marks n G+1:=by
 have e:dJ n h x G=sM (marks n (dM h x G)+1) h p (dM h x G):=by unfold dJ;rw[C,Γ ω,π]
 rw[e];obtain⟨r,u,v,w,l,m,J,z⟩:=LX (M:=M) f (marks n (dM h x G)+1) p (x::s) (dM h x G) (by grind) R q hp E F I ω;have d:=rq (G:=G) (b:=false) D rfl (dM h x G) k;simp only[Ϟ,if_false] at d;rw[q] at l m;rw[B];simp only[Ω] at l m ⊢;exact⟨r,u,v,λg o=>(w g o).trans (i g o),z x (by rw[j,bG]),ω,ω,ω⟩
def FR.imp{n:Nat}{bZ:Nat->Int}{L M:Nat->Nat->Prop}{g:Option Nat}(R:FR n G bZ L g)(h:∀g t s,G.R g=t::s->∀y,y∈s->L t y->M t y):FR n G bZ M g:=
 ⟨R.ring,R.mem,λg t s c a y b=>h g t s a y b (R.top g t s c a y b)⟩
def NY(I:yQ A G){x h:Nat}{k d:Int}(Y:iX A x k d=true)(u:x<A.cs.length)(Z:(A.c x).i=h)(h1:1<=h):
  ∃t s,G.R h=t::s/\(∀p:Nat,G.up x=p->p≠x/\
   FF A.cs.length (dM h x G) (λy=>(A.c y).i) (dA (aA A x k d)) (λc=>if c=p then 0+1 else 0)/\FR A.cs.length (dM h x G) (λy=>(A.c y).i) (λa y=>y≠x->dA (aA A x k d) a y) none/\(dM h x G).R h=t::x::s/\
   (∀y,y<A.cs.length->(A.c y).i=h->y≠t->y≠x->dA (aA A x k d) t y))/\
  FF A.cs.length (fZ (aA A x k d) h x G) (λy=>(A.c y).i) (dA (aA A x k d)) (λ_=>0)/\FR A.cs.length (fZ (aA A x k d) h x G) (λy=>(A.c y).i) (λa y=>y≠x->dA (aA A x k d) a y) none/\
   (∃s',(fZ (aA A x k d) h x G).R h=t::s')/\(∀g,g≠h->(fZ (aA A x k d) h x G).R g=G.R g)/\((fZ (aA A x k d) h x G).up x=-1\/(t≠x/\dA (aA A x k d) t x))/\
   (G.R h).length<=((fZ (aA A x k d) h x G).R h).length/\((fZ (aA A x k d) h x G).R h).length+marks A.cs.length (fZ (aA A x k d) h x G)<=(G.R h).length+marks A.cs.length G+2/\marks A.cs.length (fZ (aA A x k d) h x G)<=marks A.cs.length G+1:=by
 have hc:=vk Y u;have J:=wJ Y;rw[π] at J;have r:∀a y,y≠x->dA A a y->dA (aA A x k d) a y:=λa y f m=>by
  by_cases e:a=x
  .subst e;exact nu m (by grind) (by grind)
  .exact(fC (by grind) (by grind)).2 m
 obtain⟨t,s,o⟩:∃t s,G.R h=t::s:=by
  cases R:G.R h with
  |nil=>
   have h2:=I.IM R;have h3:=(jV (A:=A) (h:=(h:Int)) ω).1 h2;have:0<cZ A (h:Int):=fO.2 ⟨x,u,Z,ω⟩;omega
  |cons t s=>exact⟨t,s,rfl⟩
 have K:∀y,y<A.cs.length->(A.c y).i=h->y≠t->y≠x->dA (aA A x k d) t y:=λy f P Q i=>r t y i (I.first o f P Q);have F':FF A.cs.length G (λy=>(A.c y).i) (λa y=>y≠x->dA (aA A x k d) a y) (λ_=>0):=I.ff.mono (λy p f j v=>⟨(I.ff.home y p f j).1,(I.ff.home y p f j).2,λi=>r p y i v⟩) I.ff.alone;have R':FR A.cs.length G (λy=>(A.c y).i) (λa y=>y≠x->dA (aA A x k d) a y) none:=I.fr.imp (λg t s o y f m i=>r t y i m)
 have off:∀p:Nat,G.up x=p->p≠x/\FF A.cs.length (dM h x G) (λy=>(A.c y).i) (dA (aA A x k d)) (λc=>if c=p then 0+1 else 0)/\FR A.cs.length (dM h x G) (λy=>(A.c y).i) (λa y=>y≠x->dA (aA A x k d) a y) none/\(dM h x G).R h=t::x::s/\
   ((dM h x G).up=ah G.up x (-1)/\(dM h x G).mr=ah G.mr x false/\∀g,g≠h->(dM h x G).R g=G.R g):=λp hp=>by
  have l:p≠x:=λe=>by subst e;exact qp (I.ff.ord p p u hp)
  obtain⟨w,F,z,H,S,D,_,_⟩:=yV F' R' o u hp l Z (λh=>absurd rfl h);refine⟨l,w.mono (λy q f j v=>⟨(w.home y q f j).1,(w.home y q f j).2,v (λe=>?_)⟩) w.alone,F,by rw[D,bG],z,H,λg E=>by rw[D,aY _ _ E]⟩;subst e;rw[z,bG] at j;omega
 refine⟨t,s,o,λp hp=>⟨(off p hp).1,(off p hp).2.1,(off p hp).2.2.1,(off p hp).2.2.2.1,K⟩,?_⟩
 by_cases n:G.up x=-1
 .have e:fZ (aA A x k d) h x G=G:=by unfold fZ;rw[Γ (by simp[n])]
  rw[e];exact⟨F'.mono (λy p f j v=>⟨(F'.home y p f j).1,(F'.home y p f j).2,v (λe=>by grind)⟩) F'.alone,R',⟨s,o⟩,λ_ _=>rfl,Α n,Θ _,ω,ω⟩
 .obtain⟨p,hp,B,_⟩:=(I.ff.Ik x u).resolve_left n;have W:(A.c p).i=h:=by have:(A.c x).i=(A.c p).i:=(I.ff.home x p u B).1;omega
  cases m:nR (aA A x k d) x (G.up x).toNat with
  |true=>
   have e:fZ (aA A x k d) h x G=dJ A.cs.length h x G:=by unfold fZ;rw[Δ ⟨n,m⟩,gD]
   rw[e];obtain⟨o0,w,F,z,H,S,D⟩:=off p B;obtain⟨r1,r2,r3,r4,T,U,r7,r8⟩:=by
    have e':dJ A.cs.length h x G=sM (marks A.cs.length (dM h x G)+1) h p (dM h x G):=by unfold dJ;rw[B,Γ ω,π]
    have:=LX (M:=λa y=>y≠x->dA (aA A x k d) a y) (L:=dA (aA A x k d)) (λa=>qp) (marks A.cs.length (dM h x G)+1) p (x::s) (dM h x G) (by grind) F z hp W h1 (λy f P Q i=>K y f P Q i) ω;rw[←e'] at this;exact this
   have N:=rq (G:=G) (b:=false) u rfl (dM h x G) S;simp only[Ϟ,if_false] at N;rw[z] at T U;rw[o];simp only[Ω] at T U ⊢;exact⟨r1,r2,r3,λg E=>(r4 g E).trans (D g E),Α (r8 x (by rw[H,bG])),ω,ω,ω⟩
  |false=>
   have e:fZ (aA A x k d) h x G=G:=by unfold fZ;rw[Γ (by simp[m])]
   rw[e];have l:p≠x:=(off p B).1;have C:dA (aA A x k d) p x:=by
    rw[B,π] at m;unfold nR at m;have:¬dA (aA A x k d) x p:=by grind
    exact(jA l).resolve_right this
   have O:t≠x:=λe=>by
    subst e;have:=(I.kH o).2.2.2.1;omega
   refine⟨F'.mono (λy q f j v=>⟨(F'.home y q f j).1,(F'.home y q f j).2,?_⟩) F'.alone,R',⟨s,o⟩,λ_ _=>rfl,Β ⟨O,?_⟩,Θ _,ω,ω⟩
   .grind
   .by_cases X:p=t
    .subst X;exact C
    .exact dH (K p hp W X l) C
def abQ(I:yQ A G){x h:Nat}{k c:Int}(Z:iX A x k c=true)(Q:x<A.cs.length)(hh:(A.c x).i=h)(h1:1<=h):
  yQ (aA A x k c) (lV (aA A x k c) h x G)/\(∀g,g≠h->(lV (aA A x k c) h x G).R g=G.R g)/\(G.R h).length<=((lV (aA A x k c) h x G).R h).length/\
   ((lV (aA A x k c) h x G).R h).length+marks A.cs.length (lV (aA A x k c) h x G)<=(G.R h).length+marks A.cs.length G+2/\marks A.cs.length (lV (aA A x k c) h x G)<=marks A.cs.length G+1:=by
 obtain⟨t,s,hR,_,R,r,⟨E,l⟩,f4,f5,f6,S,T⟩:=NY I Z Q hh h1;have hi:∀y,((aA A x k c).c y).i=(A.c y).i:=iW Z Q;have hl:=gD A x k c;obtain⟨u,U,q3⟩:=r.all h;rw[l] at u;have K:=Ζ.1 u.nd;have X:∀G',FF A.cs.length G' (λy=>(A.c y).i) (dA (aA A x k c)) (λ_=>0)->FF (aA A x k c).cs.length G' (λy=>((aA A x k c).c y).i) (dA (aA A x k c)) (λ_=>0):=λG' H=>by
  grind
 have v:∀G',FR A.cs.length G' (λy=>(A.c y).i) (dA (aA A x k c)) none->FR (aA A x k c).cs.length G' (λy=>((aA A x k c).c y).i) (dA (aA A x k c)) none:=λG' H=>by
  rw[hl,show(λy=>((aA A x k c).c y).i)=(λy=>(A.c y).i) from funext hi];exact H
 have Y:∀g,g≠h->x∉(fZ (aA A x k c) h x G).R g:=λg O L=>by
  have:=(((r.all g).2.1 x).1 L).2.2.2
  grind
 by_cases p:mi ((fZ (aA A x k c) h x G).R h)≠x/\nR (aA A x k c) x (mi ((fZ (aA A x k c) h x G).R h)).toNat=true
 .have e:lV (aA A x k c) h x G=L8 h x (fZ (aA A x k c) h x G):=by unfold lV;rw[Δ p]
  rw[e];rw[l] at p;have htx:t≠x:=λJ=>p.1 (by rw[J];rfl);have i:dA (aA A x k c) x t:=by
   have:=p.2;unfold nR mi at this;simpa using this
  have ux:(fZ (aA A x k c) h x G).up x=-1:=f5.resolve_right (λh'=>rA i h'.2);have L:x∈t::E:=by rw[←l];exact(U x).2 ⟨h1,Q,ux,hh⟩
  obtain⟨a,b,W,J,xa,xb⟩:=Nb L u.nd;have F:(L8 h x (fZ (aA A x k c) h x G)).R h=x::(b++a):=by
   show ah _ h _ h=_
   rw[bG,l,J]
  have m:∀g,g≠h->(L8 h x (fZ (aA A x k c) h x G)).R g=(fZ (aA A x k c) h x G).R g:=λg O=>aY _ _ O;have w:∀z,z∈x::(b++a)↔z∈t::E:=λz=>by rw[W];simp;grind
  have B:(x::(b++a)).length=((fZ (aA A x k c) h x G).R h).length:=by grind
  refine⟨⟨X _ (R.dm _),v _ ⟨λg _=>?_,λg y _=>?_,λg t' j _ d y D=>?_⟩⟩,λg O=>by grind,by grind,by rw[F,B];exact S,T⟩
  .by_cases f:g=h
   .subst f;rw[F];rw[W] at u;exact Ring.XE (a:=a) (b:=x::b) u
   .rw[m g f];exact(r.all g).1
  .by_cases f:g=h
   .subst f;rw[F,w,←l];exact U y
   .rw[m g f];exact(r.all g).2.1 y
  .by_cases f:g=h
   .subst f;rw[F] at d;have M:x=t':=by injection d
    have N:b++a=j:=by injection d
    subst M N;have n:=(w y).1 (by grind);have o:y≠x:=λe=>by subst e;simp at D;rcases D with h|h;exact xb h;exact xa h
    rcases ρ.1 n with rfl|n
    .exact i
    .exact dH i (q3 t E l y n o)
   .rw[m g f] at d;have o:y≠x:=λe=>Y g f (by grind);exact(r.all g).2.2 t' j d y D o
 .have e:lV (aA A x k c) h x G=fZ (aA A x k c) h x G:=by unfold lV;rw[Γ p]
  rw[e];refine⟨⟨X _ R,v _ (r.imp (λg t' j d y D P=>?_))⟩,f4,f6,S,T⟩
  by_cases q:y=x
  .by_cases f:g=h
   .subst f;rw[l] at d p;have M:t=t':=by injection d
    have N:E=j:=by injection d
    subst M N q;have C:t≠y:=λe=>K.1 (e▸D);have:¬dA (aA A y k c) y t:=λi=>p ⟨λe=>C (by have:(t:Int)=(y:Int):=e;omega),by unfold nR mi;simpa using i⟩;exact(jA C).resolve_right this
   .subst q;exact absurd (by grind) (Y g f)
  .exact P q
end
def CO.done{n:Nat}{bZ:Nat->Int}{L:Nat->Nat->Prop}{h:Nat}{G:FG}(H:CO n bZ L h [] G)(f:1<=h):FR n G bZ L none:=by
 refine⟨λg _=>?_,λg y _=>?_,λg t s _ c=>?_⟩
 all_goals by_cases e:g=h
 .subst e;exact H.ring
 .exact H.fr.ring g (by simp;exact e)
 .subst e;constructor
  .intro d;exact⟨f,H.mem y d⟩
  .rintro⟨_,a⟩;rcases H.all y a with b|b
   .exact b
   .cases b
 .exact H.fr.mem g y (by simp;exact e)
 .subst e;exact H.top t s c
 .exact H.fr.top g t s (by simp;exact e) c
section
variable{A:NS}{G:FG}
def abL(n:Nat):yQ (NS.new n) FG.none:=by
 have g:∀y,((NS.new n).c y).i=0:=λy=>by rw[NS.uK];rfl
 refine⟨⟨⟨λx a=>a,λx a=>a,λ_ _=>rfl,λ_ _=>rfl⟩,λx y _ f=>(by cases f),λy _=>Α rfl,λx _=>Ring.nil _,λy p _ b=>?_,λy p _ b=>?_,λy _ _=>⟨rfl,rfl,rfl⟩,λy _ _=>rfl,λx d _=>Nat.zero_le _⟩,⟨λh _=>Ring.nil _,λh y _=>?_,λh t s _ e=>(by cases e)⟩⟩
 .have:(-1:Int)=p:=b;omega
 .have:(-1:Int)=p:=b;omega
 .constructor
  .intro c;cases c
  .grind
def ZX(I:yQ A G):yQ (aO A) G:=by
 have b:(aO A).cs=A.cs:=by unfold aO;split<;>rfl
 have a:∀y,(aO A).c y=A.c y:=λy=>by unfold NS.c;rw[b]
 have c:(λy=>((aO A).c y).i)=(λy=>(A.c y).i):=funext (λy=>by rw[a]);refine⟨?_,?_⟩
 .rw[b,c];exact I.ff.mono (λy p d e f=>⟨(I.ff.home y p d e).1,(I.ff.home y p d e).2,(fC (a p) (a y)).2 f⟩) I.ff.alone
 .rw[b,c];exact I.fr.imp (λg t s _ y _ h=>(fC (a t) (a y)).2 h)
def ac0(I:yQ A G)(ok:A.Ok){h x:Nat}(k s:Int)(O:oF A h x=true):
  yQ (aN A h x k s) (UW (aN A h x k s) h x G)/\((UW (aN A h x k s) h x G).R h).length=(G.R h).length+1/\(∀g,g≠h->(UW (aN A h x k s) h x G).R g=G.R g)/\(UW (aN A h x k s) h x G).mr=G.mr/\1<=h/\x<A.cs.length/\
   bY (aN A h x k s) (x:Int)=true/\(∀t o,G.R h=t::o->bY (aN A h x k s) (t:Int)=true)/\(aN A h x k s).cs.length=A.cs.length:=by
 obtain⟨P,Q,b3⟩:=(fB _ _ _).1 O;have b4:=(aF _ _).1 P;have b5:=(il _ _).1 Q;have m:x<A.cs.length:=ω;have v:1<=h:=ω;have J:aN A h x k s=gu A x ⟨h,k,s⟩:=by unfold aN;rw[O];rfl
 have w:∀y,(aN A h x k s).c y=if y=x then⟨h,k,s⟩ else A.c y:=λy=>by rw[J,mg];simp[m]
 have q:(aN A h x k s).cs.length=A.cs.length:=by rw[J,fM]
 have K:¬0<(A.c x).i:=λW=>by
  have:bY A (x:Int)=true:=(aj _ _).2 ⟨m,W⟩
  grind
 obtain⟨E,R,nx⟩:=I.ff.alone x m K;have bZ:∀y,y≠x->((aN A h x k s).c y).i=(A.c y).i:=λy d=>by rw[w,Γ d]
 have L:((aN A h x k s).c x).i=h:=by rw[w,Δ rfl]
 have r:∀y,0<(A.c y).i->y≠x:=λy d e=>K (e▸d);have B:∀a y,a≠x->y≠x->(dA (aN A h x k s) a y↔dA A a y):=λa y X d=>fC (by rw[w,Γ X]) (by rw[w,Γ d])
 have F':FF A.cs.length G (λy=>((aN A h x k s).c y).i) (dA (aN A h x k s)) (λ_=>0):=I.ff.mono (λy p d Y Z=>by
  have C:=I.ff.home y p d Y;have u:0<(A.c y).i:=C.2;have D:0<(A.c p).i:=by have:(A.c y).i=(A.c p).i:=C.1;omega
  have j:=r y u;have n:=r p D;exact⟨by simp only[bZ y j,bZ p n];exact C.1,by simp only[bZ y j];exact u,(B p y n j).2 Z⟩) (λy d N=>by
  by_cases e:y=x
  .subst e;exact⟨E,R,nx⟩
  .simp only [bZ y e] at N;exact I.ff.alone y d N)
 have l:∀g z,z∈G.R g->z≠x/\(A.c z).i=g/\1<=g:=λg z f=>by
  have:=I.out f
  grind
 have M:∀g z,z≠x->(z∈G.R g↔1<=g/\z<A.cs.length/\G.up z=-1/\((aN A h x k s).c z).i=g):=λg z f=>by rw[bZ z f];exact(I.fr.all g).2.1 z
 have H:CO A.cs.length (λy=>((aN A h x k s).c y).i) (dA (aN A h x k s)) h [x] G:=by
  refine⟨F',⟨λg _=>(I.fr.all g).1,λg z hg=>?_,λg t o _ i y d=>?_⟩,(I.fr.all h).1,λt o i y d=>?_,λz f=>?_,σ,λz f=>?_,λz f=>?_⟩
  .grind
  .have j:=(l g t (by rw[i];simp)).1;have n:=(l g y (by rw[i];simp[d])).1;exact(B t y j n).2 ((I.fr.all g).2.2 t o i y d)
  .have j:=(l h t (by rw[i];simp)).1;have n:=(l h y (by rw[i];simp[d])).1;exact(B t y j n).2 ((I.fr.all h).2.2 t o i y d)
  .exact((M h z (l h z f).1).1 f).2
  .simp at f;subst f;exact⟨⟨m,E,L⟩,nx,λhm=>(l h z hm).1 rfl⟩
  .by_cases e:z=x
   .grind
   .exact Α ((M h z e).2 ⟨v,f⟩)
 obtain⟨F,S⟩:=H.step v (λG=>Ab _ _ _ _ _) (λa b c=>dH);obtain⟨s1,T,s3,U⟩:=tH (nR (aN A h x k s)) h [x] G;refine⟨⟨by rw[q];exact F.ff,by rw[q];exact F.done v⟩,S,U,T,v,m,(aj _ _).2 ⟨by rw[q];exact m,by rw[L];omega⟩,λt o i=>?_,q⟩;have:=I.out (h:=h) (z:=t) (by rw[i];simp);exact(aj _ _).2 ⟨by rw[q];exact this.2.1,by rw[bZ t (l h t (by rw[i];simp)).1];omega⟩
def abP(I:yQ A G)(ok:A.Ok){a b:Nat}(D:fQ A a b=true):
  yQ (az A a b) (yS (az A a b) a b G)/\((yS (az A a b) a b G).R a).length=(G.R a).length+(G.R b).length/\(yS (az A a b) a b G).R b=[]/\(∀g,g≠a->g≠b->(yS (az A a b) a b G).R g=G.R g)/\(yS (az A a b) a b G).mr=G.mr/\a≠b/\
   (∀t g f,G.R g=t::f->bY (az A a b) (t:Int)=true):=by
 obtain⟨K,L,M⟩:=(dI _ _ _).1 D;have a4:=(aF _ _).1 K;have b4:=(aF _ _).1 L;have l:a≠b:=λe=>M (by rw[e]);have U:1<=a:=ω;have h2:1<=b:=ω;have o:=eU A a b;have bZ:∀y,y<A.cs.length->((az A a b).c y).i=if(A.c y).i=b then(a:Int) else(A.c y).i:=λy d=>by
  rw[pO D]
  grind
 have B:=oW D;have eL:∀x y,dA (az A a b) x y=dA A x y:=λx y=>propext (B x y)
 have F':FF A.cs.length G (λy=>((az A a b).c y).i) (dA (az A a b)) (λ_=>0):=I.ff.mono (λy p d J Z=>by
  have E:=I.ff.home y p d J;have hp:=(I.ff.above d J).1;have W:(A.c y).i=(A.c p).i:=E.1;have X:0<(A.c y).i:=E.2;refine⟨by simp only[bZ y d,bZ p hp,W],?_,(B p y).2 Z⟩;simp only[bZ y d]
  split<;>omega) (λy d h0=>I.ff.alone y d (λh'=>h0 (by
   have X:0<(A.c y).i:=h'
   simp only [bZ y d];split<;>omega)))
 have rt:∀g z,xS A.cs.length G (λy=>((az A a b).c y).i) g z↔z<A.cs.length/\G.up z=-1/\(if(A.c z).i=b then(a:Int) else(A.c z).i)=g:=λg z=>by
  unfold xS
  grind
 have q:∀t g f,G.R g=t::f->bY (az A a b) (t:Int)=true:=λt g f k=>by
  have:=I.out (h:=g) (z:=t) (by rw[k];simp);refine(aj _ _).2 ⟨by rw[o];exact this.2.1,?_⟩
  grind
 have Y:∀g,g≠a->g≠b->∀z,z∈G.R g↔1<=g/\xS A.cs.length G (λy=>((az A a b).c y).i) g z:=λg ga i z=>by
  rw[rt,(I.fr.all g).2.1 z];unfold xS
  grind
 have m:∀g t f,G.R g=t::f->∀y,y∈f->dA (az A a b) t y:=λg t f k y d=>(B t y).2 ((I.fr.all g).2.2 t f k y d);have F:∀z,(z∈G.R a\/z∈G.R b)↔xS A.cs.length G (λy=>((az A a b).c y).i) a z:=λz=>by
  rw[rt,(I.fr.all a).2.1 z,(I.fr.all b).2.1 z];unfold xS
  grind
 have nb:∀z,¬xS A.cs.length G (λy=>((az A a b).c y).i) b z:=λz n=>by
  grind
 cases c:G.R b with
 |nil=>
  have e:yS (az A a b) a b G={ G with R:=ah G.R b [] }:=by unfold yS;rw[c]
  have w:({ G with R:=ah G.R b [] }:FG).R=G.R:=by
   show ah G.R b []=G.R
   funext z;unfold ah;by_cases ez:z=b
   .grind
   .rw[Γ ez]
  rw[e];refine⟨⟨by rw[o];exact F'.dm _,?_⟩,by rw[w];simp,bG _ _ _,λg _ hg=>aY _ _ hg,rfl,l,q⟩;rw[o];refine⟨λg _=>by rw[w];exact(I.fr.all g).1,λg y _=>?_,λg t s _ k=>by rw[w] at k;exact m g t s k⟩;rw[w]
  grind
 |cons x r=>
  have e:yS (az A a b) a b G={ gP (nR (az A a b)) a (x::r) G with R:=ah (gP (nR (az A a b)) a (x::r) G).R b [] }:=by unfold yS;rw[c]
  rw[e];have H:=(I.fr.all b).1;rw[c] at H
  obtain ⟨N,c2,O,c4,P⟩:=xE (lt:=nR (az A a b)) (h:=a) F' U (Ab _ _ _ _ _) (λ_ _ _=>dH) (I.fr.all a).1 H (λz n hm=>by
    have x1:=(I.out n).2.2.2.1;have x2:=(I.out (h:=b) (z:=z) (by rw[c];exact hm)).2.2.2.1
    omega) (λz n=>(F z).1 (Α n)) (λz n=>(F z).1 (Β (by rw [c];exact n))) (m a) (m b x r c)
  obtain⟨Q,S,s3,T⟩:=tH (nR (az A a b)) a (x::r) G;generalize gP (nR (az A a b)) a (x::r) G=j at *;have C:ah j.R b [] a=j.R a:=aY _ _ l;have u:∀g,g≠a->g≠b->ah j.R b [] g=G.R g:=λg ga i=>(aY _ _ i).trans (T g ga);refine⟨⟨by rw[o];exact N.dm _,?_⟩,?_,bG _ _ _,u,S,l,q⟩
  .rw[o];refine⟨λg _=>?_,λg y _=>?_,λg t s _ k=>?_⟩
   all_goals by_cases ga:g=a
   .grind
   .show Ring j.nx (ah j.R b [] g)
    by_cases i:g=b
    .rw[i,bG];exact Ring.nil _
    .rw[u g ga i];refine P _ (I.fr.all g).1 (λz n=>?_)
     grind
   .grind
   .show y∈ah j.R b [] g↔1<=g/\y<_/\j.up y=-1/\_
    rw[Q]
    by_cases i:g=b
    .subst i;rw[bG]
     grind
    .grind
   .grind
   .have v:ah j.R b [] g=t::s:=k
    by_cases i:g=b
    .rw[i,bG] at v;cases v
    .grind
  .show(ah j.R b [] a).length=_
   rw[C,O.length_eq,υ]
end
section
variable{A:NS}{G:FG}
def Z0(I:yQ A G){x h t:Nat}{s:List Nat}(f:G.R h=t::s)(d:x<A.cs.length)(v:(A.c x).i=h)(o:t≠x):
  (∀p:Nat,G.up x=p->p≠x/\p<A.cs.length/\(A.c p).i=h/\FF A.cs.length (dM h x G) (λy=>(A.c y).i) (dA A) (λc=>if c=p then 0+1 else 0)/\FR A.cs.length (dM h x G) (λy=>(A.c y).i) (dA A) none/\(dM h x G).R h=t::x::s)/\
  FF A.cs.length (dJ A.cs.length h x G) (λy=>(A.c y).i) (dA A) (λ_=>0)/\FR A.cs.length (dJ A.cs.length h x G) (λy=>(A.c y).i) (dA A) none/\(∃F,(dJ A.cs.length h x G).R h=t::F)/\(∀g,g≠h->(dJ A.cs.length h x G).R g=G.R g)/\(dJ A.cs.length h x G).up x=-1/\
   (G.R h).length<=((dJ A.cs.length h x G).R h).length/\((dJ A.cs.length h x G).R h).length+marks A.cs.length (dJ A.cs.length h x G)<=(G.R h).length+marks A.cs.length G+2/\marks A.cs.length (dJ A.cs.length h x G)<=marks A.cs.length G+1:=by
 obtain⟨H,w,J,K,z⟩:=I.kH f;have off:∀p:Nat,G.up x=p->(p≠x/\p<A.cs.length/\(A.c p).i=h/\FF A.cs.length (dM h x G) (λy=>(A.c y).i) (dA A) (λc=>if c=p then 0+1 else 0)/\FR A.cs.length (dM h x G) (λy=>(A.c y).i) (dA A) none/\(dM h x G).R h=t::x::s)/\
   ((dM h x G).up=ah G.up x (-1)/\(dM h x G).mr=ah G.mr x false/\∀g,g≠h->(dM h x G).R g=G.R g):=λp hp=>by
  have i:p≠x:=λe=>by subst e;exact qp (I.ff.ord p p d hp)
  obtain⟨k,l,m,n,q,j,_,_⟩:=yV I.ff I.fr f d hp i v (I.first f d v (Ne.symm o));have u:(A.c x).i=(A.c p).i:=(I.ff.home x p d hp).1;exact⟨⟨i,(I.ff.above d hp).1,ω,k,l,by rw[j,bG]⟩,m,n,λg B=>by rw[j,aY _ _ B]⟩
 refine⟨λp hp=>(off p hp).1,?_⟩
 by_cases b:G.up x=-1
 .have e:dJ A.cs.length h x G=G:=by unfold dJ;rw[Δ b]
  rw[e];exact⟨I.ff,I.fr,⟨s,f⟩,λ_ _=>rfl,b,Θ _,ω,ω⟩
 .obtain⟨p,hp,r,_⟩:=(I.ff.Ik x d).resolve_left b;obtain⟨⟨L,_,u,k,l,m⟩,n,q,j⟩:=off p r;exact Vb (λa=>qp) I.ff k l f m j r n q d hp u w (λy C D E=>I.first f C D E)
def aaY(I:yQ A G)(ok:A.Ok){x h t:Nat}{s:List Nat}(O:G.R h=t::s)(v:x<A.cs.length)(R:G.up x=-1)(hh:(A.c x).i=h)(P:t≠x):
  yQ (aS A x) (nZ h x G)/\mi ((nZ h x G).R h)=t/\((nZ h x G).R h).length+1=(G.R h).length+(G.K x).length/\(∀g,g≠h->(nZ h x G).R g=G.R g)/\marks A.cs.length (nZ h x G)<=marks A.cs.length G:=by
 obtain⟨m1,T,ht,ut,hth⟩:=I.kH O;have X:(0:Int)<(A.c x).i:=ω;have Y:bY A (x:Int)=true:=(aj _ _).2 ⟨v,X⟩;have hc:=λy=>zN Y y;have Z:=fF A (x:Int);obtain⟨U,W,q3⟩:=I.fr.all h;have j:x∈G.R h:=(W x).2 ⟨T,v,R,hh⟩;obtain⟨a,b,m,xa,xb,e2,e3⟩:=ES j U.nd;have D:Qr (G.R h) (kl (G.K x)) x=a++(kl (G.K x)++b):=by unfold Qr;rw[e2,e3]
 obtain⟨w,Q⟩:∃w,a=t::w:=by
  rw[O] at m;cases a with
  |nil=>simp at m;exact absurd m.1 P
  |cons y w=>simp at m;exact⟨w,by rw[m.1]⟩
 obtain⟨B,r1,r2⟩:=I.ff.raise v R X;have E:=CB G R;have mr1:=KI G (I.ff.free x v R);have K1:=AQ G x;have Ex:∀z,G.up z=-1->z∉G.K x:=λz f=>I.ff.sN v f;have rr:∀z,z∈G.R h->z<A.cs.length/\G.up z=-1/\(A.c z).i=h:=λz f=>((W z).1 f).2;have kr:∀z,z∈G.K x->z<A.cs.length/\G.up z=x/\(A.c z).i=h:=λz f=>by
  obtain⟨k1,k2⟩:=I.ff.kid x z v f;have k3:(A.c z).i=(A.c x).i:=(I.ff.home z x k1 k2).1
  grind
 rw[m] at U;have g1:=r2 a b U (λz f=>Ex z (rr z (by grind)).2.1);have g2:Ring (bI G x).nx (x::((kl (G.K x)++b)++a)):=Ring.XE (a:=a) (b:=x::(kl (G.K x)++b)) g1;have mm:∀z,z∈x::((kl (G.K x)++b)++a)↔z∈G.R h\/z∈G.K x:=λz=>by rw[m];simp[Ni];grind
 have i:∀z,z∈x::((kl (G.K x)++b)++a)->z<A.cs.length/\(bI G x).up z=-1/\(A.c z).i=h:=λz f=>by
  grind
 obtain⟨p1,p2⟩:=B.rg.part g2 (λz f=>(i z f).1);have F:=Ζ.1 g2.nd;have hpm:(bI G x).pv x∈x::((kl (G.K x)++b)++a):=by
  rcases List.eq_nil_or_concat ((kl (G.K x)++b)++a) with e|⟨c,y,e⟩
  .grind
  .rw[List.concat_eq_append] at e;have:=B.rg.last (x:=x) (y:=y) (a:=c) (by grind) (i y (by rw[e];simp)).1;rw[this,e];simp
 have H:=i _ hpm;have p3:Ring (dP (bI G x).nx x ((bI G x).pv x)) (a++(kl (G.K x)++b)):=Ring.XE (a:=kl (G.K x)++b) (b:=a) p2;have F2:=B.Om v H.1 (i x σ).2.1 H.2.1 X (by grind);have J:(nZ h x G).R h=a++(kl (G.K x)++b):=by show ah G.R h _ h=_;rw[bG,D]
 have q:∀g,g≠h->(nZ h x G).R g=G.R g:=λg hg=>aY _ _ hg;have K:(nZ h x G).up=(bI G x).up:=rfl;have K2:(nZ h x G).K=ah G.K x []:=K1;have L:(nZ h x G).nx=dP (bI G x).nx x ((bI G x).pv x):=rfl;have zu:∀z,z≠x->((aS A (x:Int)).c z).i=(A.c z).i:=λz f=>by rw[hc,Γ f]
 have Bj:((aS A (x:Int)).c x).i=0:=by rw[hc,Δ rfl];rfl
 have Xg:∀y z,y≠x->z≠x->(dA (aS A (x:Int)) y z↔dA A y z):=λy z k f=>fC (by grind) (by grind);have F3:FF A.cs.length (nZ h x G) (λy=>((aS A (x:Int)).c y).i) (dA (aS A (x:Int))) (λ_=>0):=by
  refine(F2.dm _).mono (λy p k hu ho=>?_) (λy k h2=>?_)
  .have r:(bI G x).up y=p:=hu;have d:y≠x:=λe=>by subst e;rw[(i y σ).2.1] at r;omega
   have hpx:p≠x:=λe=>by
    have M:y∈(bI G x).K p:=(B.above k r).2;rw[K1,e,bG] at M;cases M
   have JN:(A.c y).i=(A.c p).i:=(B.home y p k r).1;have hh2:0<(A.c y).i:=(B.home y p k r).2;exact⟨by grind,by grind,(Xg p y hpx d).2 ho⟩
  .by_cases e:y=x
   .subst e;exact⟨(i y σ).2.1,by show(bI G y).K y=[];rw[K1,bG],jr.1 p1⟩
   .have h3:¬0<(A.c y).i:=by simp only[zu y e] at h2;exact h2
    exact F2.alone y k h3
 have N:∀y,y∈w++(kl (G.K x)++b)->y≠x/\dA A t y:=λy k=>by
  have d:y≠x:=λe=>by
   subst e;refine F.1 ?_;rw[Q];simp only[τ,ρ] at k ⊢;rcases k with h|h|h
   .exact Β (Β h)
   .exact Α (Α h)
   .exact Α (Β h)
  refine⟨d,?_⟩;simp only[τ,Ni] at k;have old:y∈s->dA A t y:=λh=>q3 t s O y h;rw[O,Q] at m;simp only[List.cons_append,List.cons.injEq,true_and] at m;rcases k with h|h|h
  .exact old (by rw[m];simp[h])
  .exact I.first O (kr y h).1 (kr y h).2.2 (λe=>by grind)
  .exact old (by rw[m];simp[h])
 refine⟨⟨by grind,?_⟩,by rw[J,Q];rfl,?_,q,?_⟩
 .rw[Z];refine⟨λg _=>?_,λg y _=>?_,λg t' s' _ n y k=>?_⟩
  all_goals by_cases l:g=h
  .rw[l,J,L];exact p3
  .rw[q g l,L];have old:=(I.fr.all g);have f:∀z,z∈G.R g->G.up z=-1/\(A.c z).i=g:=λz f=>⟨((old.2.1 z).1 f).2.2.1,((old.2.1 z).1 f).2.2.2⟩
   have hr:=r1 _ old.1 (λj=>l (by grind)) (λz j=>Ex z (f z j).1);exact hr.nJ (λj=>l (by grind)) (λj=>l (by grind))
  .rw[l,J,K];have:y∈a++(kl (G.K x)++b)↔y≠x/\(y∈G.R h\/y∈G.K x):=by
    rw[←mm];constructor
    .intro j;refine⟨λe=>F.1 (by grind),?_⟩;simp only[ρ,τ] at j ⊢;rcases j with h|h|h
     .exact Β (Β h)
     .exact Β (Α (Α h))
     .exact Β (Α (Β h))
    .rintro⟨d,j⟩;simp only[ρ,τ] at j ⊢;rcases j with h|(h|h)|h
     .exact absurd h d
     .exact Β (Α h)
     .exact Β (Β h)
     .exact Α h
   rw[this];constructor
   .rintro⟨d,j⟩;have:=i y ((mm y).2 j);exact⟨T,this.1,this.2.1,by grind⟩
   .rintro⟨_,C,u,o⟩;have d:y≠x:=λe=>by subst e;simp only[Bj] at o;omega
    simp only[zu y d] at o;rw[E] at u;refine⟨d,?_⟩
    split at u
    .rename_i hk;exact Β hk
    .exact Α ((W y).2 ⟨T,C,u,o⟩)
  .rw[q g l,K,(I.fr.all g).2.1 y];constructor
   .rintro⟨S,C,u,o⟩;have a3':(A.c y).i=g:=o;have d:y≠x:=λe=>by subst e;exact l ω
    exact⟨S,C,by grind,by grind⟩
   .rintro⟨S,C,u,o⟩;have d:y≠x:=λe=>by subst e;simp only[Bj] at o;omega
    simp only[zu y d] at o;rw[E] at u
    split at u
    .rename_i hk
     have:=(kr y hk).2.2;exact absurd (show g=h by omega) l
    .exact⟨S,C,u,o⟩
  .rw[l,J,Q] at n;have e4:t=t':=by injection n
   have e5:w++(kl (G.K x)++b)=s':=by injection n
   subst e4 e5;have:=N y k;exact(Xg t y P this.1).2 this.2
  .rw[q g l] at n;have xt:t'≠x:=λe=>l (by have:=(I.out (h:=g) (z:=t') (by grind)).2.2.2.1;rw[e] at this;omega);have xy:y≠x:=λe=>l (by have:=(I.out (h:=g) (z:=y) (by grind)).2.2.2.1;rw[e] at this;omega);exact(Xg t' y xt xy).2 ((I.fr.all g).2.2 t' s' n y k)
 .rw[J,m];simp[UB];omega
 .unfold marks;have:(nZ h x G).mr=(bI G x).mr:=rfl;rw[this];rw[←List.countP_eq_length_filter,←List.countP_eq_length_filter];refine List.countP_mono_left (λz _ f=>?_);rw[mr1] at f
  split at f
  .cases f
  .exact f
end


open Go Go.RowKit

section
variable{w:World}{B:FB}{F:List Nat}{gt ct:Nat}{A:NS}{st:Nat}{G:FG}
def Nf{α:Type}(f:Nat->α)(x:Nat)(u v:α):ah (ah f x u) x v=ah f x v:=by
 funext z;unfold ah;split<;>rfl
def fD.kids(M:fD w B F gt ct A st G)(p:Nat)(l:List Nat)(d v:Int)(a:d=(l.length:Int))(b:v=mi l):
  fD ((w.setCell ⟨B.bl,p*4+2,none⟩ (.int .i64 d)).setCell ⟨B.bl,p*4+1,none⟩ (.int .i64 v)) B F gt ct A st { G with K:=ah G.K p l }:=by
 refine M.Ls (up:=G.up) (mr:=G.mr) ν ?_;unfold oZ;simp only[GK,kV,←b,←a];exact rU (uV M.pl p d) p v
def fD.aeX(M:fD w B F gt ct A st G)(p:Nat)(l:List Nat)(d v u:Int)(a:d=(l.length:Int))(b:v=mi l):
  fD (((w.setCell ⟨B.bl,p*4+2,none⟩ (.int .i64 d)).setCell ⟨B.bl,p*4+1,none⟩ (.int .i64 u)).setCell ⟨B.bl,p*4+1,none⟩ (.int .i64 v)) B F gt ct A st { G with K:=ah G.K p l }:=by
 refine M.Ls (up:=G.up) (mr:=G.mr) ν ?_;unfold oZ;simp only[GK,kV,←b,←a];have:=rU (rU (uV M.pl p d) p u) p v;rw[Nf] at this;exact this
def fD.lone(M:fD w B F gt ct A st G)(x:Nat):fD ((w.setCell ⟨B.bl,x*4,none⟩ (.int .i64 (-1))).setCell ⟨B.bl,x*4+3,none⟩ (.bool false)) B F gt ct A st { G with up:=ah G.up x (-1),mr:=ah G.mr x false }:=by
 refine M.Ls (K:=G.K) ν ?_;exact rH (vD M.pl x (-1)) x false
def vK{c:Code}{K:Exit->Act->World->Prop}{a:Act}{W:World}(R:World->Prop)(h:R W)(k:∀b,R b->Code.wp prog c K a b):Code.wp prog c K a W:=k W h
def IP(M:fD w B F gt ct A st G){q x p t:Nat}{s:List Nat}(hq:q<A.hs.length)(o:x<A.cs.length)(hp:p<A.cs.length)(ux:G.up x=p)(hR:G.R q=t::s)(ht:t<A.cs.length)
  (hl:(G.K p).length=(BQ (G.K p) x).length+1) (hl2:(G.K p).length<=65536) (J:G.nx x=(BQ (G.K p) x).headD x) (v:x∉BQ (G.K p) x):
  Calls prog 221 #[B.n0,(q:Int),(x:Int)] w λe w'=>e=.returned (.tuple #[])/\fD w' B F gt ct A st (dM q x G)/\ae [B.bn,B.bp,B.bl] w w':=by
 have h2:=M.h2;have h1:=M.h1;have Dy:(x:Int)<(A.cs.length:Int):=ω;have hpI:(p:Int)<(A.cs.length:Int):=ω;have px0:=M.p0 o;rw[ux] at px0;have pp1:=M.p1 hp;have pp2:=M.p2 hp;have fp1:=M.pl.free (p*4+1);have fp2:=M.pl.free (p*4+2);have eg:dM q x G={ nx:=dP (dP G.nx x (G.pv x)) t x,pv:=jO (dP G.nx x (G.pv x)) (jO G.nx G.pv x (G.pv x)) t x,up:=ah G.up x (-1),mr:=ah G.mr x false,K:=ah G.K p (BQ (G.K p) x),R:=ah G.R q (t::x::s) }:=by
  unfold dM;rw[hR,ux];rfl
 rw[eg];have P:IntKind.i64.wrap (((G.K p).length:Int)-1)=((BQ (G.K p) x).length:Int):=by rw[Μ _ ω];omega
 obtain⟨g1,g2,g3,g4,g5,g6,g7⟩:=M.d3;obtain⟨e1,e2,e3,e4,e5⟩:=M.d2;have u:=M.lt;have b:∀W,fD W B F gt ct A st { G with K:=ah G.K p (BQ (G.K p) x) }->Calls prog 226 #[B.br,(x:Int)] W λe w'=>e=.returned (.tuple #[(G.nx x:Int),true])/\w'=W:=λW a=>Em a.rings o
 have E:∀W,fD W B F gt ct A st { G with K:=ah G.K p (BQ (G.K p) x) }->Calls prog 217 #[B.br,(x:Int)] W λe w'=>e=.returned true/\Ai w' B.br B.bn B.bp A.cs.length (dP G.nx x (G.pv x)) (jO G.nx G.pv x (G.pv x))/\ae [B.bn,B.bp] W w':=λW a=>zi a.rings o;cases Z:BQ (G.K p) x with
 |nil=>
  rw[Z] at J P hl E b;have i:G.nx x=x:=J;rw[i] at b;obtain⟨f,l⟩:∃f,f=(w.setCell ⟨B.bl,p*4+2,none⟩ (.int .i64 0)).setCell ⟨B.bl,p*4+1,none⟩ (.int .i64 (-1)):=⟨_,rfl⟩;have H:fD f B F gt ct A st { G with K:=ah G.K p [] }:=by rw[l];exact M.kids p [] 0 (-1) rfl rfl
  have Q:ae [B.bl] w f:=by rw[l];exact ν
  go_enter func221,ntmps221
  go_wp2
  go_region
  have KP:=χ E;have KN:=χ b;have n:=χ (ψ H (ψ Q l));have S:=χ (ψ M (ψ u hR));clear E b H Q l M u hR eg Z J i hl ux v;have I:=λW (a:ae [] f W)=>KN.out W (n.out.1.ag a);have c:=λW (a:ae [] f W)=>KP.out W (n.out.1.ag a);rw[n.out.2.2] at I c
  go_wp2_with (first
   |(((with_reducible refine(I _ β).mono ?_));rintro e w9 ⟨rfl,L⟩;rw[L];clear L w9)
   | (((with_reducible refine (c _ β).mono ?_));rintro e N ⟨rfl,j,O⟩))
  have T:ae [B.bn,B.bp] f N:=by rw[n.out.2.2];exact ae.trans β O
  have d:=((n.out.1)).dm T j;have h:ae [B.bn,B.bp,B.bl] w N:=(n.out.2.1.mono σ).trans ((T).mono (λz k=>by simp at k;rcases k with e|e<;>simp[e]));have q2:=d.h2;have q0:=d.p0 o;have q3:=d.p3 o;have f0:=d.pl.free (x*4);have f3:=d.pl.free (x*4+3);have U:=χ (ψ d h);clear d h j O I c
  go_region
  go_wp2;refine vK (λW=>fD W B F gt ct A st { nx:=dP G.nx x (G.pv x),pv:=jO G.nx G.pv x (G.pv x),up:=ah G.up x (-1),mr:=ah G.mr x false,K:=ah G.K p [],R:=G.R }/\ae [B.bn,B.bp,B.bl] w W) ?_ ?_
  .have h:=U.out.2;exact⟨(U.out.1.lone x).drewN 1,ν⟩
  rintro w7 ⟨g,h⟩;have ks:=λW (a:ae [] w7 W)=>lu (g.rings.ag a) ht o;have m:∀x,x≠B.bn->x≠B.bp->x∉[B.bn,B.bp]:=λx h1 h2=>by simp[h1,h2]
  have r1:∀W,ae [B.bn,B.bp] w7 W->W.cell? ⟨B.n0,1,none⟩=some (B.br:V):=λW a=>a.kept g.h1 (m _ e2 e3);have r3:∀W,ae [B.bn,B.bp] w7 W->W.cell? ⟨B.n0,3,none⟩=some (.slice (some (gt:Nat)) A.hs.length ct):=λW a=>a.kept g.h3 (m _ e2 e3);have rt:∀W,ae [B.bn,B.bp] w7 W->W.cell? ⟨gt,q,none⟩=some ((t:Int):V):=λW a=>by
   have:=a.kept (g.top hq) (m _ g6 g7);rw[show mi ((({ nx:=dP G.nx x (G.pv x),pv:=jO G.nx G.pv x (G.pv x),up:=ah G.up x (-1),mr:=ah G.mr x false,K:=ah G.K p [],R:=G.R }:FG)).R q)=t from by show mi (G.R q)=t;rw[S.out.2.2];rfl] at this;exact this
  have hqI:(q:Int)<(A.hs.length:Int):=ω;have X:=χ (ψ g h);clear g h q2 q0 q3 f0 f3
  go_region_held3 (ae [B.bn,B.bp] w7) (exact ν)
   (first
    | (((with_reducible refine (ks _ β).mono ?_));rintro e w8 ⟨rfl,C,A7⟩;(have Y:ae [B.bn,B.bp] w7 w8:=ae.trans ν A7)))
  go_wp2;go_end0;refine⟨rfl,((X.out.1.dm Y C).Pd q (t::x::s) (by show _=mi (G.R q);rw[S.out.2.2];rfl)).drewN 0,X.out.2.trans (Y.mono (λz k=>by simp at k;rcases k with e|e<;>simp[e]))⟩
 |cons y r=>
  rw[Z] at J P hl E b;have i:G.nx x=y:=J;rw[Z] at v;have hyx:y≠x:=λe=>v (by simp[e]);have hyxI:((y:Int) == (x:Int))=false:=ζ;rw[i] at b;obtain⟨W4,Qa⟩:∃W4,W4=(w.setCell ⟨B.bl,p*4+2,none⟩ (.int .i64 (((y::r).length:Nat):Int))).setCell ⟨B.bl,p*4+1,none⟩ (.int .i64 (-1)):=⟨_,rfl⟩;obtain⟨f,l⟩:∃f,f=((w.setCell ⟨B.bl,p*4+2,none⟩ (.int .i64 (((y::r).length:Nat):Int))).setCell ⟨B.bl,p*4+1,none⟩ (.int .i64 (-1))).setCell ⟨B.bl,p*4+1,none⟩ (.int .i64 (y:Int)):=⟨_,rfl⟩
  have H:fD f B F gt ct A st { G with K:=ah G.K p (y::r) }:=by rw[l];exact M.aeX p (y::r) _ (y:Int) (-1) rfl rfl
  have Q:ae [B.bl] w f:=by rw[l];exact ν
  have iK:ae [B.bl] w W4:=by rw[Qa];exact ν
  have D:∀W,ae [] W4 W->Calls prog 226 #[B.br,(x:Int)] W λe w'=>e=.returned (.tuple #[(y:Int),true])/\w'=W:=λW a=>by
   have:=Em (M.rings.upd (iK.then a) (by simp;exact Ne.symm g1) (by simp;exact Ne.symm g2) (by simp;exact Ne.symm g3)) o;rw[i] at this;exact this
  have c:∀W,ae [] f W->Calls prog 217 #[B.br,(x:Int)] W λe w'=>e=.returned true/\Ai w' B.br B.bn B.bp A.cs.length (dP G.nx x (G.pv x)) (jO G.nx G.pv x (G.pv x))/\ae [B.bn,B.bp] W w':=λW a=>E W (H.ag a);rw[Qa] at D;rw[l] at c;have I:=D;have n:=χ (ψ H (ψ Q l));have S:=χ (ψ M (ψ u hR));clear E b H Q l M u hR eg Z J i hl ux v Qa iK D;generalize (((y::r).length:Nat):Int)=dl at *
  go_enter func221,ntmps221
  go_wp2
  go_region
  go_wp2_with (first
   |(((with_reducible refine(I _ β).mono ?_));rintro e w9 ⟨rfl,L⟩;rw[L];clear L w9)
   | (((with_reducible refine (c _ β).mono ?_));rintro e N ⟨rfl,j,O⟩))
  have T:ae [B.bn,B.bp] f N:=by rw[n.out.2.2];exact ae.trans β O
  have d:=((n.out.1)).dm T j;have h:ae [B.bn,B.bp,B.bl] w N:=(n.out.2.1.mono σ).trans ((T).mono (λz k=>by simp at k;rcases k with e|e<;>simp[e]));have q2:=d.h2;have q0:=d.p0 o;have q3:=d.p3 o;have f0:=d.pl.free (x*4);have f3:=d.pl.free (x*4+3);have U:=χ (ψ d h);clear d h j O I c
  go_region
  go_wp2;refine vK (λW=>fD W B F gt ct A st { nx:=dP G.nx x (G.pv x),pv:=jO G.nx G.pv x (G.pv x),up:=ah G.up x (-1),mr:=ah G.mr x false,K:=ah G.K p (y::r),R:=G.R }/\ae [B.bn,B.bp,B.bl] w W) ?_ ?_
  .have h:=U.out.2;exact⟨(U.out.1.lone x).drewN 1,ν⟩
  rintro w7 ⟨g,h⟩;have ks:=λW (a:ae [] w7 W)=>lu (g.rings.ag a) ht o;have m:∀x,x≠B.bn->x≠B.bp->x∉[B.bn,B.bp]:=λx h1 h2=>by simp[h1,h2]
  have r1:∀W,ae [B.bn,B.bp] w7 W->W.cell? ⟨B.n0,1,none⟩=some (B.br:V):=λW a=>a.kept g.h1 (m _ e2 e3);have r3:∀W,ae [B.bn,B.bp] w7 W->W.cell? ⟨B.n0,3,none⟩=some (.slice (some (gt:Nat)) A.hs.length ct):=λW a=>a.kept g.h3 (m _ e2 e3);have rt:∀W,ae [B.bn,B.bp] w7 W->W.cell? ⟨gt,q,none⟩=some ((t:Int):V):=λW a=>by
   have:=a.kept (g.top hq) (m _ g6 g7);rw[show mi ((({ nx:=dP G.nx x (G.pv x),pv:=jO G.nx G.pv x (G.pv x),up:=ah G.up x (-1),mr:=ah G.mr x false,K:=ah G.K p (y::r),R:=G.R }:FG)).R q)=t from by show mi (G.R q)=t;rw[S.out.2.2];rfl] at this;exact this
  have hqI:(q:Int)<(A.hs.length:Int):=ω;have X:=χ (ψ g h);clear g h q2 q0 q3 f0 f3
  go_region_held3 (ae [B.bn,B.bp] w7) (exact ν)
   (first
    | (((with_reducible refine (ks _ β).mono ?_));rintro e w8 ⟨rfl,C,A7⟩;(have Y:ae [B.bn,B.bp] w7 w8:=ae.trans ν A7)))
  go_wp2;go_end0;refine⟨rfl,((X.out.1.dm Y C).Pd q (t::x::s) (by show _=mi (G.R q);rw[S.out.2.2];rfl)).drewN 0,X.out.2.trans (Y.mono (λz k=>by simp at k;rcases k with e|e<;>simp[e]))⟩
def fD.marked(M:fD w B F gt ct A st G)(x:Nat):fD (w.setCell ⟨B.bl,x*4+3,none⟩ (.bool true)) B F gt ct A st { G with mr:=ah G.mr x true }:=by
 refine M.Ls (up:=G.up) (K:=G.K) ν ?_;exact rH M.pl x true
def Ia{bZ:Nat->Int}{L Mx:Nat->Nat->Prop}(irr:∀a,¬L a a)(M:fD w B F gt ct A st G){q p t:Nat}{s:List Nat}(hq:q<A.hs.length)(H:FF A.cs.length G bZ L (λc=>if c=p then 1 else 0))(R:FR A.cs.length G bZ Mx none)(k:G.R q=t::s)(hp:p<A.cs.length)(hh:bZ p=q)(h1:1<=q)
  (hf:∀y,y<A.cs.length->bZ y=q->y≠t->Mx t y):
  Calls prog 222 #[B.n0,(q:Int),(p:Int)] w λe w'=>e=.returned (.tuple #[])/\fD w' B F gt ct A st (sM (marks A.cs.length G+1) q p G)/\ae [B.bn,B.bp,B.bl] w w':=by
 have hc1:=M.cells.ok.c1;obtain⟨D,X⟩:∃D,sM (marks A.cs.length G+1) q p G=D:=⟨_,rfl⟩;rw[X];have o:=χ (ψ M (ψ H (ψ R (ψ k (ψ X hf)))));clear M H R k X hf
 go_enter func222,ntmps222
 go_wp2
 go_loopg [2] (marks A.cs.length G+1) (λfu s2 wr=>∃(p':Nat) (Y:List Nat) (G':FG),s2=.int .i64 (p':Int)/\FF A.cs.length G' bZ L (λc=>if c=p' then 1 else 0)/\FR A.cs.length G' bZ Mx none/\G'.R q=t::Y/\p'<A.cs.length/\bZ p'=q/\marks A.cs.length G'<fu/\sM fu q p' G'=D/\fD wr B F gt ct A st G'/\ae [B.bn,B.bp,B.bl] w wr)
 case atStart=>exact⟨p,s,G,rfl,o.out.2.1,o.out.2.2.1,o.out.2.2.2.1,hp,hh,ω,o.out.2.2.2.2.1,o.out.1,ae.refl _ _⟩
 case round=>
  rename Nat=>fu;obtain⟨p',Y,G',rfl,H,R,k,g,r,hm,f,m,N⟩:=hrel;rename World=>wr;obtain⟨Z,rfl⟩:∃Z,fu=Z+1:=⟨fu-1,ω⟩;have hpI:(p':Int)<(A.cs.length:Int):=ω;have q2:=m.h2;have p0:=m.p0 g;have p3:=m.p3 g;have f3:=m.pl.free (p' * 4+3);unfold sM at f;have u:=χ (ψ H (ψ R (ψ k (ψ m N))))
  by_cases e:G'.up p'=-1
  .rw[Δ e] at f;rw[e] at p0;subst f;clear H R k m N e o;go_wp2;go_end0;exact⟨rfl,u.out.2.2.2.1,u.out.2.2.2.2⟩
  .rw[Γ e] at f;obtain⟨i,O,h,_⟩:=(H.Ik p' g).resolve_left e;rw[h] at p0 f;rw[π] at f;cases K:G'.mr p' with
   |false=>
    rw[K] at p3 f;rw[Δ rfl] at f;have HC:=χ f;clear H R k m N e f K h o;go_wp2;refine bodyPost_ret (v:=.tuple #[]) (by simp[results,results222,go_sem]) rfl ?_;exact⟨rfl,by rw[←HC.out];exact u.out.2.2.2.1.marked p',u.out.2.2.2.2.setCell (Α σ) _⟩
   |true=>
    rw[K] at p3 f;rw[Γ σ] at f;have hqp:i≠p':=λJ=>by subst J;exact irr _ (H.ord i i g h)
    have htp:p'≠t:=λJ=>by
     subst J;have:=((R.all q).2.1 p').1 (by rw[k];simp);exact e this.2.2.1
    obtain⟨j,P,o3,o4,o5,Q,⟨a,b,eK,eA⟩,o8⟩:=yV H R k g h hqp r (o.out.2.2.2.2.2 p' g r htp);have ht:=(((R.all q).2.1 t).1 (by rw[k];simp)).2.1;have n:=(H.ring i O).nd;have z:(G'.K i).length=(BQ (G'.K i) p').length+1:=by rw[eA,eK];simp;omega
    have C:(G'.K i).length<=65536:=Χ (H.yH O) hc1;have E:p'∉BQ (G'.K i) p':=by
     rw[eA];rw[eK,θ,Ζ] at n;intro S;rcases τ.1 S with h'|h'
     .exact n.2.1.1 h'
     .exact n.2.2 p' h' p' σ rfl
    have ko:=λW (hW:ae [] wr W)=>IP (m.ag hW) hq g O h k ht z C o8 E;have l:=rq (G:=G') (b:=false) g rfl (dM q p' G') o4;rw[K] at l;simp only[Ϟ,if_false,if_true] at l;have I:FF A.cs.length (dM q p' G') bZ L (λc=>if c=i then 1 else 0):=by
     refine⟨j.rg,j.kid,j.Ik,j.ring,j.home,j.ord,j.alone,j.free,λx d hx=>?_⟩;have aa5:(dM q p' G').up p'=-1:=by rw[o3,bG]
     rw [wm (G:=dM q p' G') (ex:=λc=>if c=i then (if c=p' then 1 else 0)+1 else if c=p' then 1 else 0) d (λc hc=>by
      have hcp:c≠p':=λJ=>j.sN hx aa5 (J▸hc)
      rw [Γ hcp])]
     exact j.cnt x d hx
    have Zt:bZ i=q:=by have:=(H.home p' i g h).1;omega
    have HS:=χ (ψ I (ψ P (ψ Q (ψ f l))));clear H R k m N e f K h j I P o3 o4 o5 Q o8 eK eA n z C E l
    go_wp2_with ((((with_reducible refine(ko _ β).mono ?_));rintro e w2 ⟨rfl,T,U⟩))
    go_roundg Z
    case measure=>omega
    case rel=>
     obtain⟨j,P,Q,f,l⟩:=HS.out;exact⟨i,p'::Y,dM q p' G',rfl,j,P,by rw[Q,bG],O,Zt,ω,f,T,u.out.2.2.2.2.trans U⟩
def Ak{bZ:Nat->Int}{L Mx:Nat->Nat->Prop}(I:∀a,¬L a a)(M:fD w B F gt ct A st G){q x t:Nat}{s:List Nat}(U:q<A.hs.length)(J:x<A.cs.length)(o:FF A.cs.length G bZ (λa y=>y≠x->L a y) (λ_=>0))(K:G.R q=t::s)(ht:t<A.cs.length)(h1:1<=q)
  (hp:∀p:Nat,G.up x=p->p≠x/\bZ p=q/\FF A.cs.length (dM q x G) bZ L (λc=>if c=p then 0+1 else 0)/\FR A.cs.length (dM q x G) bZ Mx none/\(dM q x G).R q=t::x::s)
  (N:∀y,y<A.cs.length->bZ y=q->y≠t->Mx t y):
  Calls prog 215 #[B.n0,(q:Int),(x:Int)] w λe w'=>e=.returned (.tuple #[])/\fD w' B F gt ct A st (dJ A.cs.length q x G)/\ae [B.bn,B.bp,B.bl] w w':=by
 have D:=M.cells.ok.c1;have q2:=M.h2;have R:=M.p0 J;have Dy:(x:Int)<(A.cs.length:Int):=ω
 by_cases e:G.up x=-1
 .have i:dJ A.cs.length q x G=G:=by unfold dJ;rw[Δ e]
  rw[i];rw[e] at R;have E:=χ M;clear M o K hp N e i
  go_enter func215,ntmps215
  go_wp2;go_end0;exact⟨rfl,E.out,ae.refl _ _⟩
 .obtain⟨p,d,h,z⟩:=(o.Ik x J).resolve_left e;obtain⟨Y,Z,O,P,Q⟩:=hp p h;have i:dJ A.cs.length q x G=sM (marks A.cs.length (dM q x G)+1) q p (dM q x G):=by unfold dJ;rw[h,Γ ω,π]
  rw[i];rw[h] at R;have u:=o.ring p d;obtain⟨a,b,C,r,xa,xb⟩:=Nb z u.nd;have j:(G.K p).length=(BQ (G.K p) x).length+1:=by rw[r,C];simp;omega
  have k:(G.K p).length<=65536:=Χ (o.yH d) D;have l:x∉BQ (G.K p) x:=by rw[r];simp;exact⟨xb,xa⟩
  have m:G.nx x=(BQ (G.K p) x).headD x:=by
   rw[C] at u;have:=Ring.XE (a:=a) (b:=x::b) u;rw[r];exact(jy.1 this).2.1
  have S:=λW (hW:ae [] w W)=>IP (M.ag hW) U J d h K ht j k m l;have n:FF A.cs.length (dM q x G) bZ L (λc=>if c=p then 1 else 0):=by simpa using O
  have T:=λW (hM:fD W B F gt ct A st (dM q x G))=>Ia I hM U n P Q d Z h1 N;have E:=χ (ψ M T);clear M o K hp N e i T O n P Q C r j k l m h u
  go_enter func215,ntmps215
  go_wp2_with (first
   |(((with_reducible refine(S _ β).mono ?_));rintro e w2 ⟨rfl,f,g⟩;(have H:=E.out.2 _ f);(have HU:=χ g);clear f g S)
   | (((with_reducible refine H.mono ?_));rintro e w3 ⟨rfl,X,v⟩))
  go_end0;exact⟨rfl,X,HU.out.trans v⟩
end
def uC(w:World)(p:Nat)(FF:List Nat)(A:NS)(st:Nat)(G:FG):Prop:=(∃B F gt ct,p=B.n0/\FF=B.blk F gt/\fD w B F gt ct A st G)/\yQ A G
def gW{B:FB}{F:List Nat}{gt:Nat}:∀x,x∈F->x∈B.blk F gt:=λx a=>by simp[FB.blk,a]
def Yu{w:World}{B:FB}{F F':List Nat}{gt:Nat}(b:∀x,x∈F'->x∈F\/w.heap.size<=x):∀x,x∈B.blk F' gt->x∈B.blk F gt\/w.heap.size<=x:=λx a=>by
 simp only[FB.blk,ρ] at a ⊢;rcases a with e|e|e|e|e|e|e
 .exact Α (Α e)
 .exact Α (Β (Α e))
 .exact Α (Β (Β (Α e)))
 .exact Α (Β (Β (Β (Α e))))
 .exact Α (Β (Β (Β (Β (Α e)))))
 .exact Α (Β (Β (Β (Β (Β (Α e))))))
 .rcases b x e with h|h
  .exact Α (Β (Β (Β (Β (Β (Β h))))))
  .exact Β h
section
variable{w:World}{p:Nat}{FF:List Nat}{A:NS}{st:Nat}{G:FG}
def uC.upd{w':World}{S:List Nat}(h:uC w p FF A st G)(a:ae S w w')(b:∀x,x∈S->x∉FF):uC w' p FF A st G:=by
 obtain⟨⟨B,F,gt,ct,rfl,rfl,M⟩,I⟩:=h;exact⟨⟨B,F,gt,ct,rfl,rfl,M.upd a b⟩,I⟩
def uC.ag{w':World}(h:uC w p FF A st G)(a:ae [] w w'):uC w' p FF A st G:=h.upd a σ
def uC.lt(h:uC w p FF A st G):∀x,x∈FF->x<w.heap.size:=by
 obtain⟨⟨B,F,gt,ct,rfl,rfl,M⟩,I⟩:=h;exact M.lt
def uC.ok(h:uC w p FF A st G):A.Ok:=by
 obtain⟨⟨B,F,gt,ct,rfl,rfl,M⟩,I⟩:=h;exact M.cells.ok
def uC.oG(h:uC w p FF A st G):st<=4611686018427387904:=by
 obtain⟨⟨B,F,gt,ct,rfl,rfl,M⟩,I⟩:=h;exact M.cells.oG
def uC.cl(h:uC w p FF A st G):∃c a,w.cell? (p:Nat)=some ((c:Nat):V)/\aD w c a A st/\c∈FF:=by
 obtain⟨⟨B,F,gt,ct,rfl,rfl,M⟩,I⟩:=h;exact⟨B.c,F,M.h0,M.cells,gW _ M.cells.mem⟩
def Ot(I:yQ A G)(g:A.Ok){q:Int}{m:Nat}(f:dB A q=some m):∃(h:Nat) (s:List Nat),q=h/\1<=h/\h<A.hs.length/\G.R h=m::s/\0<cZ A q:=by
 obtain⟨b,c⟩:=I.vM f;have i:(A.c m).i=(q.toNat:Int):=b.2.2;have d:=g.nat m b.1;refine⟨q.toNat,?_⟩;have a:=((I.fr.all q.toNat).2.1 m).2 ⟨c,b⟩;cases e:G.R q.toNat with
 |nil=>rw[e] at a;cases a
 |cons t s=>
  have:=(I.kH e).1;rw[show((q.toNat:Nat):Int)=q by omega,f] at this
  injection this with this
  subst this;exact⟨s,ω,c,ω,rfl,fO.2 ⟨m,b.1,ω,ω⟩⟩
def KU(h:uC w p FF A st G)(q:Int)(l:-9223372036854775808<=q/\q<=9223372036854775807):
  Calls prog 214 #[(p:Nat),q] w λe w'=>e=.returned (.tuple #[(og (dB A q):Int),.bool (dB A q).isSome])/\w'=w:=by
 obtain⟨⟨B,F,gt,ct,rfl,rfl,M⟩,I⟩:=h;have o:=M.h0;have c:=jf M.cells q l;cases b:dB A q with
 |none=>
  rw[iQ.1 b] at c;clear M I b
  go_enter func214,ntmps214
  go_wp2_with (((with_reducible refine aP c ?_)))
  go_ret2;exact⟨rfl,rfl⟩
 |some m=>
  obtain⟨a,s,rfl,n,g,f,hp⟩:=Ot I M.cells.ok b;have r:=M.h3;have d:=M.top g;rw[f] at d;have i:w.cell? ⟨gt,a,none⟩=some ((m:Int):V):=d;have j:(a:Int)<(A.hs.length:Int):=ω;have k:(((cZ A (a:Int):Nat):Int) == 0)=false:=ζ;generalize cZ A (a:Int)=t at *;clear M I b f d
  go_enter func214,ntmps214
  go_wp2_with (((with_reducible refine aP c ?_)))
  go_ret2;exact⟨rfl,rfl⟩
def Iy(h:uC w p FF A st G)(q x:Nat)(k s:Int)(hk:-9223372036854775808<=k/\k<=9223372036854775807/\0<=s/\s<=18446744073709551615)(o:oF A q x=true):
  Calls prog 211 #[(p:Nat),(q:Int),(x:Int),.agg #[k,.int .u64 s]] w λe w'=>e=.returned true/\
   Goes FF w w' (λY=>uC w' p Y (aN A q x k s) (dw st (qZ q G)) (UW (aN A q x k s) q x G)):=by
 obtain⟨⟨B,F,gt,ct,rfl,rfl,M⟩,I⟩:=h;have K:=M.cells.ok;obtain⟨J,_,_,_,h1,P,b,c,d⟩:=ac0 I K k s o;have v:(aN A q x k s).hs.length=A.hs.length:=by unfold aN;split;rfl;rfl
 have f:q<(aN A q x k s).hs.length:=by
  rw[v];have:=(aF _ _).1 ((fB _ _ _).1 o).1;omega
 have z:ae [] w (w.alloc (.cells #[k,.int .u64 s] 97)):=(ae.refl _ _).alloc _;have L:=λW (l:ae [] (w.alloc (.cells #[k,.int .u64 s] 97)) W)=>oQ (M.cells.ag (z.trans l)) q x k s hk o;have N:=M.h0;have Q:B.n0∉F:=M.d1.1;have g:w.heap.size∉F:=λZ=>by have:=M.cells.lt _ Z;omega
 have R:∀W,ae F (w.alloc (.cells #[k,.int .u64 s] 97)) W->W.cell? B.n0=some (B.c:V):=λW l=>l.kept (z.was N) Q;have S:∀W,ae F (w.alloc (.cells #[k,.int .u64 s] 97)) W->W.cell? w.heap.size=some (k:V):=λW h=>h.kept σ g;have T:∀W,ae F (w.alloc (.cells #[k,.int .u64 s] 97)) W->W.cell? ⟨w.heap.size,1,none⟩=some (.int .u64 s):=λW h=>h.kept σ g;have O:=λ(W:World) (hM:fD W B F gt ct (aN A q x k s) st G)=>zR hM [] f b c;have n:=χ (ψ M (ψ v d));have U:=χ J
 clear M I K J b c f P d v N o
 go_enter func211,ntmps211
 go_wp2
 go_region_held3 (ae F (w.alloc (.cells #[k,.int .u64 s] 97))) (exact ν)
  (first
   | (((with_reducible refine (L _ β).mono ?_));rintro e m ⟨rfl,H,r⟩;(have i:ae F (w.alloc (.cells #[k,.int .u64 s] 97)) m:=ν)))
 have C:ae F w m:=(z.mono σ).trans i;have j:=n.out.1.cK C H (λy a=>Α a) n.out.2.2 n.out.2.1;have D:=λ(W:World) (l:ae [] m W)=>O W (j.ag l);have X:=χ C;have E:=n.out.1.cells.mem;clear L R S T j O C i H r
 go_wp2_with ((((with_reducible refine(D _ β).mono ?_));rintro e w2 ⟨rfl,t,u⟩))
 go_ret;refine⟨rfl,B.blk F gt,⟨⟨B,F,gt,ct,rfl,rfl,t⟩,U.out⟩,(X.out.mono gW).trans ((β:ae _ m _).trans (u.mono (λy a=>?_))),λy a=>Α a⟩;simp only[ρ,ς,or_false] at a;rcases a with e|e|e|e
 .rw[e];exact gW _ E
 all_goals simp[FB.blk,e]
def Sq(h:uC w p FF A st G)(a b:Nat)(n:fQ A a b=true):
  Calls prog 213 #[(p:Nat),(a:Int),(b:Int)] w λe w'=>e=.returned true/\
   Goes FF w w' (λCr=>uC w' p Cr (az A a b) (dw st (TR a b G)) (yS (az A a b) a b G)):=by
 obtain⟨⟨B,F,gt,ct,rfl,rfl,M⟩,I⟩:=h;have N:=M.cells.oG;obtain⟨J,_,_,_,_,hab,i⟩:=abP I M.cells.ok n;have X:=mO M.cells a b n;have s:=eU A a b;obtain⟨K,L,j3⟩:=(dI _ _ _).1 n;have Y:=(aF _ _).1 K;have Z:=(aF _ _).1 L;have jw:(az A a b).hs.length=A.hs.length:=by unfold az;rw[Δ n];simp
 have O:a<(az A a b).hs.length:=ω;have l:b<(az A a b).hs.length:=ω;have h0:=M.h0;have C:=χ J;have P:=M.cells.mem;cases j:G.R b with
 |nil=>
  have u:TR a b G=0:=by unfold TR;rw[Δ j]
  have m:yS (az A a b) a b G={ G with R:=ah G.R b [] }:=by unfold yS;rw[j]
  rw[m] at C;rw[u,m,fG N];have v:=λW (T:aD W B.c F (az A a b) st) (U:ae F w W)=>M.cK U T (λy g=>Α g) s jw;have D:=χ v;have Q:=χ j;clear M I J i n u m v j K L Y Z
  go_enter func213,ntmps213
  go_wp2_with ((((with_reducible refine X.mono ?_));rintro e H ⟨rfl,o,c⟩;(have f:=D.out _ o c);(have d3:=f.h3);(have dt:H.cell? ⟨gt,b,none⟩=some (.int .i64 (-1)):=by(have z:=f.top l;rw[Q.out] at z;exact z));(have df:=f.ai.free b);(have E:=χ (ψ f c));clear f o c))
  go_ret;refine⟨rfl,B.blk F gt,⟨⟨B,F,gt,ct,rfl,rfl,E.out.1.iT b []⟩,C.out⟩,(E.out.2.mono gW).setCell (Α (by simp[FB.blk])) _,λy g=>Α g⟩
 |cons x r=>
  have u:TR a b G=qZ a G:=by unfold TR;rw[Γ (by rw[j];simp)]
  have m:yS (az A a b) a b G={ gP (nR (az A a b)) a (x::r) G with R:=ah (gP (nR (az A a b)) a (x::r) G).R b [] }:=by unfold yS;rw[j]
  rw[m] at C;rw[u,m];have k:=i x b r j;have v:=λW (T:aD W B.c F (az A a b) st) (U:ae F w W)=>M.cK U T (λy g=>Α g) s jw;have kr:=λW (hM:fD W B F gt ct (az A a b) st G)=>zR hM r O k (λt s' e=>i t a s' e);have D:=χ (ψ v kr);have Q:=χ j;clear M I J i n u m v kr j K L Y Z k
  go_enter func213,ntmps213
  go_wp2_with (first
   |(((with_reducible refine X.mono ?_));rintro e H ⟨rfl,o,c⟩;(have f:=D.out.1 _ o c);(have d3:=f.h3);(have dt:H.cell? ⟨gt,b,none⟩=some ((x:Int):V):=by(have z:=f.top l;rw[Q.out] at z;exact z));(have S:=D.out.2 _ f);(have E:=χ (ψ f c));clear f o c)
   | (((with_reducible refine S.mono ?_));rintro e w2 ⟨rfl,d,q⟩;(have d4:=d.h3);(have dt2:=d.top l);(have df2:=d.ai.free b);(have H2:=χ (ψ d q));clear d q))
  go_ret;refine⟨rfl,B.blk F gt,⟨⟨B,F,gt,ct,rfl,rfl,H2.out.1.iT b []⟩,C.out⟩,((E.out.2.mono gW).trans (H2.out.2.mono (λy g=>?_))).setCell (Α (by simp[FB.blk])) _,λy g=>Α g⟩;simp only[ρ,ς,or_false] at g;rcases g with e|e|e|e
  .rw[e];exact gW _ P
  all_goals simp[FB.blk,e]
end
def tailW(a:Option Addr)(n c:Nat):Value:=.slice (if c=1 then a else a.map (·.add 1)) (n-1) (c-1)
def Qu(w:World)(a:Option Addr)(n c:Nat)(b:1<=n)(d:n<=9223372036854775807):
  (Instr.slice 77 (.slice a n c) (some (.int .i64 1)) none none).run prog w=.ok (tailW a n c) w:=by
 have hs:(sizeOf 3).run prog w=.ok 1 w:=by kernel_rfl
 unfold Instr.slice Instr.sliceBounds;simp[run_underlying underlying77,go_sem,hs,tailW];intro h;omega
def Vq{w:World}{F:List Nat}{a:Option Addr}{n c:Nat}{x:Int}{xs:List Int}(h:lS w F (.slice a n c) (x::xs)):lS w F (tailW a n c) xs:=by
 obtain⟨r,cap,e,i,s,b⟩:=h;cases e;obtain⟨g,off,rfl,k,l,_⟩:=b 0 x rfl;simp only[Ω] at i ⊢;unfold tailW;simp only[Nat.add_sub_cancel];refine⟨_,_,rfl,ω,ω,λj u q=>?_⟩;have p:j<xs.length:=(List.getElem?_eq_some_iff.1 q).1;rw[Γ ω];obtain⟨g2,d,f,m,o,t⟩:=b (j+1) u (by grind);simp only[ϖ,Addr.mk.injEq,and_true] at f;obtain⟨rfl,rfl⟩:=f;exact⟨g,off+1,by simp[Addr.add_lit],k,l,by grind⟩
def lS.turned{w w':World}{F G:List Nat}{v:Value}{xs:List Int}(h:lS w F v xs)(d:ae G w w')(n:∀g,g∈G->g∈F\/w.heap.size<=g):lS w' F v xs:=by
 obtain⟨a,cap,rfl,e,f,i⟩:=h;refine⟨a,cap,rfl,e,f,λj u l=>?_⟩;obtain⟨g,off,rfl,b,c,k⟩:=i j u l;exact⟨g,off,rfl,Ψ b d.size,c,by rw[d.cell b (λm=>(n _ m).elim c (λo=>by grind))];exact k⟩
def lS.fewer{w:World}{F G:List Nat}{v:Value}{xs:List Int}(h:lS w F v xs)(l:∀g,g∈G->g∈F):lS w G v xs:=by
 obtain⟨a,cap,rfl,b,c,d⟩:=h;refine⟨a,cap,rfl,b,c,λj u e=>?_⟩;obtain⟨g,off,rfl,f,i,k⟩:=d j u e
 grind
def EN(A:NS)(q:Int)(G:FG):FG:=match dB A q with|some m=>(uu A q.toNat m (kl (G.K m)++(G.R q.toNat).tail) G).1|none=>G
def Ec(A:NS)(q:Int)(G:FG):Nat:=match dB A q with|some m=>(uI A q.toNat m (kl (G.K m)++(G.R q.toNat).tail) G).q+(uu A q.toNat m (kl (G.K m)++(G.R q.toNat).tail) G).2|none=>0
def R7(l:List Nat)(x:Nat)(G:FG):wP (l++[x]) G=prt (wP l G) x:=by unfold wP;rw[List.foldl_append];rfl
section
variable{w:World}{p:Nat}{FF:List Nat}{A:NS}{st:Nat}{G:FG}
def yN(h:uC w p FF A st G)(q:Int)(X4:-9223372036854775808<=q/\q<=9223372036854775807):
  Calls prog 210 #[(p:Nat),q] w λe w'=>e=.returned (.tuple #[(og (dB A q):Int),.bool (dB A q).isSome])/\
   Goes FF w w' (λCr=>uC w' p Cr (uh A q) (dw st (Ec A q G)) (EN A q G)):=by
 have km:=KU h q X4;have hst:=h.oG;have HK:=χ h;cases n:dB A q with
 |none=>
  rw[n] at km;have e1:uh A q=A:=by unfold uh;rw[n]
  have e2:EN A q G=G:=by unfold EN;rw[n]
  have e3:Ec A q G=0:=by unfold Ec;rw[n]
  rw[e1,e2,e3,fG hst];clear h n e1 e2 e3
  go_enter func210,ntmps210
  go_wp2_with (((with_reducible refine aP km ?_)))
  go_ret2;exact⟨rfl,Goes.stay HK.out (ae.refl _ _)⟩
 |some m=>
  rw[n,show og (some m)=(m:Int) from rfl,show(some m:Option Nat).isSome=true from rfl] at km;have e1:uh A q=aS A m:=by unfold uh;rw[n]
  have e2:EN A q G=(uu A q.toNat m (kl (G.K m)++(G.R q.toNat).tail) G).1:=by unfold EN;rw[n]
  have e3:Ec A q G=(uI A q.toNat m (kl (G.K m)++(G.R q.toNat).tail) G).q+(uu A q.toNat m (kl (G.K m)++(G.R q.toNat).tail) G).2:=by unfold Ec;rw[n]
  rw[e1,e2,e3];obtain⟨k,s,rfl,h1,hl,hR,hp⟩:=Ot h.2 h.ok n;rw[π,hR,List.tail_cons];obtain⟨⟨L,N⟩,T3,DR,T,U,I4,_,_,_,_,x,Sz,_⟩:=abW h.2 h.ok hR;obtain⟨_,hmx,um,hmh,hmin⟩:=h.2.out (h:=k) (z:=m) (by rw[hR];simp);have WW:=λW F c (hC:aD W c F A (dw st ((uI A k m (kl (G.K m)++s) G).q+(uu A k m (kl (G.K m)++s) G).2)))=>ik hC m hmin;obtain⟨⟨B,F,gt,ct,rfl,rfl,M⟩,I⟩:=h;have kra:=λW (hW:ae [] w W)=>CV (M.ag hW) hmx (I.ff.ring m hmx) (λz o=>(I.ff.kid m z hmx o).1);have hlen:(m::(kl (G.K m)++s)).length<=A.cs.length:=jR A.cs.length _ L.nd N;have hc1:=M.cells.ok.c1
  have v:=M.lt;have hhI:(k:Int)<(A.hs.length:Int):=ω;have hd:=M.d1;have hd2:=M.d2;have hd3:=M.d3;have hcm:=M.cells.mem;obtain⟨d,hrs⟩:∃d,kl (G.K m)++s=d:=⟨_,rfl⟩;rw[hrs] at L N T3 T U I4 WW hlen x Sz ⊢;obtain⟨D,hD⟩:∃D,uI A k m d G=D:=⟨_,rfl⟩;have hD2:tid (nR A) d ⟨[],qQ k m d G,0⟩=D:=hD;have e4:uu A k m d G=sS (nR A) k D.T D.G 0:=by unfold uu;rw[hD]
  rw[hD] at T U x Sz WW ⊢;rw[e4] at I4 WW ⊢;obtain⟨R4,hR4⟩:∃R4,sS (nR A) k D.T D.G 0=R4:=⟨_,rfl⟩;rw[hR4] at I4 WW ⊢;have ka1:=λW (hW:fD W B F gt ct A st (bI G m))=>Jw hW.rings L N;have O:=χ (ψ L (ψ N (ψ T3 (ψ DR (ψ T (ψ U (ψ I4 (ψ x (ψ Sz (ψ hD2 hR4))))))))));have HD:=χ (ψ v (ψ hd (ψ hd2 (ψ hd3 hcm))));have KD:=χ WW;clear M I L N T3 DR T U I4 hR n e1 e2 e3 hrs v hd hd2 hd3 hcm WW x Sz hD hD2 e4 hR4;have HA:=χ ka1;clear ka1;rw[Ω] at hlen
  go_enter func210,ntmps210
  go_wp2_with (first
   |((with_reducible refine aP km ?_))
   |(((with_reducible refine(kra _ β).mono ?_));rintro e w1 ⟨rfl,M1,hu1⟩;(have a1:=HA.out _ M1);(have b1:=M1.h1);(have jZ:=χ (ψ M1 hu1));clear M1 hu1 kra)
   |(((with_reducible refine a1.mono ?_));rintro e w2 ⟨v2,rfl,ho2,S⟩;(have hs2:lS w2 (B.blk F gt) v2 (ru (m::d)):=lS.jd (base:=w1.heap.size) (by rw[nD];exact ho2) (λg hg=>Ψ (HD.out.1 g hg) jZ.out.2.size));obtain⟨x2,c2,hv2,_⟩:=bz ho2;subst hv2;(have b2:=S.was b1);obtain⟨a2',ha2⟩:∃a',tailW x2 (d.length+1) c2=.slice a' d.length (c2-1):=⟨_,rfl⟩;(have htl:=λW=>Qu W x2 (d.length+1) c2 ω ω);rw[ha2] at htl;(have hs3:lS w2 (B.blk F gt) (.slice a2' d.length (c2-1)) (ru d):=by(rw[←ha2];exact Vq hs2));(have Z:=χ (ψ hs3 S));clear hs3 ha2;(have a2:=HA.out _ (jZ.out.1.ag S));clear hs2 S ho2 a1 b1)
   | (((with_reducible refine a2.mono ?_));rintro e w3 ⟨v3,rfl,ho3,hu3⟩;rw [←nD] at ho3;obtain ⟨g3,c3,hv3,hZ3,hb3⟩:=IZ.jd ho3 (by simp [ru]);rw [nD,Ω] at hv3;subst hv3;(have P:=χ (ψ hZ3 (ψ hb3 hu3)));clear ho3 hZ3 hb3 hu3 a2 b2))
  have v:=HD.out.1
  go_loopw [38] (λs38 wr=>∃j:Nat,j<=d.length+1/\s38=.int .i64 (j:Int)/\fD wr B F gt ct A st (wP ((m::d).take j) (bI G m))/\ae [B.bn,B.bp] w3 wr) (λs38 _=>d.length+1-(intOf s38).toNat)
  case atStart=>exact⟨0,ω,rfl,(jZ.out.1.ag Z.out.2).ag P.out.2.2,ae.refl _ _⟩
  case round=>
   obtain⟨j,hj,rfl,f,r⟩:=hrel;rename World=>wr
   by_cases hjl:j<d.length+1
   .obtain⟨y,u⟩:∃y,(m::d)[j]?=some y:=⟨_,ε (by simpa using hjl)⟩;have hyn:y<A.cs.length:=O.out.2.1 y (Η u);have hg3:g3∉[B.bn,B.bp]:=λn=>by
     have h3:=P.out.2.1;have h2:=Z.out.2.size;have h1:=jZ.out.2.size;simp at n;rcases n with e|e
     .have:=v B.bn (by simp[FB.blk]);omega
     .have:=v B.bp (by simp[FB.blk]);omega
    have hc:=r.kept (P.out.1.cell j (by rw[nD];simpa using hjl)) hg3;have hgy:(ru (m::d)).getD j 0=(y:Int):=by unfold ru;rw[φ,ϑ,u];rfl
    rw[hgy] at hc;have b1:=f.h1;have kp:=zi f.rings hyn;have Gr:(j:Int)<(d.length:Int)+1:=ω;have hw1:IntKind.i64.wrap ((j:Int)+1)=(j:Int)+1:=Μ _ ω;have X:(m::d).take (j+1)=(m::d).take j++[y]:=by rw[ώ,u];rfl
    have E:=χ (ψ f (ψ r X));clear f r X u hgy v
    go_wp2_with ((((with_reducible refine kp.mono ?_));rintro e w5 ⟨rfl,OU,dD⟩))
    obtain⟨f,r,X⟩:=E.out;refine⟨⟨j+1,ω,by go_num,?_,r.trans dD⟩,by simp[intOf];omega⟩;rw[X,R7];exact f.dm dD OU
   .obtain rfl:j=d.length+1:=ω;have X:(m::d).take (d.length+1)=m::d:=List.take_of_length_le σ;rw[X] at f;have q3:=f.h3;have qt:=f.top (q:=k) hl;have qf:=f.ai.free k;obtain⟨Y,l⟩:∃Y,Y=wr.setCell ⟨gt,k,none⟩ (.int .i64 (-1)):=⟨_,rfl⟩;have e3':({ wP (m::d) (bI G m) with R:=ah (wP (m::d) (bI G m)).R k [] }:FG)=qQ k m d G:=by
     unfold qQ;rw[(zP _ _).2.2.2,Pf]
    have M4:fD Y B F gt ct A st (qQ k m d G):=by rw[l,←e3'];exact f.iT k []
    have iK:ae [gt] wr Y:=by rw[l];exact ν
    have hw3:ae (B.blk F gt) w3 Y:=(r.mono (λz o=>by simp at o;rcases o with e|e<;>simp[FB.blk,e])).trans (iK.mono (λz o=>by simp at o;simp[FB.blk,o]));have hs4:lS Y (B.blk F gt) (.slice a2' d.length (c2-1)) (ru d):=(Z.out.1.turned P.out.2.2 σ).turned hw3 (λg hg=>Α hg)
    have kt:=RS M4 h1 O.out.2.2.2.1 O.out.2.2.1 (hs4.fewer (λg hg=>by
     simp only[ρ,ς,or_false] at hg;rcases hg with e|e|e|e
     .rw[e];exact gW _ HD.out.2.2.2.2
     all_goals simp [FB.blk,e]))
    rw[O.out.2.2.2.2.2.2.2.2.2.1] at kt;have C:ae (B.blk F gt) w Y:=(((jZ.out.2.mono (λz o=>by simp at o;rcases o with e|e|e<;>simp[FB.blk,e])).then Z.out.2).then P.out.2.2).trans hw3;have H4:=χ (ψ C (ψ l hl));rw[l] at kt;clear f r X M4 iK hw3 hs4 C l e3' v
    go_wp2_with ((((with_reducible refine kt.mono ?_));rintro e w5 ⟨v5,rfl,Yt,M5,dD⟩;obtain⟨a5,c5,hv5,_⟩:=bz Yt;subst hv5))
    obtain⟨C,l,hl⟩:=H4.out;rw[←l] at dD;rw[←l] at Yt;have hs5:lS w5 (B.blk F gt) (.slice a5 D.T.length c5) D.T:=lS.jd (base:=Y.heap.size) Yt (λg hg=>Ψ (HD.out.1 g hg) C.size)
    have tL:ae (B.blk F gt) Y w5:=dD.mono (λz o=>by
     simp only[ρ,ς,or_false] at o;rcases o with e|e|e|e
     .rw[e];exact gW _ HD.out.2.2.2.2
     all_goals simp [FB.blk,e])
    have Ji:=C.trans tL;have H5:=χ (ψ M5 (ψ hs5 Ji));have Sz:D.T.length<=65537:=by have:=O.out.2.2.2.2.2.2.2.2.1;omega
    clear M5 hs5 Ji dD tL Yt C l q3 qt qf kt H4
    go_loopw [59] (λs59 Q=>∃(i:Nat) (G':FG) (q':Nat),i<=D.T.length/\s59=.int .i64 (i:Int)/\sS (nR A) k (D.T.drop i) G' q'=R4/\CO A.cs.length (λy=>((aS A (m:Int)).c y).i) (dA A) k (Jc (D.T.drop i)) G'/\fD Q B F gt ct A (dw st (D.q+q')) G'/\ae (B.blk F gt) w5 Q) (λs59 _=>D.T.length-(intOf s59).toNat)
    case atStart=>exact⟨0,D.G,0,ω,rfl,O.out.2.2.2.2.2.2.2.2.2.2,O.out.2.2.2.2.1,H5.out.1,ae.refl _ _⟩
    case round=>
     obtain⟨i,G',q',hi,rfl,J,K,f,r⟩:=hrel;rename World=>Q
     by_cases hil:i<D.T.length
     .obtain⟨y,u⟩:∃y,D.T[i]?=some y:=⟨_,ε hil⟩;have H:D.T.drop i=y::D.T.drop (i+1):=by
       rw[Ϝ hil]
       congr 1
       rw[ε hil] at u
       injection u
      rw[H] at J K;unfold sS at J;rw[vE] at K;obtain⟨a6,c6,e6,_,_,hel⟩:=H5.out.2.1;have e7:a5=a6:=by injection e6
      subst e7;obtain⟨g6,o6,rfl,hg6,hF6,hc6⟩:=hel i y u;have hc7:=r.kept hc6 hF6;have hiI:(i:Int)<(D.T.length:Int):=ω;have hw1:IntKind.i64.wrap ((i:Int)+1)=(i:Int)+1:=Μ _ ω;have x:=O.out.2.2.2.2.2.2.2.1 y (Η u)
      by_cases e:y=-1
      .rw[Δ e] at J K;rw[e] at hc7;have E:=χ (ψ J (ψ K (ψ f r)));clear J K f r u H hel e6 hc6 e;go_wp2;exact⟨⟨i+1,G',q',ω,by go_num,E.out.1,E.out.2.1,E.out.2.2.1,E.out.2.2.2⟩,by simp[intOf];omega⟩
      .rw[Γ e] at J K;obtain⟨z,rfl⟩:∃z:Nat,y=z:=⟨y.toNat,ω⟩;rw[π] at J K;have RU:=(K.pr z σ).1;have hzin:=O.out.2.2.2.1 z RU.1 RU.2.2
       have kr:=λW (hW:ae [] Q W)=>zR (f.ag hW) [] hl hzin (λt s' X=>by
        have n:=K.mem t (by rw[X];simp)
        exact O.out.2.2.2.1 t n.1 n.2.2)
       obtain⟨hRI2,_⟩:=K.step h1 (λG=>Ab _ _ _ _ _) (λa b c=>dH);have E:=χ (ψ J (ψ hRI2 r));clear J K f r u H hel e6 hc6 e hRI2 RU hzin x
       go_wp2_with ((((with_reducible refine(kr _ β).mono ?_));rintro e w6 ⟨rfl,wR,iD⟩))
       rw[je] at wR;refine⟨⟨i+1,_,q'+qZ k G',ω,by go_num,E.out.1,E.out.2.1,by rw[←Nat.add_assoc];exact wR,E.out.2.2.trans (iD.mono (λz o=>?_))⟩,by simp[intOf];omega⟩;simp only[ρ,ς,or_false] at o;rcases o with e|e|e|e
       .rw[e];exact gW _ HD.out.2.2.2.2
       all_goals simp[FB.blk,e]
     .obtain rfl:i=D.T.length:=ω;have H:D.T.drop D.T.length=[]:=List.drop_eq_nil_of_le (Θ _);rw[H] at J;have hRt':(G',q')=R4:=J;subst hRt';have q0:=f.h0;have kd:=KD.out Q F B.c f.cells;have E:=χ (ψ f r);clear J K f r H
      go_wp2_with ((((with_reducible refine kd.mono ?_));rintro e w7 ⟨rfl,hC7,lT⟩))
      go_ret2;refine⟨rfl,B.blk F gt,⟨⟨B,F,gt,ct,rfl,rfl,E.out.1.cK lT hC7 (λy u=>Α u) (fF A m) (by rw[jm])⟩,O.out.2.2.2.2.2.2.1⟩,(H5.out.2.2.trans E.out.2).trans (lT.mono gW),λy u=>Α u⟩
