/-
  Lemmas.
-/
import Derived.Test.YtnpdakpagnpanaaGreatE04
import Derived.Test.YtnpdakpagnpanaaGreatE16
set_option linter.all false
set_option maxHeartbeats 8000000
set_option maxRecDepth 10000
namespace Go.Proofs.YtnpdakpagnpanaaGreat
open Tryz
open Go Go.RowKit
section
variable{w:World}{p:Nat}{FF:List Nat}{A:NS}{st:Nat}{G:FG}
def Ul(h:uC w p FF A st G)(x:Nat)(k s:Int)(hk:-9223372036854775808<=k/\k<=9223372036854775807/\0<=s/\s<=18446744073709551615)(hB:iX A x k s=true){c:Nat}(hxh:(A.c x).i=c):
  Calls prog 208 #[(p:Nat),(x:Int),.agg #[k,.int .u64 s]] w λe w'=>e=.returned true/\
   Goes FF w w' (λCr=>uC w' p Cr (aA A x k s) (dw st (zA (aA A x k s) c x G)) (lV (aA A x k s) c x G)):=by
 obtain⟨⟨B,F,gt,ct,rfl,rfl,M⟩,I⟩:=h;have hst:=M.cells.oG;have ok:=M.cells.ok;have hin0:=tN hB;obtain⟨hx,hx0⟩:=(aj _ _).1 hin0;have h1:1<=c:=ω;have Wn:c<A.hs.length:=by have:=(ok.nat x hx).2;omega
 have hcs:=gD A x k s;have jw:(aA A x k s).hs.length=A.hs.length:=by rw[mX]
 have hi:=iW hB hx;obtain⟨t,s0,hR,hoff,f1,f2,⟨s',qh⟩,_,_,_,_,_⟩:=NY I hB hx hxh h1;have I2:=(abQ I hB hx hxh h1).1;have htI:=I.kH hR;have D:bY (aA A x k s) (x:Int)=true:=(aj _ _).2 ⟨by rw[hcs];exact hx,by rw[hi];exact hx0⟩;have JW:bY (aA A x k s) (t:Int)=true:=(aj _ _).2 ⟨by rw[hcs];exact htI.2.2.1,by rw[hi];omega⟩;have u1:ae [] w (w.alloc (.cells #[k,.int .u64 s] 97)):=(ae.refl _ _).alloc _;have kp:=λW (g:ae [] (w.alloc (.cells #[k,.int .u64 s] 97)) W)=>iR (M.cells.ag (u1.trans g)) x k s hk hB;have h0:=M.h0;have wC:B.n0∉F:=M.d1.1
 have hsz:w.heap.size∉F:=λhm=>by have:=M.cells.lt _ hm;omega
 have r0:∀W,ae F (w.alloc (.cells #[k,.int .u64 s] 97)) W->W.cell? B.n0=some (B.c:V):=λW g=>g.kept (u1.was h0) wC;have r1:∀W,ae F (w.alloc (.cells #[k,.int .u64 s] 97)) W->W.cell? w.heap.size=some (k:V):=λW h=>h.kept σ hsz;have r2:∀W,ae F (w.alloc (.cells #[k,.int .u64 s] 97)) W->W.cell? ⟨w.heap.size,1,none⟩=some (.int .u64 s):=λW h=>h.kept σ hsz;have d:=χ (ψ M (ψ I (ψ hoff (ψ I2 (ψ M.cells.mem (ψ jw (ψ D JW)))))));have u:=χ (ψ hcs (ψ hi (ψ hR qh)))
 have kh:=λW (hM:fD W B F gt ct (aA A x k s) st G)=>bX hM.cells x D;have KH:=χ kh;have HLB:=χ hB;clear M I ok hoff I2 hB h0 hcs jw hi f1 f2 qh D JW kh hin0 hR htI
 go_enter func208,ntmps208
 go_wp2
 go_region_held3 (ae F (w.alloc (.cells #[k,.int .u64 s] 97))) (exact ν)
  (first
   | (((with_reducible refine (kp _ β).mono ?_));rintro e w1 ⟨rfl,gK,hu1⟩;(have j:ae F (w.alloc (.cells #[k,.int .u64 s] 97)) w1:=ν)))
 have uF:ae F w w1:=(u1.mono σ).trans j;have hM1:=d.out.1.cK uF gK (λy i=>Α i) u.out.1 d.out.2.2.2.2.2.1;have R:=λW (g:ae [] w1 W)=>KH.out W (hM1.ag g);simp only[u.out.2.1,hxh] at R;have b0:=hM1.h0;have jZ:=χ (ψ hM1 uF);clear kp r0 r1 r2 hM1 uF j gK hu1 hsz u1;have xL:x<(aA A x k s).cs.length:=by rw[u.out.1];exact hx
 have Dy:(x:Int)<((aA A x k s).cs.length:Int):=ω;have hcb:(aA A x k s).cs.length<=65536:=jZ.out.1.cells.ok.c1
 by_cases v:G.up x=-1
 .go_wp2_with ((((with_reducible refine(R _ β).mono ?_));rintro e w2 ⟨rfl,H,j⟩;(have E:=(jZ.out.1.ag (w':=_) (β:ae [] w1 _)).cK j H (λy i=>Α i) rfl rfl);(have d2:=E.h2);(have p0:=E.p0 xL);rw[v] at p0;(have pW:=χ (ψ E ((jZ.out.2.then (β:ae [] w1 _)).trans j)));clear E H j))
  refine vK (λW=>fD W B F gt ct (aA A x k s) (dw st 0) G/\ae (B.blk F gt) w W) ?_ ?_
  .exact⟨by rw[fG hst];exact pW.out.1,pW.out.2.mono gW⟩
  have e1:fZ (aA A x k s) c x G=G:=by unfold fZ;rw[Γ (by simp[v])]
  have o:=χ (ψ e1 v);clear e1 v d2 p0 R b0;rintro m ⟨f,Ji⟩;have d3:=f.h3;have T:m.cell? ⟨gt,c,none⟩=some ((t:Int):V):=by(have Fq:=f.top (q:=c) (by rw[d.out.2.2.2.2.2.1];exact Wn);rw[u.out.2.2.1] at Fq;exact Fq)
  have df:=f.ai.free c;have hcap:=f.cap;have hhI:(c:Int)<((aA A x k s).hs.length:Int):=by rw[d.out.2.2.2.2.2.1];omega
  have U:=χ (ψ f Ji)
  by_cases r:t=x
  .subst r;clear f Ji
   go_quiet (fail)
   go_wp2;go_ret;have N:lV (aA A t k s) c t G=G:=by unfold lV;rw[o.out.1,u.out.2.2.1,Γ (by simp[mi])]
   have X:zA (aA A t k s) c t G=0+0:=by unfold zA;rw[o.out.1,u.out.2.2.1,Δ o.out.2,Δ (by rfl)]
   refine⟨rfl,B.blk F gt,⟨⟨B,F,gt,ct,rfl,rfl,?_⟩,d.out.2.2.2.1⟩,U.out.2.drewN _,λy i=>Α i⟩;rw[N,X];exact U.out.1.drewN _
  .have hxt:((t:Int) == (x:Int))=false:=ζ;have hxt2:((t:Int) != (x:Int))=true:=ζ;have D:=d.out.2.2.2.2.2.2.1;have JW:=d.out.2.2.2.2.2.2.2;have kc:=λW (g:ae [] m W)=>fA (f.cells.ag g) x t D JW;have l:=f.cn;have Y:∀x,x≠B.c->x∉[B.c]:=λx h1=>by simp[h1]
   have r0:∀W,ae [B.c] m W->W.cell? B.n0=some (B.c:V):=λW g=>g.kept f.h0 (Y _ l.1);have r3:∀W,ae [B.c] m W->W.cell? ⟨B.n0,3,none⟩=some (.slice (some (gt:Nat)) (aA A x k s).hs.length ct):=λW g=>g.kept f.h3 (Y _ l.1);have rt:∀W,ae [B.c] m W->W.cell? ⟨gt,c,none⟩=some ((t:Int):V):=λW g=>g.kept T (Y _ l.2.2.2.2.2);have rf:∀W,ae [B.c] m W->W.frozen? ⟨gt,c,none⟩=false:=λW g=>g.ay T (Y _ l.2.2.2.2.2) df;clear f Ji d3 T df;obtain⟨b2,n⟩:∃b2,decide (dA (aA A x k s) x t)=b2:=⟨_,rfl⟩;rw[n] at kc;have O:=χ n
   clear n
   go_region_held3 (ae [B.c] m) (exact ν)
    (first
     | (((with_reducible refine (kc _ β).mono ?_));rintro e w6 ⟨rfl,J,iD⟩;(have C:ae [B.c] m w6:=ae.trans ν iD)))
   have d3:=r3 _ C;have T:=rt _ C;have df:=rf _ C;have M6:=U.out.1.setSt C J;have P:ae (B.blk F gt) w w6:=U.out.2.trans (C.mono (λz Q=>by simp at Q;rw[Q];exact gW _ d.out.2.2.2.2.1));rw[je] at M6;have Z:=χ (ψ M6 P);clear M6 P C J iD r0 r3 rt rf kc;have X:zA (aA A x k s) c x G=0+1:=by unfold zA;rw[o.out.1,u.out.2.2.1,Δ o.out.2,Γ (λe=>r (by have e2:(t:Int)=(x:Int):=e;omega))]
   have HQ:=χ X;clear X;cases b2 with
   |false=>
    go_wp2;go_ret;have N:lV (aA A x k s) c x G=G:=by unfold lV;rw[o.out.1,u.out.2.2.1,Γ (λh=>by have S:=h.2;unfold nR at S;rw[show(mi (t::s0)).toNat=t from by unfold mi;simp,O.out] at S;cases S)]
    refine⟨rfl,B.blk F gt,⟨⟨B,F,gt,ct,rfl,rfl,?_⟩,d.out.2.2.2.1⟩,by(have:=Z.out.2);exact ν,λy i=>Α i⟩;rw[N,HQ.out];exact Z.out.1
   |true=>
    go_wp2;go_ret;have N:lV (aA A x k s) c x G=L8 c x G:=by unfold lV;rw[o.out.1,u.out.2.2.1,Δ ⟨λe=>r (by have e2:(t:Int)=(x:Int):=e;omega),by unfold nR;rw[show(mi (t::s0)).toNat=t from by unfold mi;simp];exact O.out⟩]
    refine⟨rfl,B.blk F gt,⟨⟨B,F,gt,ct,rfl,rfl,?_⟩,d.out.2.2.2.1⟩,(Z.out.2).setCell (Α (by simp[FB.blk])) _,λy i=>Α i⟩;rw[N,HQ.out];exact Z.out.1.iT c (x::BQ (G.R c) x)
 .obtain⟨p1,hp1,ux,_⟩:=(d.out.2.1.ff.Ik x hx).resolve_left v;have hp1h:(A.c p1).i=c:=by have:(A.c x).i=(A.c p1).i:=(d.out.2.1.ff.home x p1 hx ux).1;omega
  have hpin:bY (aA A x k s) (p1:Int)=true:=(aj _ _).2 ⟨by rw[u.out.1];exact hp1,by rw[u.out.2.1];omega⟩;have hpn:((p1:Int) == -1)=false:=σ;obtain⟨b,hb⟩:∃b,decide (dA (aA A x k s) x p1)=b:=⟨_,rfl⟩;have KA:=χ (λW st' (hM:fD W B F gt ct (aA A x k s) st' G)=>fA hM.cells x p1 d.out.2.2.2.2.2.2.1 hpin);have HB:=χ hb;clear hb;cases b with
  |false=>
   go_wp2_with (first
    |(((with_reducible refine(R _ β).mono ?_));rintro e w2 ⟨rfl,H,j⟩;(have E:=(jZ.out.1.ag (w':=_) (β:ae [] w1 _)).cK j H (λy i=>Α i) rfl rfl);(have d2:=E.h2);(have d0:=E.h0);(have p0:=E.p0 xL);rw[ux] at p0;(have ka:=KA.out _ _ E);rw[HB.out] at ka;(have pW:=χ (ψ E ((jZ.out.2.then (β:ae [] w1 _)).trans j)));clear E H j)
    | (((with_reducible refine ka.mono ?_));rintro e w3 ⟨rfl,yI,K⟩;(have Es:=χ (ψ (pW.out.1.setSt K yI) K));clear yI K))
   refine vK (λW=>fD W B F gt ct (aA A x k s) (dw st 1) G/\ae (B.blk F gt) w W) ?_ ?_
   .exact⟨Es.out.1,(pW.out.2.mono gW).trans (Es.out.2.mono (λz Q=>by simp at Q;rw[Q];exact gW _ d.out.2.2.2.2.1))⟩
   have e1:fZ (aA A x k s) c x G=G:=by unfold fZ;rw[Γ (λh=>by have S:=h.2;unfold nR at S;rw[ux,π,HB.out] at S;cases S)]
   have o:=χ (ψ e1 v);clear e1 v d2 p0 R b0 d0 ka ux;rintro m ⟨f,Ji⟩;have d3:=f.h3;have T:m.cell? ⟨gt,c,none⟩=some ((t:Int):V):=by(have Fq:=f.top (q:=c) (by rw[d.out.2.2.2.2.2.1];exact Wn);rw[u.out.2.2.1] at Fq;exact Fq)
   have df:=f.ai.free c;have hcap:=f.cap;have hhI:(c:Int)<((aA A x k s).hs.length:Int):=by rw[d.out.2.2.2.2.2.1];omega
   have U:=χ (ψ f Ji)
   by_cases r:t=x
   .subst r;clear f Ji
    go_quiet (fail)
    go_wp2;go_ret;have N:lV (aA A t k s) c t G=G:=by unfold lV;rw[o.out.1,u.out.2.2.1,Γ (by simp[mi])]
    have X:zA (aA A t k s) c t G=1+0:=by unfold zA;rw[o.out.1,u.out.2.2.1,Γ o.out.2,Δ (by rfl)]
    refine⟨rfl,B.blk F gt,⟨⟨B,F,gt,ct,rfl,rfl,?_⟩,d.out.2.2.2.1⟩,U.out.2.drewN _,λy i=>Α i⟩;rw[N,X];exact U.out.1.drewN _
   .have hxt:((t:Int) == (x:Int))=false:=ζ;have hxt2:((t:Int) != (x:Int))=true:=ζ;have D:=d.out.2.2.2.2.2.2.1;have JW:=d.out.2.2.2.2.2.2.2;have kc:=λW (g:ae [] m W)=>fA (f.cells.ag g) x t D JW;have l:=f.cn;have Y:∀x,x≠B.c->x∉[B.c]:=λx h1=>by simp[h1]
    have r0:∀W,ae [B.c] m W->W.cell? B.n0=some (B.c:V):=λW g=>g.kept f.h0 (Y _ l.1);have r3:∀W,ae [B.c] m W->W.cell? ⟨B.n0,3,none⟩=some (.slice (some (gt:Nat)) (aA A x k s).hs.length ct):=λW g=>g.kept f.h3 (Y _ l.1);have rt:∀W,ae [B.c] m W->W.cell? ⟨gt,c,none⟩=some ((t:Int):V):=λW g=>g.kept T (Y _ l.2.2.2.2.2);have rf:∀W,ae [B.c] m W->W.frozen? ⟨gt,c,none⟩=false:=λW g=>g.ay T (Y _ l.2.2.2.2.2) df;clear f Ji d3 T df;obtain⟨b2,n⟩:∃b2,decide (dA (aA A x k s) x t)=b2:=⟨_,rfl⟩;rw[n] at kc
    have O:=χ n;clear n
    go_region_held3 (ae [B.c] m) (exact ν)
     (first
      | (((with_reducible refine (kc _ β).mono ?_));rintro e w6 ⟨rfl,J,iD⟩;(have C:ae [B.c] m w6:=ae.trans ν iD)))
    have d3:=r3 _ C;have T:=rt _ C;have df:=rf _ C;have M6:=U.out.1.setSt C J;have P:ae (B.blk F gt) w w6:=U.out.2.trans (C.mono (λz Q=>by simp at Q;rw[Q];exact gW _ d.out.2.2.2.2.1));rw[je] at M6;have Z:=χ (ψ M6 P);clear M6 P C J iD r0 r3 rt rf kc;have X:zA (aA A x k s) c x G=1+1:=by unfold zA;rw[o.out.1,u.out.2.2.1,Γ o.out.2,Γ (λe=>r (by have e2:(t:Int)=(x:Int):=e;omega))]
    have HQ:=χ X;clear X;cases b2 with
    |false=>
     go_wp2;go_ret;have N:lV (aA A x k s) c x G=G:=by unfold lV;rw[o.out.1,u.out.2.2.1,Γ (λh=>by have S:=h.2;unfold nR at S;rw[show(mi (t::s0)).toNat=t from by unfold mi;simp,O.out] at S;cases S)]
     refine⟨rfl,B.blk F gt,⟨⟨B,F,gt,ct,rfl,rfl,?_⟩,d.out.2.2.2.1⟩,by(have:=Z.out.2);exact ν,λy i=>Α i⟩;rw[N,HQ.out];exact Z.out.1
    |true=>
     go_wp2;go_ret;have N:lV (aA A x k s) c x G=L8 c x G:=by unfold lV;rw[o.out.1,u.out.2.2.1,Δ ⟨λe=>r (by have e2:(t:Int)=(x:Int):=e;omega),by unfold nR;rw[show(mi (t::s0)).toNat=t from by unfold mi;simp];exact O.out⟩]
     refine⟨rfl,B.blk F gt,⟨⟨B,F,gt,ct,rfl,rfl,?_⟩,d.out.2.2.2.1⟩,(Z.out.2).setCell (Α (by simp[FB.blk])) _,λy i=>Α i⟩;rw[N,HQ.out];exact Z.out.1.iT c (x::BQ (G.R c) x)
  |true=>
   have hlt:dA (aA A x k s) x p1:=by have:=HB.out;simpa using this
   obtain⟨hpx,o1,o2,o3,zY⟩:=d.out.2.2.1 p1 ux
   have KL:=χ (λW st' (hM:fD W B F gt ct (aA A x k s) st' G)=>by
    have hn:=u.out.1;have:=Ak (w:=W) (M:=hM) (bZ:=λy=>(A.c y).i) (L:=dA (aA A x k s)) (Mx:=λa y=>y≠x->dA (aA A x k s) a y) (λa=>qp) (q:=c) (x:=x) (t:=t) (s:=s0) (by rw[d.out.2.2.2.2.2.1];exact Wn) xL
     (by rw [hn];exact d.out.2.1.ff.mono (λy q i hu ho=>⟨(d.out.2.1.ff.home y q i hu).1,(d.out.2.1.ff.home y q i hu).2,λhyx=>by
      have hle:=wJ HLB.out;rw[π] at hle;have hc:=vk HLB.out hx
      by_cases e:q=x
      .subst e;exact nu ho (by rw[hc,Γ hyx]) (by rw[hc,Δ rfl];exact hle)
      .exact (fC (by rw [hc,Γ e]) (by rw [hc,Γ hyx])).2 ho⟩) d.out.2.1.ff.alone) u.out.2.2.1 (by rw [hn];exact (d.out.2.1.kH u.out.2.2.1).2.2.1) h1
     (by
      rw[hn];intro p2 hp2;obtain rfl:p2=p1:=ω
      exact ⟨hpx,hp1h,o1,o2,o3⟩) (by rw [hn];exact λy i ZV TB hyx=>zY y i ZV TB hyx)
    rw[hn] at this
    exact this)
   clear o1 o2 o3 zY
   go_wp2_with (first
    |(((with_reducible refine(R _ β).mono ?_));rintro e w2 ⟨rfl,H,j⟩;(have E:=(jZ.out.1.ag (w':=_) (β:ae [] w1 _)).cK j H (λy i=>Α i) rfl rfl);(have d2:=E.h2);(have d0:=E.h0);(have p0:=E.p0 xL);rw[ux] at p0;(have ka:=KA.out _ _ E);rw[HB.out] at ka;(have pW:=χ (ψ E ((jZ.out.2.then (β:ae [] w1 _)).trans j)));clear E H j)
    |(((with_reducible refine ka.mono ?_));rintro e w3 ⟨rfl,yI,K⟩;(have kl:=KL.out _ _ (pW.out.1.setSt K yI));(have Es:=χ (ψ (pW.out.1.setSt K yI) K));clear yI K)
    | (((with_reducible refine kl.mono ?_));rintro e w4 ⟨rfl,M4,iK⟩;(have Ms:=χ (ψ M4 iK));clear M4 iK))
   have e1:fZ (aA A x k s) c x G=dJ A.cs.length c x G:=by unfold fZ;rw[Δ ⟨v,by unfold nR;rw[ux,π];exact HB.out⟩,u.out.1]
   have hRL:=u.out.2.2.2;rw[e1] at hRL;refine vK (λW=>fD W B F gt ct (aA A x k s) (dw st 1) (dJ A.cs.length c x G)/\ae (B.blk F gt) w W) ?_ ?_
   .exact⟨Ms.out.1,((pW.out.2.mono gW).trans (Es.out.2.mono (λz Q=>by simp at Q;rw[Q];exact gW _ d.out.2.2.2.2.1))).trans (Ms.out.2.mono (λz Q=>by simp at Q;rcases Q with e|e|e<;>simp[FB.blk,e]))⟩
   have o:=χ (ψ e1 v);have WJ:=χ hRL;clear e1 v d2 p0 R b0 d0 ka ux hRL kl;rintro m ⟨f,Ji⟩;have d3:=f.h3;have T:m.cell? ⟨gt,c,none⟩=some ((t:Int):V):=by(have Fq:=f.top (q:=c) (by rw[d.out.2.2.2.2.2.1];exact Wn);rw[WJ.out] at Fq;exact Fq)
   have df:=f.ai.free c;have hcap:=f.cap;have hhI:(c:Int)<((aA A x k s).hs.length:Int):=by rw[d.out.2.2.2.2.2.1];omega
   have U:=χ (ψ f Ji)
   by_cases r:t=x
   .subst r;clear f Ji
    go_quiet (fail)
    go_wp2;go_ret;have N:lV (aA A t k s) c t G=(dJ A.cs.length c t G):=by unfold lV;rw[o.out.1,WJ.out,Γ (by simp[mi])]
    have X:zA (aA A t k s) c t G=1+0:=by unfold zA;rw[o.out.1,WJ.out,Γ o.out.2,Δ (by rfl)]
    refine⟨rfl,B.blk F gt,⟨⟨B,F,gt,ct,rfl,rfl,?_⟩,d.out.2.2.2.1⟩,U.out.2.drewN _,λy i=>Α i⟩;rw[N,X];exact U.out.1.drewN _
   .have hxt:((t:Int) == (x:Int))=false:=ζ;have hxt2:((t:Int) != (x:Int))=true:=ζ;have D:=d.out.2.2.2.2.2.2.1;have JW:=d.out.2.2.2.2.2.2.2;have kc:=λW (g:ae [] m W)=>fA (f.cells.ag g) x t D JW;have l:=f.cn;have Y:∀x,x≠B.c->x∉[B.c]:=λx h1=>by simp[h1]
    have r0:∀W,ae [B.c] m W->W.cell? B.n0=some (B.c:V):=λW g=>g.kept f.h0 (Y _ l.1);have r3:∀W,ae [B.c] m W->W.cell? ⟨B.n0,3,none⟩=some (.slice (some (gt:Nat)) (aA A x k s).hs.length ct):=λW g=>g.kept f.h3 (Y _ l.1);have rt:∀W,ae [B.c] m W->W.cell? ⟨gt,c,none⟩=some ((t:Int):V):=λW g=>g.kept T (Y _ l.2.2.2.2.2);have rf:∀W,ae [B.c] m W->W.frozen? ⟨gt,c,none⟩=false:=λW g=>g.ay T (Y _ l.2.2.2.2.2) df;clear f Ji d3 T df;obtain⟨b2,n⟩:∃b2,decide (dA (aA A x k s) x t)=b2:=⟨_,rfl⟩;rw[n] at kc
    have O:=χ n;clear n
    go_region_held3 (ae [B.c] m) (exact ν)
     (first
      | (((with_reducible refine (kc _ β).mono ?_));rintro e w6 ⟨rfl,J,iD⟩;(have C:ae [B.c] m w6:=ae.trans ν iD)))
    have d3:=r3 _ C;have T:=rt _ C;have df:=rf _ C;have M6:=U.out.1.setSt C J;have P:ae (B.blk F gt) w w6:=U.out.2.trans (C.mono (λz Q=>by simp at Q;rw[Q];exact gW _ d.out.2.2.2.2.1));rw[je] at M6;have Z:=χ (ψ M6 P);clear M6 P C J iD r0 r3 rt rf kc;have X:zA (aA A x k s) c x G=1+1:=by unfold zA;rw[o.out.1,WJ.out,Γ o.out.2,Γ (λe=>r (by have e2:(t:Int)=(x:Int):=e;omega))]
    have HQ:=χ X;clear X;cases b2 with
    |false=>
     go_wp2;go_ret;have N:lV (aA A x k s) c x G=(dJ A.cs.length c x G):=by unfold lV;rw[o.out.1,WJ.out,Γ (λh=>by have S:=h.2;unfold nR at S;rw[show(mi (t::s')).toNat=t from by unfold mi;simp,O.out] at S;cases S)]
     refine⟨rfl,B.blk F gt,⟨⟨B,F,gt,ct,rfl,rfl,?_⟩,d.out.2.2.2.1⟩,by(have:=Z.out.2);exact ν,λy i=>Α i⟩;rw[N,HQ.out];exact Z.out.1
    |true=>
     go_wp2;go_ret;have N:lV (aA A x k s) c x G=L8 c x (dJ A.cs.length c x G):=by unfold lV;rw[o.out.1,WJ.out,Δ ⟨λe=>r (by have e2:(t:Int)=(x:Int):=e;omega),by unfold nR;rw[show(mi (t::s')).toNat=t from by unfold mi;simp];exact O.out⟩]
     refine⟨rfl,B.blk F gt,⟨⟨B,F,gt,ct,rfl,rfl,?_⟩,d.out.2.2.2.1⟩,(Z.out.2).setCell (Α (by simp[FB.blk])) _,λy i=>Α i⟩;rw[N,HQ.out];exact Z.out.1.iT c (x::BQ ((dJ A.cs.length c x G).R c) x)
end
def aaq(A:NS)(x:Nat)(G:FG):FG:=if mi (G.R (A.c x).i.toNat)=x then EN A (A.c x).i G else nZ (A.c x).i.toNat x (dJ A.cs.length (A.c x).i.toNat x G)
def aah(A:NS)(x:Nat)(G:FG):Nat:=if mi (G.R (A.c x).i.toNat)=x then Ec A (A.c x).i G else 0
section
variable{w:World}{p:Nat}{FF:List Nat}{A:NS}{st:Nat}{G:FG}
def Ui(h:uC w p FF A st G)(x:Nat)(hin:bY A (x:Int)=true):
  Calls prog 209 #[(p:Nat),(x:Int)] w λe w'=>e=.returned true/\
   Goes FF w w' (λCr=>uC w' p Cr (aS A x) (dw st (aah A x G)) (aaq A x G)):=by
 obtain⟨⟨B,F,gt,ct,rfl,rfl,M⟩,I⟩:=h;have hst:=M.cells.oG;have ok:=M.cells.ok;obtain⟨hx,hx0⟩:=(aj _ _).1 hin;obtain⟨hh,hxh⟩:∃hh:Nat,(A.c x).i=hh:=⟨(A.c x).i.toNat,ω⟩;have h1:1<=hh:=ω;have Wn:hh<A.hs.length:=by have:=(ok.nat x hx).2;omega
 unfold aaq aah;rw[hxh,π];obtain⟨t,s,hR⟩:∃t s,G.R hh=t::s:=by
  cases hRR:G.R hh with
  |nil=>
   have h2:=I.IM hRR;have h3:=(jV (A:=A) (h:=(hh:Int)) ω).1 h2;have:0<cZ A (hh:Int):=fO.2 ⟨x,hx,hxh,ω⟩;omega
  |cons t s=>exact⟨t,s,rfl⟩
 have kh:=bX M.cells x hin;rw[hxh] at kh;have h0:=M.h0;have ms:=λW (hu:ae F w W) (hC:aD W B.c F A st)=>M.cK hu hC (λy hy=>Α hy) rfl rfl;have hhI:(hh:Int)<(A.hs.length:Int):=ω;have hcap:=M.cap;have Dy:(x:Int)<(A.cs.length:Int):=ω;have hmin:=(I.kH hR).1
 by_cases htx:t=x
 .subst htx;rw[hR,Δ (by rfl),Δ (by rfl)];have ee:uh A (hh:Int)=aS A t:=by unfold uh;rw[hmin]
  have ke:=λW (hK:uC W B.n0 (B.blk F gt) A st G)=>yN hK (hh:Int) ω;simp only[hmin,ee] at ke;have HK:=χ (ψ ms (ψ I (ψ ke hR)));clear M I ms ke ee hin hR hmin
  go_enter func209,ntmps209
  go_wp2_with (first
   |(((with_reducible refine kh.mono ?_));rintro e w1 ⟨rfl,gK,hu1⟩;(have M1:=HK.out.1 _ hu1 gK);(have d3:=M1.h3);(have dt:w1.cell? ⟨gt,hh,none⟩=some ((t:Int):V):=by(have Fq:=M1.top Wn;rw[HK.out.2.2.2] at Fq;exact Fq));(have ke1:=HK.out.2.2.1 _ ⟨⟨B,F,gt,ct,rfl,rfl,M1⟩,HK.out.2.1⟩);(have HU:=χ hu1);clear M1 gK hu1)
   | (((with_reducible refine ke1.mono ?_));rintro e w2 ⟨rfl,FF2,hK2,hu2,hF2⟩))
  go_ret;exact⟨rfl,FF2,hK2,(HU.out.mono gW).trans hu2,λy hy=>(hF2 y hy).imp id (λh=>Χ HU.out.size h)⟩
 .have hne:¬mi (G.R hh)=(x:Int):=by rw[hR];intro e;exact htx (by have e2:(t:Int)=(x:Int):=e;omega)
  rw[Γ hne,Γ hne,fG hst];obtain⟨hoff,f1,f2,⟨s',qh⟩,_,ux,_⟩:=Z0 I hR hx hxh htx;obtain⟨I2,hhd,_⟩:=aaY ⟨f1,f2⟩ ok qh hx ux hxh htx;have kl:=λW (hM:fD W B F gt ct A st G)=>Ak (w:=W) (M:=hM) (bZ:=λy=>(A.c y).i) (L:=dA A) (Mx:=dA A) (λa=>qp) (q:=hh) (x:=x) (t:=t) (s:=s) Wn hx (I.ff.mono (λy q hy hu ho=>⟨(I.ff.home y q hy hu).1,(I.ff.home y q hy hu).2,λ_=>ho⟩) I.ff.alone) hR (I.kH hR).2.2.1 h1
   (λp1 hp1=>⟨(hoff p1 hp1).1,(hoff p1 hp1).2.2.1,(hoff p1 hp1).2.2.2.1,(hoff p1 hp1).2.2.2.2.1,(hoff p1 hp1).2.2.2.2.2⟩) (λy hy ZV TB=>I.first hR hy ZV TB)
  have kra:=λW (hM:fD W B F gt ct A st (dJ A.cs.length hh x G))=>CV hM hx (f1.ring x hx) (λz hz=>(f1.kid x z hx hz).1);have kpa:=λW (hM:fD W B F gt ct A st (bI (dJ A.cs.length hh x G) x))=>zi hM.rings hx;have WW:=λW (hC:aD W B.c F A st)=>ik hC x hin;have htxI:((t:Int) == (x:Int))=false:=ζ;obtain⟨G1,hG1⟩:∃G1,dJ A.cs.length hh x G=G1:=⟨_,rfl⟩;rw[hG1] at kl kra kpa I2 qh hhd ⊢;have HK:=χ (ψ ms (ψ kl (ψ kra (ψ kpa (ψ WW (ψ I2 (ψ hR (ψ qh hhd))))))));clear M I ms kl kra kpa WW I2 hR qh hhd hin hmin hoff f1 f2 ux hG1 hne
  go_enter func209,ntmps209
  go_wp2_with (first
   |(((with_reducible refine kh.mono ?_));rintro e w1 ⟨rfl,gK,hu1⟩;(have M1:=HK.out.1 _ hu1 gK);(have d3:=M1.h3);(have dt:w1.cell? ⟨gt,hh,none⟩=some ((t:Int):V):=by(have Fq:=M1.top Wn;rw[HK.out.2.2.2.2.2.2.1] at Fq;exact Fq));(have k1:=HK.out.2.1 _ M1);(have HU1:=χ hu1);clear M1 gK hu1)
   |(((with_reducible refine k1.mono ?_));rintro e w2 ⟨rfl,M2,hu2⟩;(have k2:=HK.out.2.2.1 _ M2);(have HU2:=χ hu2);clear M2 hu2 k1)
   |(((with_reducible refine k2.mono ?_));rintro e w3 ⟨rfl,M3,hu3⟩;(have k3:=HK.out.2.2.2.1 _ M3);(have e3:=M3.h1);(have Es:=χ (ψ M3 hu3));clear M3 hu3 k2)
   |(((with_reducible refine k3.mono ?_));rintro e w4 ⟨rfl,hR4,iK⟩;(have M4:=Es.out.1.dm iK hR4);(have e4:=M4.h0);(have k4:=HK.out.2.2.2.2.1 _ M4.cells);(have Ms:=χ (ψ M4 iK));clear M4 iK hR4 k3)
   | (((with_reducible refine k4.mono ?_));rintro e w5 ⟨rfl,Td,dD⟩))
  go_ret;have M5:=Ms.out.1.cK dD Td (λy hy=>Α hy) (fF A x) (by rw[jm]);have eR:(bI G1 x).R=G1.R:=Pf G1 x
  have M6:=M5.Pd hh (Qr (G1.R hh) (kl (G1.K x)) x) (by
   show mi _=mi ((bI G1 x).R hh)
   rw[eR,HK.out.2.2.2.2.2.2.2.1];have h9:=HK.out.2.2.2.2.2.2.2.2;rw[show(nZ hh x G1).R hh=Qr (G1.R hh) (kl (G1.K x)) x from bG _ _ _,HK.out.2.2.2.2.2.2.2.1] at h9
   rw [h9];rfl)
  have eG:nZ hh x G1={ prt (bI G1 x) x with R:=ah (bI G1 x).R hh (Qr (G1.R hh) (kl (G1.K x)) x) }:=by unfold nZ;rw[eR]
  refine⟨rfl,B.blk F gt,⟨⟨B,F,gt,ct,rfl,rfl,?_⟩,HK.out.2.2.2.2.2.1⟩,(((HU1.out.mono gW).trans (HU2.out.mono (λz hz=>by simp at hz;rcases hz with e|e|e<;>simp[FB.blk,e]))).trans (Es.out.2.mono (λz hz=>by simp at hz;rcases hz with e|e|e<;>simp[FB.blk,e]))).trans ((Ms.out.2.mono (λz hz=>by simp at hz;rcases hz with e|e<;>simp[FB.blk,e])).trans (dD.mono gW)),λy hy=>Α hy⟩;rw[eG];exact M6
def ab1(I:yQ A G)(a:A.Ok):G.R A.hs.length=[]:=by
 cases e:G.R A.hs.length with
 |nil=>rfl
 |cons x t=>
  have:=I.out (h:=A.hs.length) (z:=x) (by rw[e];simp);have:=a.nat x this.2.1;omega
def Re(h:uC w p FF A st G):
  Calls prog 212 #[(p:Nat)] w λe w'=>e=.returned (dF A:Int)/\Goes FF w w' (λCr=>uC w' p Cr (aO A) st G):=by
 obtain⟨⟨B,F,gt,ct,rfl,rfl,M⟩,I⟩:=h;have k:=jg M.cells;have h0:=M.h0;have Y:=ZX I
 by_cases O:65536<A.hs.length
 .have u:dF A=0:=by unfold dF;rw[Δ O]
  have s:aO A=A:=by unfold aO;rw[Δ O]
  rw[u,s] at k;rw[u,s];have m:=χ M;have R:=χ I;clear M I u s Y
  go_enter func212,ntmps212
  go_wp2_with (((with_reducible refine k.mono ?_));rintro e X ⟨rfl,t,P,l,E⟩)
  go_ret;exact⟨rfl,B.blk t gt,⟨⟨B,t,gt,ct,rfl,rfl,m.out.cK l P E rfl rfl⟩,R.out⟩,l.mono gW,Yu E⟩
 .have u:dF A=A.hs.length:=by unfold dF;rw[Γ O]
  rw[u] at k;rw[u];have v:(aO A).cs.length=A.cs.length:=by unfold aO;rw[Γ O]
  have jw:(aO A).hs.length=A.hs.length+1:=by unfold aO;rw[Γ O];simp
  have hh0:=M.cells.ok.h0;have MF:=ab1 I M.cells.ok;have m:=χ M;have R:=χ (ψ Y MF);clear M I u Y MF
  go_enter func212,ntmps212
  go_wp2_with (first
   |(((with_reducible refine k.mono ?_));rintro e X ⟨rfl,t,P,l,E⟩;(have d3:=l.kept m.out.h3 m.out.d1.1);(have f3:=l.ay m.out.h3 m.out.d1.1 (m.out.head.free 3));(have K:=au m.out.ai.own l (λg W=>by simp[Value.ownBlock] at W;subst W;exact m.out.d1.2.2.2.2.2));rw[wD] at K;(have g0:B.n0≠gt:=m.out.d2.2.2.2.2))
   | ((at_builtin;refine bD rfl _ _ 77 rfl 0 3 (.int .i64 0) 1 8 underlying77 gN rfl δ _ _ _ rfl (K) [.int .i64 (-1)] rfl (by simp [Value.oneCell']) (by first|rfl|(rw [Κ];rfl)) μ ω ω ?_;intro v2 Q H a oq);(have a:ae [gt] X Q:=a);obtain ⟨i,J,ev,_⟩:=fU H ω;subst ev;(have d4:=a.kept d3 ζ);(have f4:=a.ay d3 ζ f3)))
  go_ret;have x:=m.out;have c:=x.lt;have f:=x.d1;have q:=x.d2;have r:=x.d3;have hws:=l.size;have n:ae [B.n0] Q (Q.setCell ⟨B.n0,3,none⟩ (.slice (some (i:Nat)) (A.hs.length+1) J)):=β;have C:i=gt\/X.heap.size<i:=by
   rcases oq with h|h
   .exact Α (Option.some.inj h)
   .exact Β (h i rfl)
  have gK:=P.lt;have S:=c B.n0 (by simp[FB.blk]);have l1:=c B.br (by simp[FB.blk]);have l2:=c B.bn (by simp[FB.blk]);have l3:=c B.bp (by simp[FB.blk]);have l4:=c B.bl (by simp[FB.blk]);have l5:=c gt (by simp[FB.blk]);have b:∀y,y<w.heap.size->y∉F->y∉t:=λy o hn L=>by rcases E y L with D|D;exact hn D;omega
  have xm:i∉t:=by
   rcases C with e|e
   .rw[e];exact b gt l5 f.2.2.2.2.2
   .exact λL=>by have:=gK i L;omega
  have d:∀y,y<w.heap.size->y≠gt->y≠i:=λy o hn e=>by
   rcases C with s|s
   .exact hn (e.trans s)
   .omega
  have Z:=((x.head.upd l f.1).upd a ζ).set 3 (.slice (some (i:Nat)) (A.hs.length+1) J);have T:∀y,y≠gt->y∉[gt]:=λy h=>by simpa using h
  have U:∀y,y≠B.n0->y∉[B.n0]:=λy h=>by simpa using h
  have eT:jE G.R (A.hs.length+1)=jE G.R A.hs.length++[-1]:=by
   unfold jE;rw[List.range_succ,List.map_append];simp[R.out.2,mi]
  have hBM:fD (Q.setCell ⟨B.n0,3,none⟩ (.slice (some (i:Nat)) (A.hs.length+1) J)) B t i J (aO A) st G:=by
   refine⟨?_,?_,?_,?_,⟨?_⟩,⟨b _ S f.1,b _ l1 f.2.1,b _ l2 f.2.2.1,b _ l3 f.2.2.2.1,b _ l4 f.2.2.2.2.1,xm⟩,⟨q.1,q.2.1,q.2.2.1,q.2.2.2.1,d _ S q.2.2.2.2⟩,⟨r.1,r.2.1,r.2.2.1,d _ l4 r.2.2.2.1,(d _ l1 (Ne.symm r.2.2.2.2.1)).symm,(d _ l2 (Ne.symm r.2.2.2.2.2.1)).symm,(d _ l3 (Ne.symm r.2.2.2.2.2.2)).symm⟩⟩
   .rw[v,jw];refine Z.ext (λj hj=>?_);rcases(ω:j=0\/j=1\/j=2\/j=3) with rfl|rfl|rfl|rfl<;>rfl
   .exact(P.upd a (λy o=>by simp at o;rw[o];exact b gt l5 f.2.2.2.2.2)).upd n (λy o=>by simp at o;rw[o];exact b _ S f.1)
   .rw[v];exact((x.rings.upd l f.2.1 f.2.2.1 f.2.2.2.1).upd a (T _ (Ne.symm r.2.2.2.2.1)) (T _ (Ne.symm r.2.2.2.2.2.1)) (T _ (Ne.symm r.2.2.2.2.2.2))).upd n (U _ (Ne.symm q.1)) (U _ (Ne.symm q.2.1)) (U _ (Ne.symm q.2.2.1))
   .rw[v];exact((x.pl.upd l f.2.2.2.2.1).upd a (T _ r.2.2.2.1)).upd n (U _ (Ne.symm q.2.2.2.1))
   .rw[jw,wD,eT,dO];refine au (jX H (Nat.zero_le _)) n (λg W L=>?_);simp[Value.ownBlock] at W L;exact d _ S q.2.2.2.2 ω
  refine⟨rfl,B.blk t i,⟨⟨B,t,i,J,rfl,rfl,hBM⟩,R.out.1⟩,((l.mono gW).trans (a.mono (λz N=>by simp at N;simp[FB.blk,N]))).trans (n.mono (λz N=>by simp at N;simp[FB.blk,N])),λy o=>?_⟩;simp only[FB.blk,ρ] at o ⊢;rcases o with e|e|e|e|e|e|e
  .exact Α (Α e)
  .exact Α (Β (Α e))
  .exact Α (Β (Β (Α e)))
  .exact Α (Β (Β (Β (Α e))))
  .exact Α (Β (Β (Β (Β (Α e)))))
  .rcases C with s|s
   .exact Α (Β (Β (Β (Β (Β (Α (e.trans s)))))))
   .exact Β ω
  .rcases E y e with D|D
   .exact Α (Β (Β (Β (Β (Β (Β D))))))
   .exact Β D
end
def Rb:(prog.info? 198).map (λi=>(i.zero,i.size,i.bytes))=some (some (.agg #[(0:Int),(0:Int),(0:Int),false]),4,32):=by kernel_rfl
def MN(n j:Nat)(a:j<n*4):(madeCells #[Value.int .i64 0,(0:Int),(0:Int),false] (n*4)).toList.getD j undef=D6 (λ_=>0) (λ_=>0) (λ_=>0) (λ_=>false) j:=by
 rw[φ,ε (by simp[size_madeCells];omega)];simp only[Option.getD_some,madeCells,Array.getElem_toList,Array.getElem_map,Array.getElem_range];unfold D6
 grind
def upTo(k:Nat)(v:Int):Nat->Int:=λi=>if i<k then v else 0
def UO(k:Nat)(v:Int):ah (upTo k v) k v=upTo (k+1) v:=by
 funext i;unfold ah upTo
 grind
def Uv(n:Nat)(w:World)(h:n<=65536):Calls prog 64 #[(n:Int)] w λe w'=>∃p FF,e=.returned (.tuple #[(p:Nat),(0:Int)])/\uC w' p FF (NS.new n) 0 FG.none/\ae [] w w'/\∀x,x∈FF->w.heap.size<=x:=by
 have kc:=pR n w h;have U:=λW=>KC n W h;have hI:=χ (abL n)
 go_enter func64,ntmps64
 go_wp2_with (first
  |(((with_reducible refine kc.mono ?_));rintro e w1 ⟨c,F,rfl,K,q,P⟩;(have HC:=χ (ψ K (ψ q P)));clear K q P)
  |(((with_reducible refine(U _).mono ?_));rintro e r ⟨br,bn,bp,rfl,L,l,u,v,A⟩;(have HR:=χ (ψ L (ψ l (ψ u (ψ v A)))));clear L l u v A U)
  | (at_make;refine wpList_make_row rfl _ 194 rfl 198 (.agg #[(0:Int),(0:Int),(0:Int),false]) 4 32 underlying194 Rb n rfl ω μ ?_;intro b B m))
 obtain⟨H,o⟩:∃H,H=(b.alloc (.cells #[(-1:Int)] 3)).alloc (.cells #[(c:Nat),(br:Nat),.slice (some r.heap.size) n n,.slice (some b.heap.size) 1 1] 196):=⟨_,rfl⟩;have f:ae [] b H:=by rw[o];exact β
 have g:=eO (b.alloc (.cells #[(-1:Int)] 3)) [.pointer (some (c:Nat)),.pointer (some (br:Nat)),.slice (some r.heap.size) n n,.slice (some b.heap.size) 1 1] 196;rw[Κ] at g;have M:IZ (b.alloc (.cells #[(-1:Int)] 3)) b.heap.size 1 [-1]:=IZ.lit b [-1] σ;have C:IZ H b.heap.size 1 [-1]:=by rw[o];exact M.upd ((ae.refl [] _).alloc _) σ
 have D:aQ H (b.heap.size+1) 196 4 (λj=>[Value.pointer (some (c:Nat)),.pointer (some (br:Nat)),.slice (some r.heap.size) n n,.slice (some b.heap.size) 1 1].getD j undef):=by rw[o];exact g
 have Q:(Value.agg #[(0:Int),(0:Int),(0:Int),false]).cells=#[.int .i64 0,.int .i64 0,.int .i64 0,.bool false]:=rfl;rw[Q] at B;have N:aQ H r.heap.size 198 (n*4) (D6 (upTo 0 (-1)) (upTo 0 (-1)) (λ_=>0) (λ_=>false)):=by
  refine((B.upd f σ).ext (λj hj=>?_));rw[MN n j hj];unfold upTo;simp
 have hl3:=B.lt;have R:=χ (ψ f (ψ C (ψ D (ψ N (ψ m o)))));have O:b.heap.size+1≠r.heap.size:=ω;clear f C D N M g B m;rw[←o];clear o
 go_loopw [34] (λJ wr=>∃k:Nat,k<=n/\J=.int .i64 (k:Int)/\aQ wr r.heap.size 198 (n*4) (D6 (upTo k (-1)) (upTo k (-1)) (λ_=>0) (λ_=>false))/\ae [r.heap.size] H wr) (λJ _=>n-(intOf J).toNat)
 case atStart=>exact⟨0,ω,rfl,R.out.2.2.2.1,ae.refl _ _⟩
 case round=>
  obtain⟨k,hk,rfl,d,s⟩:=hrel;rename World=>wr
  by_cases hkn:k<n
  .have hkI:(k:Int)<(n:Int):=ω;have hw1:IntKind.i64.wrap ((k:Int)+1)=(k:Int)+1:=Μ _ ω;have d2:wr.cell? ⟨b.heap.size+1,2,none⟩=some (.slice (some r.heap.size) n n):=s.kept (R.out.2.2.1.cellAt 2 ω rfl) (by simpa using O);have X:=d.cellAt (k*4) ω (Aw _ _ _ _ k);have Y:=d.cellAt (k*4+1) ω (Ay _ _ _ _ k);have Z:=d.cellAt (k*4+2) ω (AL _ _ _ _ k);have p3:=d.cellAt (k*4+3) ω (Aq _ _ _ _ k);have f0:=d.free (k*4);have f1:=d.free (k*4+1);have f2:=d.free (k*4+2);have f3:=d.free (k*4+3);have E:=χ (ψ d s);clear d s;go_wp2
   go_region_with ((((with_reducible refine(Cz _).mono ?_));rintro e T ⟨rfl,dD⟩;(have t:ae [] wr T:=ae.trans β dD);(have v0:=t.was X);(have v1:=t.was Y);(have v2:=t.was Z);(have v3:=t.was p3);(have v4:=t.was d2);(have z0:=t.ay X σ f0);(have z1:=t.ay Y σ f1);(have z2:=t.ay Z σ f2);(have z3:=t.ay p3 σ f3)))
   all_goals
    go_wp2;have d:=E.out.1.upd t σ;have iD:ae [r.heap.size] H T:=E.out.2.then t;refine⟨⟨k+1,ω,by go_num,?_,ν⟩,by simp[intOf];omega⟩;have:=rH (uV (rU (vD d k (-1)) k (-1)) k 0) k false;rw[UO] at this;refine this.ext (λj _=>?_);rw[show ah (λ_=>(0:Int)) k 0=(λ_=>0) from by funext z;unfold ah;split<;>rfl,show ah (λ_=>false) k false=(λ_=>false) from by funext z;unfold ah;split<;>rfl]
  .obtain rfl:k=n:=ω;have E:=χ (ψ d s);clear d s;go_wp2;go_ret2;obtain⟨d,s⟩:=E.out;obtain⟨f,C,D,_,m,_⟩:=R.out;obtain⟨K,q,P⟩:=HC.out;obtain⟨L,l,u,v,A⟩:=HR.out;have I:(NS.new k).cs.length=k:=by simp[NS.new]
   have jw:(NS.new k).hs.length=1:=rfl;have S:=K.lt;have hRl:=L.lt;have s1:=q.size;have s2:=l.size;have i:∀y,w1.heap.size<=y->y∉F:=λy G hm=>by have:=S y hm;omega
   have hM:fD wr ⟨b.heap.size+1,c,br,bn,bp,r.heap.size⟩ F b.heap.size 1 (NS.new k) 0 FG.none:=by
    refine⟨?_,?_,?_,?_,?_,⟨i _ ζ,i _ u,i _ v,i _ A,i _ s2,i _ ω⟩,⟨ζ,ζ,ζ,ζ,σ⟩,⟨ζ,ζ,ζ,ζ,ζ,ζ,ζ⟩⟩
    .rw[I,jw];exact D.upd s (by simpa using O)
    .exact((K.ag ((l.trans m).trans f))).upd s (λy G=>by simp at G;rw[G];exact i _ s2)
    .rw[I];exact(L.ag (m.trans f)).upd s ζ ζ ζ
    .rw[I];refine d.ext (λj hj=>?_);unfold oZ;obtain⟨a,e⟩:=four j;have ha:a<k:=ω;rcases e with rfl|rfl|rfl|rfl
     .rw[Aw,Aw];unfold upTo;rw[Δ ha];rfl
     .rw[Ay,Ay];unfold upTo;rw[Δ ha];rfl
     .rw[AL,AL];rfl
     .rw[Aq,Aq];rfl
    .exact C.upd s ζ
   refine⟨_,_,rfl,⟨⟨⟨b.heap.size+1,c,br,bn,bp,r.heap.size⟩,F,b.heap.size,1,rfl,rfl,hM⟩,hI.out⟩,(((q.trans l).trans m).trans f).joined s (λy G=>by simp at G;rw[G];right;omega),λy G=>?_⟩;simp only[FB.blk,ρ] at G;rcases G with e|e|e|e|e|e|e
   .omega
   .omega
   .omega
   .omega
   .omega
   .omega
   .exact P y e
def KR:VI 134 "Has" 123:=by intro p c W h;unfold method;obtain⟨m,h1,h2,h3,h4⟩:=xA Tryz.t134.methods "Has" [⟨196,0,true⟩] 123 (by kernel_rfl);exact xD
def DD:VI 134 "Entry" 121:=by intro p c W h;unfold method;obtain⟨m,h1,h2,h3,h4⟩:=xA Tryz.t134.methods "Entry" [⟨196,0,true⟩] 121 (by kernel_rfl);exact xD
def VO:MI 134 "Make" 212:=λ_ _=>by kernel_rfl
def Lh:MI 134 "Insert" 211:=λ_ _=>by kernel_rfl
def ZP:MI 134 "Min" 214:=λ_ _=>by kernel_rfl
def K7:MI 134 "Extract" 210:=λ_ _=>by kernel_rfl
def FY:MI 134 "Decrease" 208:=λ_ _=>by kernel_rfl
def zO{w w':World}{p:Nat}{F S:List Nat}{A:NS}{st:Nat}{G:FG}(h:uC w p F A st G)(a:ae S w w')(b:∀x,x∈S->x∉F):uC w' p F A st G:=h.upd a b
def afo{w:World}{p:Nat}{F:List Nat}{A:NS}{st:Nat}{G:FG}(h:uC w p F A st G):∀x,x∈F->x<w.heap.size:=h.lt
def VG{w:World}{p:Nat}{F:List Nat}{A:NS}{st:Nat}{G:FG}(h:uC w p F A st G):A.Ok:=h.ok
def OV{w:World}{p:Nat}{F:List Nat}{A:NS}{st:Nat}{G:FG}(h:uC w p F A st G):∃c a,w.cell? p=some ((c:Nat):V)/\aD w c a A st:=by
 obtain⟨c,a,b,d, -⟩:=h.cl;exact⟨c,a,b,d⟩
def FbQ(w:World)(p:Nat)(F:List Nat)(A:NS):Prop:=∃st G,uC w p F A st G
noncomputable def xW:NestQ where
 ty:=134
 at_:=FbQ
 upd:=λh hu hS=>by
  obtain⟨st,G,hL⟩:=h;exact⟨st,G,zO hL hu hS⟩
 lt:=λh=>by
  obtain⟨st,G,hL⟩:=h;exact afo hL
 ok:=λh=>by
  obtain⟨st,G,hL⟩:=h;exact VG hL
 make:=λ{w p F A} h=>by
  obtain⟨st,G,hL⟩:=h;refine aL 212 (λ_ _=>by kernel_rfl) (VO _) (λW hW=>?_);refine(Re (zO hL hW σ)).mono ?_;rintro e w' ⟨rfl,F',hA,hu,hf⟩;exact⟨rfl,F',⟨_,_,hA⟩,hu,hf⟩
 insert:=λ{w p F A} g y k s hk hB h=>by
  obtain⟨st,G,hL⟩:=h;refine aL 211 (λ_ _=>by kernel_rfl) (Lh _) (λW hW=>?_);refine(Iy (zO hL hW σ) g y k s hk hB).mono ?_;rintro e w' ⟨rfl,F',hA,hu,hf⟩;exact⟨rfl,F',⟨_,_,hA⟩,hu,hf⟩
 min:=λ{w p F A} y hB h=>by
  obtain⟨st,G,hL⟩:=h;refine aL 214 (λ_ _=>by kernel_rfl) (ZP _) (λW hW=>?_);have jT:=zO hL hW σ;have hok:=VG hL;have h4:=(aF _ _).1 hB;have h5:=hok.h1;refine(KU jT (y:Int) ω).mono ?_;rintro e w' ⟨rfl,rfl⟩;exact⟨rfl,Goes.stay ⟨_,_,jT⟩ (ae.refl _ _)⟩
 extract:=λ{w p F A} y m hm h=>by
  obtain⟨st,G,hL⟩:=h;refine aL 210 (λ_ _=>by kernel_rfl) (K7 _) (λW hW=>?_);have jT:=zO hL hW σ;have e2:uh A (y:Int)=aS A (m:Int):=by unfold uh;rw[hm]
  have hok:=VG hL;obtain⟨m1,m2,m3,m4⟩:=jU hm;have hB:aW A (y:Int)=true:=by rw[←m3];have:=iH hok m4;simpa using this
  have h4:=(aF _ _).1 hB;have h5:=hok.h1;have k:=yN jT (y:Int) ω;rw[e2,hm] at k;refine k.mono ?_;rintro e w' ⟨rfl,F',hA,hu,hf⟩;exact⟨rfl,F',⟨_,_,hA⟩,hu,hf⟩
 nC:=λ{w p F A} y k s hk hB h=>by
  obtain⟨st,G,hL⟩:=h;refine aL 208 (λ_ _=>by kernel_rfl) (FY _) (λW hW=>?_);have jT:=zO hL hW σ;have hin:=tN hB;have hi:=(aj _ _).1 hin;obtain⟨hh,hxh⟩:∃hh:Nat,(A.c y).i=hh:=⟨(A.c y).i.toNat,ω⟩;refine(Ul jT y k s hk hB hxh).mono ?_;rintro e w' ⟨rfl,F',hA,hu,hf⟩;exact⟨rfl,F',⟨_,_,hA⟩,hu,hf⟩
 has:=λx h=>by
  obtain⟨st,G,hL⟩:=h;obtain⟨c,F1,h0,hC⟩:=OV hL;exact dQ 123 (λ_ _=>by kernel_rfl) h0 (KR _ _) (λW hW=>jQ (hC.ag hW) x)
 entry:=λ{w p F A} x h=>by
  obtain⟨st,G,hL⟩:=h;obtain⟨c,F1,h0,hC⟩:=OV hL;refine dQ 121 (λ_ _=>by kernel_rfl) h0 (DD _ _) (λW hW=>?_);cases hin:bY A x with
  |false=>simpa using mH (hC.ag hW) x hin
  |true=>
   obtain⟨y,rfl⟩:=sO hin;simpa using lg (hC.ag hW) y hin
def LK(p:Nat)(w:World):Calls prog 63 #[p,(0:Int)] w λe w'=>e=.returned (.tuple #[.iface 134 (.pointer (some p)),(0:Int)])/\w'=w:=by
 go_enter func63,ntmps63
 go_wp2;go_ret2;exact⟨rfl,rfl⟩
def Jl(n:Nat)(k:n<=65536):qG xW 5 0 n:=by
 intro w;have g:=λW=>Uv n W k;have i:=LK;have c:xW.ty=134:=rfl;have a:∀w' p FF,uC w' p FF (NS.new n) 0 FG.none->xW.at_ w' p FF (NS.new n)/\IL w' p n:=λw' p FF h=>⟨⟨_,_,h⟩,OV h⟩
 generalize xW=K at *;rw[c]
 go_enter func35,ntmps35
 go_wp2_with (first
  |(((with_reducible refine(g _).mono ?_));rintro e l ⟨pn,FF,rfl,d,b,f⟩)
  | (((with_reducible refine (i _ _).mono ?_));rintro e m ⟨rfl,rfl⟩))
 go_ret2;exact⟨pn,FF,rfl,(a _ _ _ d).1,(a _ _ _ d).2,ae.trans β b,λx j=>by have:=f x j;simp at this;omega⟩
