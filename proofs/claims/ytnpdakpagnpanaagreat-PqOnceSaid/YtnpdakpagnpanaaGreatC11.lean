/-
  Lemmas for PqAlike: Fb5, Fb6, Fb7, Fb8, Fb9, FbN. Conditions: those of each lemma.
-/
import Derived.Test.YtnpdakpagnpanaaGreatC04
import Derived.Test.YtnpdakpagnpanaaGreatC10
set_option linter.all false
set_option maxHeartbeats 8000000
set_option maxRecDepth 10000
namespace Go.Proofs.YtnpdakpagnpanaaGreat
open Tryz
open Go Go.RowKit
def sP(w:World)(p:Nat)(FF:List Nat)(A:NS)(st:Nat)(G:FG):Prop:=(∃B F gt ct,p=B.n0/\FF=B.blk F gt/\fC w B F gt ct A st G)/\xC A G
theorem gN{B:FB}{F:List Nat}{gt:Nat}:∀x,x∈F->x∈B.blk F gt:=λx hx=>by simp[FB.blk,hx]
theorem X9{w:World}{B:FB}{F F':List Nat}{gt:Nat}(hF:∀x,x∈F'->x∈F\/w.heap.size<=x):∀x,x∈B.blk F' gt->x∈B.blk F gt\/w.heap.size<=x:=λx hx=>by
 simp only[FB.blk,ρ] at hx ⊢;rcases hx with e|e|e|e|e|e|e
 ·exact Α (Α e)
 ·exact Α (Β (Α e))
 ·exact Α (Β (Β (Α e)))
 ·exact Α (Β (Β (Β (Α e))))
 ·exact Α (Β (Β (Β (Β (Α e)))))
 ·exact Α (Β (Β (Β (Β (Β (Α e))))))
 ·rcases hF x e with h|h
  ·exact Α (Β (Β (Β (Β (Β (Β h))))))
  ·exact Β h
section
variable{w:World}{p:Nat}{FF:List Nat}{A:NS}{st:Nat}{G:FG}
theorem sP.upd{w':World}{S:List Nat}(h:sP w p FF A st G)(hu:ae S w w')(hS:∀x,x∈S->x∉FF):sP w' p FF A st G:=by
 obtain⟨⟨B,F,gt,ct,rfl,rfl,M⟩,I⟩:=h;exact⟨⟨B,F,gt,ct,rfl,rfl,M.upd hu hS⟩,I⟩
theorem sP.ag{w':World}(h:sP w p FF A st G)(hu:ae [] w w'):sP w' p FF A st G:=h.upd hu σ
theorem sP.lt(h:sP w p FF A st G):∀x,x∈FF->x<w.heap.size:=by
 obtain⟨⟨B,F,gt,ct,rfl,rfl,M⟩,I⟩:=h;exact M.lt
theorem sP.ok(h:sP w p FF A st G):A.Ok:=by
 obtain⟨⟨B,F,gt,ct,rfl,rfl,M⟩,I⟩:=h;exact M.cells.ok
theorem sP.nH(h:sP w p FF A st G):st<=4611686018427387904:=by
 obtain⟨⟨B,F,gt,ct,rfl,rfl,M⟩,I⟩:=h;exact M.cells.nH
theorem sP.cl(h:sP w p FF A st G):∃c F1,w.cell? ⟨p,0,none⟩=some (.pointer (some ⟨c,0,none⟩))/\aF w c F1 A st/\c∈FF:=by
 obtain⟨⟨B,F,gt,ct,rfl,rfl,M⟩,I⟩:=h;exact⟨B.c,F,M.h0,M.cells,gN _ M.cells.mem⟩
theorem NW(I:xC A G)(ok:A.Ok){q:Int}{m:Nat}(hm:dN A q=some m):∃(h:Nat) (s:List Nat),q=h/\1<=h/\h<A.hs.length/\G.R h=m::s/\0<dD A q:=by
 obtain⟨m1,m2⟩:=I.tL hm;have hx:(A.c m).i=(q.toNat:Int):=m1.2.2;have hnat:=ok.nat m m1.1;refine⟨q.toNat,?_⟩;have hmem:=((I.fr.all q.toNat).2.1 m).2 ⟨m2,m1⟩;cases hR:G.R q.toNat with
 |nil=>rw[hR] at hmem;cases hmem
 |cons t s=>
  have:=(I.jL hR).1;rw[show((q.toNat:Nat):Int)=q by omega,hm] at this
  injection this with this
  subst this;exact⟨s,ω,m2,ω,rfl,fM.2 ⟨m,m1.1,ω,ω⟩⟩
theorem Ho(h:sP w p FF A st G)(q:Int)(hqb:-9223372036854775808<=q/\q<=9223372036854775807) :
  Calls prog 214 #[.pointer (some ⟨p,0,none⟩),.int .i64 q] w λe w'=>e=.returned (.tuple #[.int .i64 (qp (dN A q)),.bool (dN A q).isSome])/\w'=w:=by
 obtain⟨⟨B,F,gt,ct,rfl,rfl,M⟩,I⟩:=h;have h0:=M.h0;have kl:=iT M.cells q hqb;cases hm:dN A q with
 |none=>
  rw[iB.1 hm] at kl;clear M I hm
  go_enter func214,ntmps214
  go_wp2_with ((go_at_call 126;(with_reducible refine aT (kl) ?_)))
  go_ret2;exact⟨rfl,rfl⟩
 |some m=>
  obtain⟨hh,s,rfl,h1,hl,hR,hp⟩:=NW I M.cells.ok hm;have h3:=M.h3;have ht:=M.top hl;rw[hR] at ht;have ht':w.cell? ⟨gt,hh,none⟩=some (.int .i64 (m:Int)):=ht;have hlI:(hh:Int)<(A.hs.length:Int):=ω;have hne:(((dD A (hh:Int):Nat):Int) == 0)=false:=ζ;generalize dD A (hh:Int)=ln at *;clear M I hm hR ht
  go_enter func214,ntmps214
  go_wp2_with ((go_at_call 126;(with_reducible refine aT (kl) ?_)))
  go_ret2;exact⟨rfl,rfl⟩
theorem G9(h:sP w p FF A st G)(q x:Nat)(k s:Int)(hk:-9223372036854775808<=k/\k<=9223372036854775807/\0<=s/\s<=18446744073709551615)(hB:rG A q x=true) :
  Calls prog 211 #[.pointer (some ⟨p,0,none⟩),.int .i64 (q:Int),.int .i64 (x:Int),.agg #[.int .i64 k,.int .u64 s]] w λe w'=>e=.returned (.bool true)/\
   Goes FF w w' (λBX=>sP w' p BX (aO A q x k s) (cK st (qw q G)) (Tq (aO A q x k s) q x G)):=by
 obtain⟨⟨B,F,gt,ct,rfl,rfl,M⟩,I⟩:=h;have ok:=M.cells.ok;obtain⟨I2,_,_,_,h1,hx,hin,hti,hcs⟩:=aad I ok k s hB;have jd:(aO A q x k s).hs.length=A.hs.length:=by unfold aO;split;rfl;rfl
 have hql:q<(aO A q x k s).hs.length:=by
  rw[jd];have:=(aC _ _).1 ((fP _ _ _).1 hB).1;omega
 have u1:ae [] w (w.alloc (.cells #[.int .i64 k,.int .u64 s] 97)):=(ae.refl _ _).alloc _;have kp:=λW (hW:ae [] (w.alloc (.cells #[.int .i64 k,.int .u64 s] 97)) W)=>og (M.cells.ag (u1.trans hW)) q x k s hk hB;have h0:=M.h0;have wN:B.n0∉F:=M.d1.1;have hsz:w.heap.size∉F:=λhm=>by have:=M.cells.lt _ hm;omega
 have r0:∀W,ae F (w.alloc (.cells #[.int .i64 k,.int .u64 s] 97)) W->W.cell? ⟨B.n0,0,none⟩=some (.pointer (some ⟨B.c,0,none⟩)):=λW hW=>hW.kept (u1.was h0) wN;have r1:∀W,ae F (w.alloc (.cells #[.int .i64 k,.int .u64 s] 97)) W->W.cell? ⟨w.heap.size,0,none⟩=some (.int .i64 k):=λW h=>h.kept σ hsz;have r2:∀W,ae F (w.alloc (.cells #[.int .i64 k,.int .u64 s] 97)) W->W.cell? ⟨w.heap.size,1,none⟩=some (.int .u64 s):=λW h=>h.kept σ hsz;have ka:=λ(W:World) (hM:fC W B F gt ct (aO A q x k s) st G)=>yE hM [] hql hin hti;have HM:=χ (ψ M (ψ jd hcs));have HI:=χ I2
 clear M I ok I2 hin hti hql hx hcs jd h0 hB
 go_enter func211,ntmps211
 go_wp2
 go_region_held3 (ae F (w.alloc (.cells #[.int .i64 k,.int .u64 s] 97))) (exact ν)
  (first
   | ((go_at_call 138;(with_reducible refine (kp _ β).mono ?_));rintro e w1 ⟨rfl,gG,hu1⟩;(have hu2:ae F (w.alloc (.cells #[.int .i64 k,.int .u64 s] 97)) w1:=ν)))
 have uF:ae F w w1:=(u1.mono σ).trans hu2;have hM1:=HM.out.1.cB uF gG (λy hy=>Α hy) HM.out.2.2 HM.out.2.1;have Yu:=λ(W:World) (hW:ae [] w1 W)=>ka W (hM1.ag hW);have HU:=χ uF;have hcm:=HM.out.1.cells.mem;clear kp r0 r1 r2 hM1 ka uF hu2 gG hu1
 go_wp2_with (first
  |((go_at_call 220;(with_reducible refine(Yu _ β).mono ?_));rintro e w2 ⟨rfl,hM2,hu3⟩)
  | fail)
 go_ret;refine⟨rfl,B.blk F gt,⟨⟨B,F,gt,ct,rfl,rfl,hM2⟩,HI.out⟩,(HU.out.mono gN).trans ((β:ae _ w1 _).trans (hu3.mono (λy hy=>?_))),λy hy=>Α hy⟩;simp only[ρ,ς,or_false] at hy;rcases hy with e|e|e|e
 ·rw[e];exact gN _ hcm
 all_goals simp[FB.blk,e]
theorem Px(h:sP w p FF A st G)(a b:Nat)(hj:gJ A a b=true) :
  Calls prog 213 #[.pointer (some ⟨p,0,none⟩),.int .i64 (a:Int),.int .i64 (b:Int)] w λe w'=>e=.returned (.bool true)/\
   Goes FF w w' (λBX=>sP w' p BX (az A a b) (cK st (Vr a b G)) (yc (az A a b) a b G)):=by
 obtain⟨⟨B,F,gt,ct,rfl,rfl,M⟩,I⟩:=h;have hst:=M.cells.nH;obtain⟨I2,_,_,_,_,hab,hin⟩:=Zv I M.cells.ok hj;have kj:=mf M.cells a b hj;have hcs:=eY A a b;obtain⟨j1,j2,j3⟩:=(dG _ _ _).1 hj;have a4:=(aC _ _).1 j1;have b4:=(aC _ _).1 j2;have jd:(az A a b).hs.length=A.hs.length:=by unfold az;rw[Δ hj];simp
 have hal:a<(az A a b).hs.length:=ω;have hbl:b<(az A a b).hs.length:=ω;have h0:=M.h0;have HI:=χ I2;have hcm:=M.cells.mem;cases hR:G.R b with
 |nil=>
  have eq:Vr a b G=0:=by unfold Vr;rw[Δ hR]
  have eg:yc (az A a b) a b G={ G with R:=ah G.R b [] }:=by unfold yc;rw[hR]
  rw[eg] at HI;rw[eq,eg,fF hst];have k2:=λW (hC:aF W B.c F (az A a b) st) (hu:ae F w W)=>M.cB hu hC (λy hy=>Α hy) hcs jd;have K2:=χ k2;have HR:=χ hR;clear M I I2 hin hj eq eg k2 hR j1 j2 a4 b4
  go_enter func213,ntmps213
  go_wp2_with (first
   |((go_at_call 141;(with_reducible refine(kj).mono ?_));rintro e w1 ⟨rfl,gG,hu1⟩;(have M1:=K2.out _ gG hu1);(have d3:=M1.h3);(have dt:w1.cell? ⟨gt,b,none⟩=some (.int .i64 (-1)):=by(have Dh:=M1.top hbl;rw[HR.out] at Dh;exact Dh));(have df:=M1.ai.free b);(have H1:=χ (ψ M1 hu1));clear M1 gG hu1)
   | fail)
  go_ret;refine⟨rfl,B.blk F gt,⟨⟨B,F,gt,ct,rfl,rfl,H1.out.1.iC b []⟩,HI.out⟩,(H1.out.2.mono gN).setCell (Α (by simp[FB.blk])) _,λy hy=>Α hy⟩
 |cons x r=>
  have eq:Vr a b G=qw a G:=by unfold Vr;rw[Γ (by rw[hR];simp)]
  have eg:yc (az A a b) a b G={ gH (nu (az A a b)) a (x::r) G with R:=ah (gH (nu (az A a b)) a (x::r) G).R b [] }:=by unfold yc;rw[hR]
  rw[eg] at HI;rw[eq,eg];have hxin:=hin x b r hR;have k2:=λW (hC:aF W B.c F (az A a b) st) (hu:ae F w W)=>M.cB hu hC (λy hy=>Α hy) hcs jd;have kr:=λW (hM:fC W B F gt ct (az A a b) st G)=>yE hM r hal hxin (λt s' e=>hin t a s' e);have K2:=χ (ψ k2 kr);have HR:=χ hR;clear M I I2 hin hj eq eg k2 kr hR j1 j2 a4 b4 hxin
  go_enter func213,ntmps213
  go_wp2_with (first
   |((go_at_call 141;(with_reducible refine(kj).mono ?_));rintro e w1 ⟨rfl,gG,hu1⟩;(have M1:=K2.out.1 _ gG hu1);(have d3:=M1.h3);(have dt:w1.cell? ⟨gt,b,none⟩=some (.int .i64 (x:Int)):=by(have Dh:=M1.top hbl;rw[HR.out] at Dh;exact Dh));(have kr1:=K2.out.2 _ M1);(have H1:=χ (ψ M1 hu1));clear M1 gG hu1)
   |((go_at_call 220;(with_reducible refine(kr1).mono ?_));rintro e w2 ⟨rfl,hM2,hu2⟩;(have d4:=hM2.h3);(have dt2:=hM2.top hbl);(have df2:=hM2.ai.free b);(have H2:=χ (ψ hM2 hu2));clear hM2 hu2)
   | fail)
  go_ret;refine⟨rfl,B.blk F gt,⟨⟨B,F,gt,ct,rfl,rfl,H2.out.1.iC b []⟩,HI.out⟩,((H1.out.2.mono gN).trans (H2.out.2.mono (λy hy=>?_))).setCell (Α (by simp[FB.blk])) _,λy hy=>Α hy⟩;simp only[ρ,ς,or_false] at hy;rcases hy with e|e|e|e
  ·rw[e];exact gN _ hcm
  all_goals simp[FB.blk,e]
end
def tailW(a:Option Addr)(n c:Nat):Value:=.slice (if c=1 then a else a.map (·.add 1)) (n-1) (c-1)
theorem Py(w:World)(a:Option Addr)(n c:Nat)(h1:1<=n)(h2:n<=9223372036854775807) :
  (Instr.slice 77 (.slice a n c) (some (.int .i64 1)) none none).run prog w=.ok (tailW a n c) w:=by
 have hs:(sizeOf 3).run prog w=.ok 1 w:=by kernel_rfl
 unfold Instr.slice Instr.sliceBounds;simp[run_underlying underlying77,go_sem,hs,tailW];intro h;omega
theorem UO{w:World}{F:List Nat}{a:Option Addr}{n c:Nat}{x:Int}{xs:List Int}(h:j6 w F (.slice a n c) (x::xs)):j6 w F (tailW a n c) xs:=by
 obtain⟨a',cap,e,h1,h2,h3⟩:=h;cases e;obtain⟨g,off,rfl,hg,hF,_⟩:=h3 0 x rfl;simp only[Ω] at h1 ⊢;unfold tailW;simp only[Nat.add_sub_cancel];refine⟨_,_,rfl,ω,ω,λj u hj=>?_⟩;have hjl:j<xs.length:=(List.getElem?_eq_some_iff.1 hj).1;rw[Γ ω];obtain⟨g2,off2,he,hg2,hF2,hc⟩:=h3 (j+1) u (by simpa using hj);simp only[ϗ,Addr.mk.injEq,and_true] at he;obtain⟨rfl,rfl⟩:=he;exact⟨g,off+1,by simp[Addr.add_lit],hg,hF,by rw[show off+1+j=off+(j+1) by omega];exact hc⟩
theorem j6.turned{w w':World}{F G:List Nat}{v:Value}{xs:List Int}(h:j6 w F v xs)(hu:ae G w w')(hG:∀g,g∈G->g∈F\/w.heap.size<=g):j6 w' F v xs:=by
 obtain⟨a,cap,rfl,h1,h2,h3⟩:=h;refine⟨a,cap,rfl,h1,h2,λj u hj=>?_⟩;obtain⟨g,off,rfl,hg,hF,hc⟩:=h3 j u hj;exact⟨g,off,rfl,Ψ hg hu.size,hF,by rw[hu.cell hg (λhm=>(hG _ hm).elim hF (λh'=>by have h2:w.heap.size<=g:=h';omega))];exact hc⟩
theorem j6.fewer{w:World}{F G:List Nat}{v:Value}{xs:List Int}(h:j6 w F v xs)(hG:∀g,g∈G->g∈F):j6 w G v xs:=by
 obtain⟨a,cap,rfl,h1,h2,h3⟩:=h;refine⟨a,cap,rfl,h1,h2,λj u hj=>?_⟩;obtain⟨g,off,rfl,hg,hF,hc⟩:=h3 j u hj;exact⟨g,off,rfl,hg,λhm=>hF (hG _ hm),hc⟩
def Eg(A:NS)(q:Int)(G:FG):FG:=match dN A q with|some m=>(sF A q.toNat m (kl (G.K m)++(G.R q.toNat).tail) G).1|none=>G
def C8(A:NS)(q:Int)(G:FG):Nat:=match dN A q with|some m=>(tK A q.toNat m (kl (G.K m)++(G.R q.toNat).tail) G).q+(sF A q.toNat m (kl (G.K m)++(G.R q.toNat).tail) G).2|none=>0
theorem PI(l:List Nat)(x:Nat)(G:FG):vI (l++[x]) G=prt (vI l G) x:=by unfold vI;rw[List.foldl_append];rfl
section
variable{w:World}{p:Nat}{FF:List Nat}{A:NS}{st:Nat}{G:FG}
theorem xX(h:sP w p FF A st G)(q:Int)(hqb:-9223372036854775808<=q/\q<=9223372036854775807) :
  Calls prog 210 #[.pointer (some ⟨p,0,none⟩),.int .i64 q] w λe w'=>e=.returned (.tuple #[.int .i64 (qp (dN A q)),.bool (dN A q).isSome])/\
   Goes FF w w' (λBX=>sP w' p BX (sH A q) (cK st (C8 A q G)) (Eg A q G)):=by
 have km:=Ho h q hqb;have hst:=h.nH;have HK:=χ h;cases hm:dN A q with
 |none=>
  rw[hm] at km;have e1:sH A q=A:=by unfold sH;rw[hm]
  have e2:Eg A q G=G:=by unfold Eg;rw[hm]
  have e3:C8 A q G=0:=by unfold C8;rw[hm]
  rw[e1,e2,e3,fF hst];clear h hm e1 e2 e3
  go_enter func210,ntmps210
  go_wp2_with ((go_at_call 214;(with_reducible refine aT (km) ?_)))
  go_ret2;exact⟨rfl,Goes.stay HK.out (ae.refl _ _)⟩
 |some m=>
  rw[hm,show qp (some m)=(m:Int) from rfl,show(some m:Option Nat).isSome=true from rfl] at km;have e1:sH A q=bg A m:=by unfold sH;rw[hm]
  have e2:Eg A q G=(sF A q.toNat m (kl (G.K m)++(G.R q.toNat).tail) G).1:=by unfold Eg;rw[hm]
  have e3:C8 A q G=(tK A q.toNat m (kl (G.K m)++(G.R q.toNat).tail) G).q+(sF A q.toNat m (kl (G.K m)++(G.R q.toNat).tail) G).2:=by unfold C8;rw[hm]
  rw[e1,e2,e3];obtain⟨hh,s,rfl,h1,hl,hR,hp⟩:=NW h.2 h.ok hm;rw[π,hR,List.tail_cons];obtain⟨⟨rg1,rg2⟩,T3,CW,Zr,hDR,I4,_,_,_,_,hTy,Qm,_⟩:=aa6 h.2 h.ok hR;obtain⟨_,hmx,um,hmh,hmin⟩:=h.2.out (h:=hh) (z:=m) (by rw[hR];simp);have Rt:=λW F c (hC:aF W c F A (cK st ((tK A hh m (kl (G.K m)++s) G).q+(sF A hh m (kl (G.K m)++s) G).2)))=>gT hC m hmin;obtain⟨⟨B,F,gt,ct,rfl,rfl,M⟩,I⟩:=h;have kra:=λW (hW:ae [] w W)=>BQ (M.ag hW) hmx (I.ff.ring m hmx) (λz hz=>(I.ff.kid m z hmx hz).1);have hlen:(m::(kl (G.K m)++s)).length<=A.cs.length:=jC A.cs.length _ rg1.nd rg2;have hc1:=M.cells.ok.c1
  have hlt:=M.lt;have hhI:(hh:Int)<(A.hs.length:Int):=ω;have hd:=M.d1;have hd2:=M.d2;have hd3:=M.d3;have hcm:=M.cells.mem;obtain⟨rs,hrs⟩:∃rs,kl (G.K m)++s=rs:=⟨_,rfl⟩;rw[hrs] at rg1 rg2 T3 Zr hDR I4 Rt hlen hTy Qm ⊢;obtain⟨D,hD⟩:∃D,tK A hh m rs G=D:=⟨_,rfl⟩;have hD2:tid (nu A) rs ⟨[],pM hh m rs G,0⟩=D:=hD;have e4:sF A hh m rs G=qX (nu A) hh D.T D.G 0:=by unfold sF;rw[hD]
  rw[hD] at Zr hDR hTy Qm Rt ⊢;rw[e4] at I4 Rt ⊢;obtain⟨R4,YR⟩:∃R4,qX (nu A) hh D.T D.G 0=R4:=⟨_,rfl⟩;rw[YR] at I4 Rt ⊢;have Yu:=λW (hW:fC W B F gt ct A st (bM G m))=>Ij hW.rings rg1 rg2;have H0:=χ (ψ rg1 (ψ rg2 (ψ T3 (ψ CW (ψ Zr (ψ hDR (ψ I4 (ψ hTy (ψ Qm (ψ hD2 YR))))))))));have HD:=χ (ψ hlt (ψ hd (ψ hd2 (ψ hd3 hcm))));have KD:=χ Rt;clear M I rg1 rg2 T3 CW Zr hDR I4 hR hm e1 e2 e3 hrs hlt hd hd2 hd3 hcm Rt hTy Qm hD hD2 e4 YR;have HA:=χ Yu;clear Yu;rw[Ω] at hlen
  go_enter func210,ntmps210
  go_wp2_with (first
   |(go_at_call 214;(with_reducible refine aT (km) ?_))
   |((go_at_call 216;(with_reducible refine(kra _ β).mono ?_));rintro e w1 ⟨rfl,M1,hu1⟩;(have a1:=HA.out _ M1);(have b1:=M1.h1);(have jJ:=χ (ψ M1 hu1));clear M1 hu1 kra)
   |((go_at_call 218;(with_reducible refine(a1).mono ?_));rintro e w2 ⟨v2,rfl,ho2,hu2⟩;(have hs2:j6 w2 (B.blk F gt) v2 (qj (m::rs)):=j6.iA (base:=w1.heap.size) (by rw[mP];exact ho2) (λg hg=>Ψ (HD.out.1 g hg) jJ.out.2.size));obtain⟨x2,c2,hv2,_⟩:=aV ho2;subst hv2;(have b2:=hu2.was b1);obtain⟨a2',ha2⟩:∃a',tailW x2 (rs.length+1) c2=.slice a' rs.length (c2-1):=⟨_,rfl⟩;(have htl:=λW=>Py W x2 (rs.length+1) c2 ω ω);rw[ha2] at htl;(have hs3:j6 w2 (B.blk F gt) (.slice a2' rs.length (c2-1)) (qj rs):=by(rw[←ha2];exact UO hs2));(have HS2:=χ (ψ hs3 hu2));clear hs3 ha2;(have a2:=HA.out _ (jJ.out.1.ag hu2));clear hs2 hu2 ho2 a1 b1)
   |((go_at_call 218;(with_reducible refine(a2).mono ?_));rintro e w3 ⟨v3,rfl,ho3,hu3⟩;rw[←mP] at ho3;obtain⟨g3,c3,hv3,hZ3,hb3⟩:=IZ.iA ho3 (by simp[qj]);rw[mP,Ω] at hv3;subst hv3;(have HZ3:=χ (ψ hZ3 (ψ hb3 hu3)));clear ho3 hZ3 hb3 hu3 a2 b2)
   | fail)
  have hlt:=HD.out.1
  go_loopw [38] (λs38 wr=>∃j:Nat,j<=rs.length+1/\s38=.int .i64 (j:Int)/\fC wr B F gt ct A st (vI ((m::rs).take j) (bM G m))/\ae [B.bn,B.bp] w3 wr) (λs38 _=>rs.length+1-(intOf s38).toNat)
  case atStart=>exact⟨0,ω,rfl,(jJ.out.1.ag HS2.out.2).ag HZ3.out.2.2,ae.refl _ _⟩
  case round=>
   obtain⟨j,hj,rfl,hM,hu⟩:=hrel;rename World=>wr
   by_cases hjl:j<rs.length+1
   ·obtain⟨y,hy⟩:∃y,(m::rs)[j]?=some y:=⟨_,ε (by simpa using hjl)⟩;have hyn:y<A.cs.length:=H0.out.2.1 y (Η hy);have hg3:g3∉[B.bn,B.bp]:=λhm=>by
     have h3:=HZ3.out.2.1;have h2:=HS2.out.2.size;have h1:=jJ.out.2.size;simp at hm;rcases hm with e|e
     ·have:=hlt B.bn (by simp[FB.blk]);omega
     ·have:=hlt B.bp (by simp[FB.blk]);omega
    have hc:=hu.kept (HZ3.out.1.cell j (by rw[mP];simpa using hjl)) hg3;have hgy:(qj (m::rs)).getD j 0=(y:Int):=by unfold qj;rw[φ,ϒ,hy];rfl
    rw[hgy] at hc;have b1:=hM.h1;have kp:=yR hM.rings hyn;have JX:(j:Int)<(rs.length:Int)+1:=ω;have hw1:IntKind.i64.wrap ((j:Int)+1)=(j:Int)+1:=Μ _ ω;have et:(m::rs).take (j+1)=(m::rs).take j++[y]:=by rw[ϐ,hy];rfl
    have HR:=χ (ψ hM (ψ hu et));clear hM hu et hy hgy hlt
    go_wp2_with (first
     |((go_at_call 217;(with_reducible refine(kp).mono ?_));rintro e w5 ⟨rfl,NK,bW⟩)
     | fail)
    obtain⟨hM,hu,et⟩:=HR.out;refine⟨⟨j+1,ω,by go_num,?_,hu.trans bW⟩,by simp[intOf];omega⟩;rw[et,PI];exact hM.cO bW NK
   ·obtain rfl:j=rs.length+1:=ω;have et:(m::rs).take (rs.length+1)=m::rs:=List.take_of_length_le σ;rw[et] at hM;have q3:=hM.h3;have qt:=hM.top (q:=hh) hl;have qf:=hM.ai.free hh;obtain⟨w4,hw4⟩:∃w4,w4=wr.setCell ⟨gt,hh,none⟩ (.int .i64 (-1)):=⟨_,rfl⟩;have e3':({ vI (m::rs) (bM G m) with R:=ah (vI (m::rs) (bM G m)).R hh [] }:FG)=pM hh m rs G:=by
     unfold pM;rw[(yV _ _).2.2.2,Nl]
    have M4:fC w4 B F gt ct A st (pM hh m rs G):=by rw[hw4,←e3'];exact hM.iC hh []
    have fU:ae [gt] wr w4:=by rw[hw4];exact ν
    have hw3:ae (B.blk F gt) w3 w4:=(hu.mono (λz hz=>by simp at hz;rcases hz with e|e<;>simp[FB.blk,e])).trans (fU.mono (λz hz=>by simp at hz;simp[FB.blk,hz]));have hs4:j6 w4 (B.blk F gt) (.slice a2' rs.length (c2-1)) (qj rs):=(HS2.out.1.turned HZ3.out.2.2 σ).turned hw3 (λg hg=>Α hg)
    have kt:=Oc M4 h1 H0.out.2.2.2.1 H0.out.2.2.1 (hs4.fewer (λg hg=>by
     simp only[ρ,ς,or_false] at hg;rcases hg with e|e|e|e
     ·rw[e];exact gN _ HD.out.2.2.2.2
     all_goals simp [FB.blk,e]))
    rw[H0.out.2.2.2.2.2.2.2.2.2.1] at kt;have hU4:ae (B.blk F gt) w w4:=(((jJ.out.2.mono (λz hz=>by simp at hz;rcases hz with e|e|e<;>simp[FB.blk,e])).then HS2.out.2).then HZ3.out.2.2).trans hw3;have H4:=χ (ψ hU4 (ψ hw4 hl));rw[hw4] at kt;clear hM hu et M4 fU hw3 hs4 hU4 hw4 e3' hlt
    go_wp2_with (first
     |((go_at_call 219;(with_reducible refine(kt).mono ?_));rintro e w5 ⟨v5,rfl,ho5,M5,bW⟩;obtain⟨a5,c5,hv5,_⟩:=aV ho5;subst hv5)
     | fail)
    obtain⟨hU4,hw4,hl⟩:=H4.out;rw[←hw4] at bW;rw[←hw4] at ho5;have hs5:j6 w5 (B.blk F gt) (.slice a5 D.T.length c5) D.T:=j6.iA (base:=w4.heap.size) ho5 (λg hg=>Ψ (HD.out.1 g hg) hU4.size)
    have rT:ae (B.blk F gt) w4 w5:=bW.mono (λz hz=>by
     simp only[ρ,ς,or_false] at hz;rcases hz with e|e|e|e
     ·rw[e];exact gN _ HD.out.2.2.2.2
     all_goals simp [FB.blk,e])
    have Hg:=hU4.trans rT;have H5:=χ (ψ M5 (ψ hs5 Hg));have Qm:D.T.length<=65537:=by have:=H0.out.2.2.2.2.2.2.2.2.1;omega
    clear M5 hs5 Hg bW rT ho5 hU4 hw4 q3 qt qf kt H4
    go_loopw [59] (λs59 wr2=>∃(i:Nat) (G':FG) (q':Nat),i<=D.T.length/\s59=.int .i64 (i:Int)/\qX (nu A) hh (D.T.drop i) G' q'=R4/\BD A.cs.length (λy=>((bg A (m:Int)).c y).i) (dB A) hh (Jo (D.T.drop i)) G'/\fC wr2 B F gt ct A (cK st (D.q+q')) G'/\ae (B.blk F gt) w5 wr2) (λs59 _=>D.T.length-(intOf s59).toNat)
    case atStart=>exact⟨0,D.G,0,ω,rfl,H0.out.2.2.2.2.2.2.2.2.2.2,H0.out.2.2.2.2.1,H5.out.1,ae.refl _ _⟩
    case round=>
     obtain⟨i,G',q',hi,rfl,Q4,QZ,hM,hu⟩:=hrel;rename World=>wr2
     by_cases hil:i<D.T.length
     ·obtain⟨y,hy⟩:∃y,D.T[i]?=some y:=⟨_,ε hil⟩;have hdr:D.T.drop i=y::D.T.drop (i+1):=by
       rw[Ϟ hil]
       congr 1
       rw[ε hil] at hy
       injection hy
      rw[hdr] at Q4 QZ;unfold qX at Q4;rw[tZ] at QZ;obtain⟨a6,c6,e6,_,_,hel⟩:=H5.out.2.1;have e7:a5=a6:=by injection e6
      subst e7;obtain⟨g6,o6,rfl,hg6,hF6,hc6⟩:=hel i y hy;have hc7:=hu.kept hc6 hF6;have V5:(i:Int)<(D.T.length:Int):=ω;have hw1:IntKind.i64.wrap ((i:Int)+1)=(i:Int)+1:=Μ _ ω;have hTy:=H0.out.2.2.2.2.2.2.2.1 y (Η hy)
      by_cases e:y=-1
      ·rw[Δ e] at Q4 QZ;rw[e] at hc7;have HR:=χ (ψ Q4 (ψ QZ (ψ hM hu)));clear Q4 QZ hM hu hy hdr hel e6 hc6 e;go_wp2;exact⟨⟨i+1,G',q',ω,by go_num,HR.out.1,HR.out.2.1,HR.out.2.2.1,HR.out.2.2.2⟩,by simp[intOf];omega⟩
      ·rw[Γ e] at Q4 QZ;obtain⟨z,rfl⟩:∃z:Nat,y=z:=⟨y.toNat,ω⟩;rw[π] at Q4 QZ;have M8:=(QZ.pr z σ).1;have hzin:=H0.out.2.2.2.1 z M8.1 M8.2.2
       have kr:=λW (hW:ae [] wr2 W)=>yE (hM.ag hW) [] hl hzin (λt s' et=>by
        have hm:=QZ.mem t (by rw[et];simp)
        exact H0.out.2.2.2.1 t hm.1 hm.2.2)
       obtain⟨hRI2,_⟩:=QZ.step h1 (λG=>yZ _ _ _ _ _) (λa b c=>dI);have HR:=χ (ψ Q4 (ψ hRI2 hu));clear Q4 QZ hM hu hy hdr hel e6 hc6 e hRI2 M8 hzin hTy
       go_wp2_with (first
        |((go_at_call 220;(with_reducible refine(kr _ β).mono ?_));rintro e w6 ⟨rfl,vE,iX⟩)
        | fail)
       rw[iN] at vE;refine⟨⟨i+1,_,q'+qw hh G',ω,by go_num,HR.out.1,HR.out.2.1,by rw[←Nat.add_assoc];exact vE,HR.out.2.2.trans (iX.mono (λz hz=>?_))⟩,by simp[intOf];omega⟩;simp only[ρ,ς,or_false] at hz;rcases hz with e|e|e|e
       ·rw[e];exact gN _ HD.out.2.2.2.2
       all_goals simp[FB.blk,e]
     ·obtain rfl:i=D.T.length:=ω;have hdr:D.T.drop D.T.length=[]:=List.drop_eq_nil_of_le (Θ _);rw[hdr] at Q4;have hRt':(G',q')=R4:=Q4;subst hRt';have q0:=hM.h0;have kd:=KD.out wr2 F B.c hM.cells;have HR:=χ (ψ hM hu);clear Q4 QZ hM hu hdr
      go_wp2_with (first
       |((go_at_call 134;(with_reducible refine(kd).mono ?_));rintro e w7 ⟨rfl,hC7,kS⟩)
       | fail)
      go_ret2;refine⟨rfl,B.blk F gt,⟨⟨B,F,gt,ct,rfl,rfl,HR.out.1.cB kS hC7 (λy hy=>Α hy) (fD A m) (by rw[iV])⟩,H0.out.2.2.2.2.2.2.1⟩,(H5.out.2.2.trans HR.out.2).trans (kS.mono gN),λy hy=>Α hy⟩
end
section
variable{w:World}{p:Nat}{FF:List Nat}{A:NS}{st:Nat}{G:FG}
theorem Sq(h:sP w p FF A st G)(x:Nat)(k s:Int)(hk:-9223372036854775808<=k/\k<=9223372036854775807/\0<=s/\s<=18446744073709551615)(hB:jf A x k s=true){hh:Nat}(hxh:(A.c x).i=hh) :
  Calls prog 208 #[.pointer (some ⟨p,0,none⟩),.int .i64 (x:Int),.agg #[.int .i64 k,.int .u64 s]] w λe w'=>e=.returned (.bool true)/\
   Goes FF w w' (λBX=>sP w' p BX (aA A x k s) (cK st (y8 (aA A x k s) hh x G)) (lI (aA A x k s) hh x G)):=by
 obtain⟨⟨B,F,gt,ct,rfl,rfl,M⟩,I⟩:=h;have hst:=M.cells.nH;have ok:=M.cells.ok;have hin0:=ry hB;obtain⟨hx,hx0⟩:=(aj _ _).1 hin0;have h1:1<=hh:=ω;have UE:hh<A.hs.length:=by have:=(ok.nat x hx).2;omega
 have hcs:=gD A x k s;have jd:(aA A x k s).hs.length=A.hs.length:=by rw[lQ]
 have hi:=iH hB hx;obtain⟨t,s0,hR,hoff,f1,f2,⟨s',lL⟩,_,_,_,_,_⟩:=MZ I hB hx hxh h1;have I2:=(aay I hB hx hxh h1).1;have htI:=I.jL hR;have hin:bY (aA A x k s) (x:Int)=true:=(aj _ _).2 ⟨by rw[hcs];exact hx,by rw[hi];exact hx0⟩;have GR:bY (aA A x k s) (t:Int)=true:=(aj _ _).2 ⟨by rw[hcs];exact htI.2.2.1,by rw[hi];omega⟩;have u1:ae [] w (w.alloc (.cells #[.int .i64 k,.int .u64 s] 97)):=(ae.refl _ _).alloc _;have kp:=λW (hW:ae [] (w.alloc (.cells #[.int .i64 k,.int .u64 s] 97)) W)=>iD (M.cells.ag (u1.trans hW)) x k s hk hB;have h0:=M.h0;have wN:B.n0∉F:=M.d1.1
 have hsz:w.heap.size∉F:=λhm=>by have:=M.cells.lt _ hm;omega
 have r0:∀W,ae F (w.alloc (.cells #[.int .i64 k,.int .u64 s] 97)) W->W.cell? ⟨B.n0,0,none⟩=some (.pointer (some ⟨B.c,0,none⟩)):=λW hW=>hW.kept (u1.was h0) wN;have r1:∀W,ae F (w.alloc (.cells #[.int .i64 k,.int .u64 s] 97)) W->W.cell? ⟨w.heap.size,0,none⟩=some (.int .i64 k):=λW h=>h.kept σ hsz;have r2:∀W,ae F (w.alloc (.cells #[.int .i64 k,.int .u64 s] 97)) W->W.cell? ⟨w.heap.size,1,none⟩=some (.int .u64 s):=λW h=>h.kept σ hsz;have H0:=χ (ψ M (ψ I (ψ hoff (ψ I2 (ψ M.cells.mem (ψ jd (ψ hin GR)))))));have HX:=χ (ψ hcs (ψ hi (ψ hR lL)))
 have kh:=λW (hM:fC W B F gt ct (aA A x k s) st G)=>bV hM.cells x hin;have KH:=χ kh;have HLB:=χ hB;clear M I ok hoff I2 hB h0 hcs jd hi f1 f2 lL hin GR kh hin0 hR htI
 go_enter func208,ntmps208
 go_wp2
 go_region_held3 (ae F (w.alloc (.cells #[.int .i64 k,.int .u64 s] 97))) (exact ν)
  (first
   | ((go_at_call 131;(with_reducible refine (kp _ β).mono ?_));rintro e w1 ⟨rfl,gG,hu1⟩;(have hu2:ae F (w.alloc (.cells #[.int .i64 k,.int .u64 s] 97)) w1:=ν)))
 have uF:ae F w w1:=(u1.mono σ).trans hu2;have hM1:=H0.out.1.cB uF gG (λy hy=>Α hy) HX.out.1 H0.out.2.2.2.2.2.1;have kh1:=λW (hW:ae [] w1 W)=>KH.out W (hM1.ag hW);simp only[HX.out.2.1,hxh] at kh1;have b0:=hM1.h0;have jJ:=χ (ψ hM1 uF);clear kp r0 r1 r2 hM1 uF hu2 gG hu1 hsz u1;have wM:x<(aA A x k s).cs.length:=by rw[HX.out.1];exact hx
 have CE:(x:Int)<((aA A x k s).cs.length:Int):=ω;have hcb:(aA A x k s).cs.length<=65536:=jJ.out.1.cells.ok.c1
 by_cases hup:G.up x=-1
 ·go_wp2_with (first
   |((go_at_call 124;(with_reducible refine(kh1 _ β).mono ?_));rintro e w2 ⟨rfl,hC2,hu2⟩;(have M2:=(jJ.out.1.ag (w':=_) (β:ae [] w1 _)).cB hu2 hC2 (λy hy=>Α hy) rfl rfl);(have d2:=M2.h2);(have p0:=M2.p0 wM);rw[hup] at p0;(have oQ:=χ (ψ M2 ((jJ.out.2.then (β:ae [] w1 _)).trans hu2)));clear M2 hC2 hu2)
   | fail)
  refine tQ (λW=>fC W B F gt ct (aA A x k s) (cK st 0) G/\ae (B.blk F gt) w W) ?_ ?_
  ·exact⟨by rw[fF hst];exact oQ.out.1,oQ.out.2.mono gN⟩
  have e1:fZ (aA A x k s) hh x G=G:=by unfold fZ;rw[Γ (by simp[hup])]
  have HE:=χ (ψ e1 hup);clear e1 hup d2 p0 kh1 b0;rintro w5 ⟨M5,Hg⟩;have d3:=M5.h3;have dt:w5.cell? ⟨gt,hh,none⟩=some (.int .i64 (t:Int)):=by(have Dh:=M5.top (q:=hh) (by rw[H0.out.2.2.2.2.2.1];exact UE);rw[HX.out.2.2.1] at Dh;exact Dh)
  have df:=M5.ai.free hh;have hcap:=M5.cap;have hhI:(hh:Int)<((aA A x k s).hs.length:Int):=by rw[H0.out.2.2.2.2.2.1];omega
  have H5:=χ (ψ M5 Hg)
  by_cases htx:t=x
  ·subst htx;clear M5 Hg
   go_quiet (fail)
   go_wp2;go_ret;have eG:lI (aA A t k s) hh t G=G:=by unfold lI;rw[HE.out.1,HX.out.2.2.1,Γ (by simp[kY])]
   have eQ:y8 (aA A t k s) hh t G=0+0:=by unfold y8;rw[HE.out.1,HX.out.2.2.1,Δ HE.out.2,Δ (by rfl)]
   refine⟨rfl,B.blk F gt,⟨⟨B,F,gt,ct,rfl,rfl,?_⟩,H0.out.2.2.2.1⟩,H5.out.2.drewN _,λy hy=>Α hy⟩;rw[eG,eQ];exact H5.out.1.drewN _
  ·have hxt:((t:Int) == (x:Int))=false:=ζ;have hxt2:((t:Int) != (x:Int))=true:=ζ;have hin:=H0.out.2.2.2.2.2.2.1;have GR:=H0.out.2.2.2.2.2.2.2;have kc:=λW (hW:ae [] w5 W)=>fB (M5.cells.ag hW) x t hin GR;have hcn:=M5.cn;have mc:∀x,x≠B.c->x∉[B.c]:=λx h1=>by simp[h1]
   have r0:∀W,ae [B.c] w5 W->W.cell? ⟨B.n0,0,none⟩=some (.pointer (some ⟨B.c,0,none⟩)):=λW hW=>hW.kept M5.h0 (mc _ hcn.1);have r3:∀W,ae [B.c] w5 W->W.cell? ⟨B.n0,3,none⟩=some (.slice (some ⟨gt,0,none⟩) (aA A x k s).hs.length ct):=λW hW=>hW.kept M5.h3 (mc _ hcn.1);have rt:∀W,ae [B.c] w5 W->W.cell? ⟨gt,hh,none⟩=some (.int .i64 (t:Int)):=λW hW=>hW.kept dt (mc _ hcn.2.2.2.2.2);have rf:∀W,ae [B.c] w5 W->W.frozen? ⟨gt,hh,none⟩=false:=λW hW=>hW.aM dt (mc _ hcn.2.2.2.2.2) df;clear M5 Hg d3 dt df;obtain⟨b2,hb2⟩:∃b2,decide (dB (aA A x k s) x t)=b2:=⟨_,rfl⟩;rw[hb2] at kc;have HB2:=χ hb2
   clear hb2
   go_region_held3 (ae [B.c] w5) (exact ν)
    (first
     | ((go_at_call 164;(with_reducible refine (kc _ β).mono ?_));rintro e w6 ⟨rfl,Yh,iX⟩;(have kS:ae [B.c] w5 w6:=ae.trans ν iX)))
   have d3:=r3 _ kS;have dt:=rt _ kS;have df:=rf _ kS;have M6:=H5.out.1.setSt kS Yh;have YG:ae (B.blk F gt) w w6:=H5.out.2.trans (kS.mono (λz hz=>by simp at hz;rw[hz];exact gN _ H0.out.2.2.2.2.1));rw[iN] at M6;have H6:=χ (ψ M6 YG);clear M6 YG kS Yh iX r0 r3 rt rf kc;have eQ:y8 (aA A x k s) hh x G=0+1:=by unfold y8;rw[HE.out.1,HX.out.2.2.1,Δ HE.out.2,Γ (λe=>htx (by have e2:(t:Int)=(x:Int):=e;omega))]
   have HQ:=χ eQ;clear eQ;cases b2 with
   |false=>
    go_wp2;go_ret;have eG:lI (aA A x k s) hh x G=G:=by unfold lI;rw[HE.out.1,HX.out.2.2.1,Γ (λh=>by have h2:=h.2;unfold nu at h2;rw[show(kY (t::s0)).toNat=t from by unfold kY;simp,HB2.out] at h2;cases h2)]
    refine⟨rfl,B.blk F gt,⟨⟨B,F,gt,ct,rfl,rfl,?_⟩,H0.out.2.2.2.1⟩,by(have:=H6.out.2);exact ν,λy hy=>Α hy⟩;rw[eG,HQ.out];exact H6.out.1
   |true=>
    go_wp2;go_ret;have eG:lI (aA A x k s) hh x G=K6 hh x G:=by unfold lI;rw[HE.out.1,HX.out.2.2.1,Δ ⟨λe=>htx (by have e2:(t:Int)=(x:Int):=e;omega),by unfold nu;rw[show(kY (t::s0)).toNat=t from by unfold kY;simp];exact HB2.out⟩]
    refine⟨rfl,B.blk F gt,⟨⟨B,F,gt,ct,rfl,rfl,?_⟩,H0.out.2.2.2.1⟩,(H6.out.2).setCell (Α (by simp[FB.blk])) _,λy hy=>Α hy⟩;rw[eG,HQ.out];exact H6.out.1.iC hh (x::Af (G.R hh) x)
 ·obtain⟨p1,hp1,ux,_⟩:=(H0.out.2.1.ff.Gu x hx).resolve_left hup;have hp1h:(A.c p1).i=hh:=by have:(A.c x).i=(A.c p1).i:=(H0.out.2.1.ff.home x p1 hx ux).1;omega
  have hpin:bY (aA A x k s) (p1:Int)=true:=(aj _ _).2 ⟨by rw[HX.out.1];exact hp1,by rw[HX.out.2.1];omega⟩;have hpn:((p1:Int) == -1)=false:=σ;obtain⟨b,hb⟩:∃b,decide (dB (aA A x k s) x p1)=b:=⟨_,rfl⟩;have KA:=χ (λW st' (hM:fC W B F gt ct (aA A x k s) st' G)=>fB hM.cells x p1 H0.out.2.2.2.2.2.2.1 hpin);have HB:=χ hb;clear hb;cases b with
  |false=>
   go_wp2_with (first
    |((go_at_call 124;(with_reducible refine(kh1 _ β).mono ?_));rintro e w2 ⟨rfl,hC2,hu2⟩;(have M2:=(jJ.out.1.ag (w':=_) (β:ae [] w1 _)).cB hu2 hC2 (λy hy=>Α hy) rfl rfl);(have d2:=M2.h2);(have d0:=M2.h0);(have p0:=M2.p0 wM);rw[ux] at p0;(have ka:=KA.out _ _ M2);rw[HB.out] at ka;(have oQ:=χ (ψ M2 ((jJ.out.2.then (β:ae [] w1 _)).trans hu2)));clear M2 hC2 hu2)
    |((go_at_call 164;(with_reducible refine(ka).mono ?_));rintro e w3 ⟨rfl,wY,hu3⟩;(have Dt:=χ (ψ (oQ.out.1.setSt hu3 wY) hu3));clear wY hu3)
    | fail)
   refine tQ (λW=>fC W B F gt ct (aA A x k s) (cK st 1) G/\ae (B.blk F gt) w W) ?_ ?_
   ·exact⟨Dt.out.1,(oQ.out.2.mono gN).trans (Dt.out.2.mono (λz hz=>by simp at hz;rw[hz];exact gN _ H0.out.2.2.2.2.1))⟩
   have e1:fZ (aA A x k s) hh x G=G:=by unfold fZ;rw[Γ (λh=>by have h2:=h.2;unfold nu at h2;rw[ux,π,HB.out] at h2;cases h2)]
   have HE:=χ (ψ e1 hup);clear e1 hup d2 p0 kh1 b0 d0 ka ux;rintro w5 ⟨M5,Hg⟩;have d3:=M5.h3;have dt:w5.cell? ⟨gt,hh,none⟩=some (.int .i64 (t:Int)):=by(have Dh:=M5.top (q:=hh) (by rw[H0.out.2.2.2.2.2.1];exact UE);rw[HX.out.2.2.1] at Dh;exact Dh)
   have df:=M5.ai.free hh;have hcap:=M5.cap;have hhI:(hh:Int)<((aA A x k s).hs.length:Int):=by rw[H0.out.2.2.2.2.2.1];omega
   have H5:=χ (ψ M5 Hg)
   by_cases htx:t=x
   ·subst htx;clear M5 Hg
    go_quiet (fail)
    go_wp2;go_ret;have eG:lI (aA A t k s) hh t G=G:=by unfold lI;rw[HE.out.1,HX.out.2.2.1,Γ (by simp[kY])]
    have eQ:y8 (aA A t k s) hh t G=1+0:=by unfold y8;rw[HE.out.1,HX.out.2.2.1,Γ HE.out.2,Δ (by rfl)]
    refine⟨rfl,B.blk F gt,⟨⟨B,F,gt,ct,rfl,rfl,?_⟩,H0.out.2.2.2.1⟩,H5.out.2.drewN _,λy hy=>Α hy⟩;rw[eG,eQ];exact H5.out.1.drewN _
   ·have hxt:((t:Int) == (x:Int))=false:=ζ;have hxt2:((t:Int) != (x:Int))=true:=ζ;have hin:=H0.out.2.2.2.2.2.2.1;have GR:=H0.out.2.2.2.2.2.2.2;have kc:=λW (hW:ae [] w5 W)=>fB (M5.cells.ag hW) x t hin GR;have hcn:=M5.cn;have mc:∀x,x≠B.c->x∉[B.c]:=λx h1=>by simp[h1]
    have r0:∀W,ae [B.c] w5 W->W.cell? ⟨B.n0,0,none⟩=some (.pointer (some ⟨B.c,0,none⟩)):=λW hW=>hW.kept M5.h0 (mc _ hcn.1);have r3:∀W,ae [B.c] w5 W->W.cell? ⟨B.n0,3,none⟩=some (.slice (some ⟨gt,0,none⟩) (aA A x k s).hs.length ct):=λW hW=>hW.kept M5.h3 (mc _ hcn.1);have rt:∀W,ae [B.c] w5 W->W.cell? ⟨gt,hh,none⟩=some (.int .i64 (t:Int)):=λW hW=>hW.kept dt (mc _ hcn.2.2.2.2.2);have rf:∀W,ae [B.c] w5 W->W.frozen? ⟨gt,hh,none⟩=false:=λW hW=>hW.aM dt (mc _ hcn.2.2.2.2.2) df;clear M5 Hg d3 dt df;obtain⟨b2,hb2⟩:∃b2,decide (dB (aA A x k s) x t)=b2:=⟨_,rfl⟩;rw[hb2] at kc
    have HB2:=χ hb2;clear hb2
    go_region_held3 (ae [B.c] w5) (exact ν)
     (first
      | ((go_at_call 164;(with_reducible refine (kc _ β).mono ?_));rintro e w6 ⟨rfl,Yh,iX⟩;(have kS:ae [B.c] w5 w6:=ae.trans ν iX)))
    have d3:=r3 _ kS;have dt:=rt _ kS;have df:=rf _ kS;have M6:=H5.out.1.setSt kS Yh;have YG:ae (B.blk F gt) w w6:=H5.out.2.trans (kS.mono (λz hz=>by simp at hz;rw[hz];exact gN _ H0.out.2.2.2.2.1));rw[iN] at M6;have H6:=χ (ψ M6 YG);clear M6 YG kS Yh iX r0 r3 rt rf kc;have eQ:y8 (aA A x k s) hh x G=1+1:=by unfold y8;rw[HE.out.1,HX.out.2.2.1,Γ HE.out.2,Γ (λe=>htx (by have e2:(t:Int)=(x:Int):=e;omega))]
    have HQ:=χ eQ;clear eQ;cases b2 with
    |false=>
     go_wp2;go_ret;have eG:lI (aA A x k s) hh x G=G:=by unfold lI;rw[HE.out.1,HX.out.2.2.1,Γ (λh=>by have h2:=h.2;unfold nu at h2;rw[show(kY (t::s0)).toNat=t from by unfold kY;simp,HB2.out] at h2;cases h2)]
     refine⟨rfl,B.blk F gt,⟨⟨B,F,gt,ct,rfl,rfl,?_⟩,H0.out.2.2.2.1⟩,by(have:=H6.out.2);exact ν,λy hy=>Α hy⟩;rw[eG,HQ.out];exact H6.out.1
    |true=>
     go_wp2;go_ret;have eG:lI (aA A x k s) hh x G=K6 hh x G:=by unfold lI;rw[HE.out.1,HX.out.2.2.1,Δ ⟨λe=>htx (by have e2:(t:Int)=(x:Int):=e;omega),by unfold nu;rw[show(kY (t::s0)).toNat=t from by unfold kY;simp];exact HB2.out⟩]
     refine⟨rfl,B.blk F gt,⟨⟨B,F,gt,ct,rfl,rfl,?_⟩,H0.out.2.2.2.1⟩,(H6.out.2).setCell (Α (by simp[FB.blk])) _,λy hy=>Α hy⟩;rw[eG,HQ.out];exact H6.out.1.iC hh (x::Af (G.R hh) x)
  |true=>
   have hlt:dB (aA A x k s) x p1:=by have:=HB.out;simpa using this
   obtain⟨hpx,o1,o2,o3,yU⟩:=H0.out.2.2.1 p1 ux
   have KL:=χ (λW st' (hM:fC W B F gt ct (aA A x k s) st' G)=>by
    have hn:=HX.out.1;have:=zw (w:=W) (M:=hM) (bX:=λy=>(A.c y).i) (L:=dB (aA A x k s)) (Mx:=λa y=>y≠x->dB (aA A x k s) a y) (λa=>pE) (q:=hh) (x:=x) (t:=t) (s:=s0) (by rw[H0.out.2.2.2.2.2.1];exact UE) wM
     (by rw [hn];exact H0.out.2.1.ff.mono (λy q hy hu ho=>⟨(H0.out.2.1.ff.home y q hy hu).1,(H0.out.2.1.ff.home y q hy hu).2,λhyx=>by
      have hle:=uJ HLB.out;rw[π] at hle;have hc:=uo HLB.out hx
      by_cases e:q=x
      ·subst e;exact mD ho (by rw[hc,Γ hyx]) (by rw[hc,Δ rfl];exact hle)
      ·exact (fE (by rw [hc,Γ e]) (by rw [hc,Γ hyx])).2 ho⟩) H0.out.2.1.ff.alone) HX.out.2.2.1 (by rw [hn];exact (H0.out.2.1.jL HX.out.2.2.1).2.2.1) h1
     (by
      rw[hn];intro p2 hp2;obtain rfl:p2=p1:=ω
      exact ⟨hpx,hp1h,o1,o2,o3⟩) (by rw [hn];exact λy hy XU RS hyx=>yU y hy XU RS hyx)
    rw[hn] at this
    exact this)
   clear o1 o2 o3 yU
   go_wp2_with (first
    |((go_at_call 124;(with_reducible refine(kh1 _ β).mono ?_));rintro e w2 ⟨rfl,hC2,hu2⟩;(have M2:=(jJ.out.1.ag (w':=_) (β:ae [] w1 _)).cB hu2 hC2 (λy hy=>Α hy) rfl rfl);(have d2:=M2.h2);(have d0:=M2.h0);(have p0:=M2.p0 wM);rw[ux] at p0;(have ka:=KA.out _ _ M2);rw[HB.out] at ka;(have oQ:=χ (ψ M2 ((jJ.out.2.then (β:ae [] w1 _)).trans hu2)));clear M2 hC2 hu2)
    |((go_at_call 164;(with_reducible refine(ka).mono ?_));rintro e w3 ⟨rfl,wY,hu3⟩;(have kl:=KL.out _ _ (oQ.out.1.setSt hu3 wY));(have Dt:=χ (ψ (oQ.out.1.setSt hu3 wY) hu3));clear wY hu3)
    |((go_at_call 215;(with_reducible refine(kl).mono ?_));rintro e w4 ⟨rfl,M4,fU⟩;(have Mj:=χ (ψ M4 fU));clear M4 fU)
    | fail)
   have e1:fZ (aA A x k s) hh x G=dF A.cs.length hh x G:=by unfold fZ;rw[Δ ⟨hup,by unfold nu;rw[ux,π];exact HB.out⟩,HX.out.1]
   have hRL:=HX.out.2.2.2;rw[e1] at hRL;refine tQ (λW=>fC W B F gt ct (aA A x k s) (cK st 1) (dF A.cs.length hh x G)/\ae (B.blk F gt) w W) ?_ ?_
   ·exact⟨Mj.out.1,((oQ.out.2.mono gN).trans (Dt.out.2.mono (λz hz=>by simp at hz;rw[hz];exact gN _ H0.out.2.2.2.2.1))).trans (Mj.out.2.mono (λz hz=>by simp at hz;rcases hz with e|e|e<;>simp[FB.blk,e]))⟩
   have HE:=χ (ψ e1 hup);have UN:=χ hRL;clear e1 hup d2 p0 kh1 b0 d0 ka ux hRL kl;rintro w5 ⟨M5,Hg⟩;have d3:=M5.h3;have dt:w5.cell? ⟨gt,hh,none⟩=some (.int .i64 (t:Int)):=by(have Dh:=M5.top (q:=hh) (by rw[H0.out.2.2.2.2.2.1];exact UE);rw[UN.out] at Dh;exact Dh)
   have df:=M5.ai.free hh;have hcap:=M5.cap;have hhI:(hh:Int)<((aA A x k s).hs.length:Int):=by rw[H0.out.2.2.2.2.2.1];omega
   have H5:=χ (ψ M5 Hg)
   by_cases htx:t=x
   ·subst htx;clear M5 Hg
    go_quiet (fail)
    go_wp2;go_ret;have eG:lI (aA A t k s) hh t G=(dF A.cs.length hh t G):=by unfold lI;rw[HE.out.1,UN.out,Γ (by simp[kY])]
    have eQ:y8 (aA A t k s) hh t G=1+0:=by unfold y8;rw[HE.out.1,UN.out,Γ HE.out.2,Δ (by rfl)]
    refine⟨rfl,B.blk F gt,⟨⟨B,F,gt,ct,rfl,rfl,?_⟩,H0.out.2.2.2.1⟩,H5.out.2.drewN _,λy hy=>Α hy⟩;rw[eG,eQ];exact H5.out.1.drewN _
   ·have hxt:((t:Int) == (x:Int))=false:=ζ;have hxt2:((t:Int) != (x:Int))=true:=ζ;have hin:=H0.out.2.2.2.2.2.2.1;have GR:=H0.out.2.2.2.2.2.2.2;have kc:=λW (hW:ae [] w5 W)=>fB (M5.cells.ag hW) x t hin GR;have hcn:=M5.cn;have mc:∀x,x≠B.c->x∉[B.c]:=λx h1=>by simp[h1]
    have r0:∀W,ae [B.c] w5 W->W.cell? ⟨B.n0,0,none⟩=some (.pointer (some ⟨B.c,0,none⟩)):=λW hW=>hW.kept M5.h0 (mc _ hcn.1);have r3:∀W,ae [B.c] w5 W->W.cell? ⟨B.n0,3,none⟩=some (.slice (some ⟨gt,0,none⟩) (aA A x k s).hs.length ct):=λW hW=>hW.kept M5.h3 (mc _ hcn.1);have rt:∀W,ae [B.c] w5 W->W.cell? ⟨gt,hh,none⟩=some (.int .i64 (t:Int)):=λW hW=>hW.kept dt (mc _ hcn.2.2.2.2.2);have rf:∀W,ae [B.c] w5 W->W.frozen? ⟨gt,hh,none⟩=false:=λW hW=>hW.aM dt (mc _ hcn.2.2.2.2.2) df;clear M5 Hg d3 dt df;obtain⟨b2,hb2⟩:∃b2,decide (dB (aA A x k s) x t)=b2:=⟨_,rfl⟩;rw[hb2] at kc
    have HB2:=χ hb2;clear hb2
    go_region_held3 (ae [B.c] w5) (exact ν)
     (first
      | ((go_at_call 164;(with_reducible refine (kc _ β).mono ?_));rintro e w6 ⟨rfl,Yh,iX⟩;(have kS:ae [B.c] w5 w6:=ae.trans ν iX)))
    have d3:=r3 _ kS;have dt:=rt _ kS;have df:=rf _ kS;have M6:=H5.out.1.setSt kS Yh;have YG:ae (B.blk F gt) w w6:=H5.out.2.trans (kS.mono (λz hz=>by simp at hz;rw[hz];exact gN _ H0.out.2.2.2.2.1));rw[iN] at M6;have H6:=χ (ψ M6 YG);clear M6 YG kS Yh iX r0 r3 rt rf kc;have eQ:y8 (aA A x k s) hh x G=1+1:=by unfold y8;rw[HE.out.1,UN.out,Γ HE.out.2,Γ (λe=>htx (by have e2:(t:Int)=(x:Int):=e;omega))]
    have HQ:=χ eQ;clear eQ;cases b2 with
    |false=>
     go_wp2;go_ret;have eG:lI (aA A x k s) hh x G=(dF A.cs.length hh x G):=by unfold lI;rw[HE.out.1,UN.out,Γ (λh=>by have h2:=h.2;unfold nu at h2;rw[show(kY (t::s')).toNat=t from by unfold kY;simp,HB2.out] at h2;cases h2)]
     refine⟨rfl,B.blk F gt,⟨⟨B,F,gt,ct,rfl,rfl,?_⟩,H0.out.2.2.2.1⟩,by(have:=H6.out.2);exact ν,λy hy=>Α hy⟩;rw[eG,HQ.out];exact H6.out.1
    |true=>
     go_wp2;go_ret;have eG:lI (aA A x k s) hh x G=K6 hh x (dF A.cs.length hh x G):=by unfold lI;rw[HE.out.1,UN.out,Δ ⟨λe=>htx (by have e2:(t:Int)=(x:Int):=e;omega),by unfold nu;rw[show(kY (t::s')).toNat=t from by unfold kY;simp];exact HB2.out⟩]
     refine⟨rfl,B.blk F gt,⟨⟨B,F,gt,ct,rfl,rfl,?_⟩,H0.out.2.2.2.1⟩,(H6.out.2).setCell (Α (by simp[FB.blk])) _,λy hy=>Α hy⟩;rw[eG,HQ.out];exact H6.out.1.iC hh (x::Af ((dF A.cs.length hh x G).R hh) x)
end
def Yi(A:NS)(x:Nat)(G:FG):FG:=if kY (G.R (A.c x).i.toNat)=x then Eg A (A.c x).i G else nG (A.c x).i.toNat x (dF A.cs.length (A.c x).i.toNat x G)
def Yx(A:NS)(x:Nat)(G:FG):Nat:=if kY (G.R (A.c x).i.toNat)=x then C8 A (A.c x).i G else 0
section
variable{w:World}{p:Nat}{FF:List Nat}{A:NS}{st:Nat}{G:FG}
theorem Ty(h:sP w p FF A st G)(x:Nat)(hin:bY A (x:Int)=true) :
  Calls prog 209 #[.pointer (some ⟨p,0,none⟩),.int .i64 (x:Int)] w λe w'=>e=.returned (.bool true)/\
   Goes FF w w' (λBX=>sP w' p BX (bg A x) (cK st (Yx A x G)) (Yi A x G)):=by
 obtain⟨⟨B,F,gt,ct,rfl,rfl,M⟩,I⟩:=h;have hst:=M.cells.nH;have ok:=M.cells.ok;obtain⟨hx,hx0⟩:=(aj _ _).1 hin;obtain⟨hh,hxh⟩:∃hh:Nat,(A.c x).i=hh:=⟨(A.c x).i.toNat,ω⟩;have h1:1<=hh:=ω;have UE:hh<A.hs.length:=by have:=(ok.nat x hx).2;omega
 unfold Yi Yx;rw[hxh,π];obtain⟨t,s,hR⟩:∃t s,G.R hh=t::s:=by
  cases hRR:G.R hh with
  |nil=>
   have h2:=I.Ip hRR;have h3:=(jF (A:=A) (h:=(hh:Int)) ω).1 h2;have:0<dD A (hh:Int):=fM.2 ⟨x,hx,hxh,ω⟩;omega
  |cons t s=>exact⟨t,s,rfl⟩
 have kh:=bV M.cells x hin;rw[hxh] at kh;have h0:=M.h0;have ms:=λW (hu:ae F w W) (hC:aF W B.c F A st)=>M.cB hu hC (λy hy=>Α hy) rfl rfl;have hhI:(hh:Int)<(A.hs.length:Int):=ω;have hcap:=M.cap;have CE:(x:Int)<(A.cs.length:Int):=ω;have hmin:=(I.jL hR).1
 by_cases htx:t=x
 ·subst htx;rw[hR,Δ (by rfl),Δ (by rfl)];have ee:sH A (hh:Int)=bg A t:=by unfold sH;rw[hmin]
  have ke:=λW (hK:sP W B.n0 (B.blk F gt) A st G)=>xX hK (hh:Int) ω;simp only[hmin,ee] at ke;have HK:=χ (ψ ms (ψ I (ψ ke hR)));clear M I ms ke ee hin hR hmin
  go_enter func209,ntmps209
  go_wp2_with (first
   |((go_at_call 124;(with_reducible refine(kh).mono ?_));rintro e w1 ⟨rfl,gG,hu1⟩;(have M1:=HK.out.1 _ hu1 gG);(have d3:=M1.h3);(have dt:w1.cell? ⟨gt,hh,none⟩=some (.int .i64 (t:Int)):=by(have Dh:=M1.top UE;rw[HK.out.2.2.2] at Dh;exact Dh));(have ke1:=HK.out.2.2.1 _ ⟨⟨B,F,gt,ct,rfl,rfl,M1⟩,HK.out.2.1⟩);(have HU:=χ hu1);clear M1 gG hu1)
   |((go_at_call 210;(with_reducible refine(ke1).mono ?_));rintro e w2 ⟨rfl,FF2,hK2,hu2,hF2⟩)
   | fail)
  go_ret;exact⟨rfl,FF2,hK2,(HU.out.mono gN).trans hu2,λy hy=>(hF2 y hy).imp id (λh=>Χ HU.out.size h)⟩
 ·have hne:¬kY (G.R hh)=(x:Int):=by rw[hR];intro e;exact htx (by have e2:(t:Int)=(x:Int):=e;omega)
  rw[Γ hne,Γ hne,fF hst];obtain⟨hoff,f1,f2,⟨s',lL⟩,_,ux,_⟩:=Wx I hR hx hxh htx;obtain⟨I2,hhd,_⟩:=abb ⟨f1,f2⟩ ok lL hx ux hxh htx;have kl:=λW (hM:fC W B F gt ct A st G)=>zw (w:=W) (M:=hM) (bX:=λy=>(A.c y).i) (L:=dB A) (Mx:=dB A) (λa=>pE) (q:=hh) (x:=x) (t:=t) (s:=s) UE hx (I.ff.mono (λy q hy hu ho=>⟨(I.ff.home y q hy hu).1,(I.ff.home y q hy hu).2,λ_=>ho⟩) I.ff.alone) hR (I.jL hR).2.2.1 h1
   (λp1 hp1=>⟨(hoff p1 hp1).1,(hoff p1 hp1).2.2.1,(hoff p1 hp1).2.2.2.1,(hoff p1 hp1).2.2.2.2.1,(hoff p1 hp1).2.2.2.2.2⟩) (λy hy XU RS=>I.first hR hy XU RS)
  have kra:=λW (hM:fC W B F gt ct A st (dF A.cs.length hh x G))=>BQ hM hx (f1.ring x hx) (λz hz=>(f1.kid x z hx hz).1);have kpa:=λW (hM:fC W B F gt ct A st (bM (dF A.cs.length hh x G) x))=>yR hM.rings hx;have Rt:=λW (hC:aF W B.c F A st)=>gT hC x hin;have htxI:((t:Int) == (x:Int))=false:=ζ;obtain⟨G1,hG1⟩:∃G1,dF A.cs.length hh x G=G1:=⟨_,rfl⟩;rw[hG1] at kl kra kpa I2 lL hhd ⊢;have HK:=χ (ψ ms (ψ kl (ψ kra (ψ kpa (ψ Rt (ψ I2 (ψ hR (ψ lL hhd))))))));clear M I ms kl kra kpa Rt I2 hR lL hhd hin hmin hoff f1 f2 ux hG1 hne
  go_enter func209,ntmps209
  go_wp2_with (first
   |((go_at_call 124;(with_reducible refine(kh).mono ?_));rintro e w1 ⟨rfl,gG,hu1⟩;(have M1:=HK.out.1 _ hu1 gG);(have d3:=M1.h3);(have dt:w1.cell? ⟨gt,hh,none⟩=some (.int .i64 (t:Int)):=by(have Dh:=M1.top UE;rw[HK.out.2.2.2.2.2.2.1] at Dh;exact Dh));(have k1:=HK.out.2.1 _ M1);(have HU1:=χ hu1);clear M1 gG hu1)
   |((go_at_call 215;(with_reducible refine(k1).mono ?_));rintro e w2 ⟨rfl,M2,hu2⟩;(have k2:=HK.out.2.2.1 _ M2);(have HU2:=χ hu2);clear M2 hu2 k1)
   |((go_at_call 216;(with_reducible refine(k2).mono ?_));rintro e w3 ⟨rfl,M3,hu3⟩;(have k3:=HK.out.2.2.2.1 _ M3);(have e3:=M3.h1);(have Dt:=χ (ψ M3 hu3));clear M3 hu3 k2)
   |((go_at_call 217;(with_reducible refine(k3).mono ?_));rintro e w4 ⟨rfl,YR,fU⟩;(have M4:=Dt.out.1.cO fU YR);(have e4:=M4.h0);(have k4:=HK.out.2.2.2.2.1 _ M4.cells);(have Mj:=χ (ψ M4 fU));clear M4 fU YR k3)
   |((go_at_call 134;(with_reducible refine(k4).mono ?_));rintro e w5 ⟨rfl,Q3,bW⟩)
   | fail)
  go_ret;have M5:=Mj.out.1.cB bW Q3 (λy hy=>Α hy) (fD A x) (by rw[iV]);have eR:(bM G1 x).R=G1.R:=Nl G1 x
  have M6:=M5.MS hh (PE (G1.R hh) (kl (G1.K x)) x) (by
   show kY _=kY ((bM G1 x).R hh)
   rw[eR,HK.out.2.2.2.2.2.2.2.1];have h9:=HK.out.2.2.2.2.2.2.2.2;rw[show(nG hh x G1).R hh=PE (G1.R hh) (kl (G1.K x)) x from bK _ _ _,HK.out.2.2.2.2.2.2.2.1] at h9
   rw [h9];rfl)
  have eG:nG hh x G1={ prt (bM G1 x) x with R:=ah (bM G1 x).R hh (PE (G1.R hh) (kl (G1.K x)) x) }:=by unfold nG;rw[eR]
  refine⟨rfl,B.blk F gt,⟨⟨B,F,gt,ct,rfl,rfl,?_⟩,HK.out.2.2.2.2.2.1⟩,(((HU1.out.mono gN).trans (HU2.out.mono (λz hz=>by simp at hz;rcases hz with e|e|e<;>simp[FB.blk,e]))).trans (Dt.out.2.mono (λz hz=>by simp at hz;rcases hz with e|e|e<;>simp[FB.blk,e]))).trans ((Mj.out.2.mono (λz hz=>by simp at hz;rcases hz with e|e<;>simp[FB.blk,e])).trans (bW.mono gN)),λy hy=>Α hy⟩;rw[eG];exact M6
theorem aaN(I:xC A G)(ok:A.Ok):G.R A.hs.length=[]:=by
 cases e:G.R A.hs.length with
 |nil=>rfl
 |cons x t=>
  have:=I.out (h:=A.hs.length) (z:=x) (by rw[e];simp);have:=ok.nat x this.2.1;omega
theorem QD(h:sP w p FF A st G) :
  Calls prog 212 #[.pointer (some ⟨p,0,none⟩)] w λe w'=>e=.returned (.int .i64 (dJ A))/\Goes FF w w' (λBX=>sP w' p BX (aU A) st G):=by
 obtain⟨⟨B,F,gt,ct,rfl,rfl,M⟩,I⟩:=h;have k:=iP M.cells;have h0:=M.h0;have I2:=Wn I
 by_cases hl:65536<A.hs.length
 ·have e1:dJ A=0:=by unfold dJ;rw[Δ hl]
  have e2:aU A=A:=by unfold aU;rw[Δ hl]
  rw[e1,e2] at k;rw[e1,e2];have HM:=χ M;have HI:=χ I;clear M I e1 e2 I2
  go_enter func212,ntmps212
  go_wp2_with ((go_at_call 140;(with_reducible refine(k).mono ?_));rintro e w1 ⟨rfl,F1,hC,hu,hF⟩)
  go_ret;exact⟨rfl,B.blk F1 gt,⟨⟨B,F1,gt,ct,rfl,rfl,HM.out.cB hu hC hF rfl rfl⟩,HI.out⟩,hu.mono gN,X9 hF⟩
 ·have e1:dJ A=A.hs.length:=by unfold dJ;rw[Γ hl]
  rw[e1] at k;rw[e1];have hcs:(aU A).cs.length=A.cs.length:=by unfold aU;rw[Γ hl]
  have jd:(aU A).hs.length=A.hs.length+1:=by unfold aU;rw[Γ hl];simp
  have hh0:=M.cells.ok.h0;have FV:=aaN I M.cells.ok;have HM:=χ M;have HI:=χ (ψ I2 FV);clear M I e1 I2 FV
  go_enter func212,ntmps212
  go_wp2_with (first
   |((go_at_call 140;(with_reducible refine(k).mono ?_));rintro e w1 ⟨rfl,F1,hC,hu,hF⟩;(have d3:=hu.kept HM.out.h3 HM.out.d1.1);(have f3:=hu.aM HM.out.h3 HM.out.d1.1 (HM.out.head.free 3));(have ho1:=ak HM.out.ai.own hu (λg hg=>by simp[Value.ownBlock] at hg;subst hg;exact HM.out.d1.2.2.2.2.2));rw[vz] at ho1;(have g0:B.n0≠gt:=HM.out.d2.2.2.2.2))
   | ((at_builtin;refine bI rfl _ _ 77 rfl 0 3 (.int .i64 0) 1 8 underlying77 gI rfl δ _ _ _ rfl (ho1) [.int .i64 (-1)] rfl (by simp [Value.oneCell']) (by first|rfl|(rw [Κ];rfl)) μ ω ω ?_;intro v2 w2 ho2 hu2 nC);(have hu2:ae [gt] w1 w2:=hu2);obtain ⟨pX,H8,ev,_⟩:=fQ ho2 ω;subst ev;(have d4:=hu2.kept d3 ζ);(have f4:=hu2.aM d3 ζ f3)))
  go_ret;have hM:=HM.out;have hlt:=hM.lt;have f:=hM.d1;have q:=hM.d2;have r:=hM.d3;have hws:=hu.size;have hw3:ae [B.n0] w2 (w2.setCell ⟨B.n0,3,none⟩ (.slice (some ⟨pX,0,none⟩) (A.hs.length+1) H8)):=β;have hg1:pX=gt\/w1.heap.size<pX:=by
   rcases nC with h|h
   ·exact Α (Option.some.inj h)
   ·exact Β (h pX rfl)
  have gG:=hC.lt;have l0:=hlt B.n0 (by simp[FB.blk]);have l1:=hlt B.br (by simp[FB.blk]);have l2:=hlt B.bn (by simp[FB.blk]);have l3:=hlt B.bp (by simp[FB.blk]);have l4:=hlt B.bl (by simp[FB.blk]);have l5:=hlt gt (by simp[FB.blk]);have hnF:∀y,y<w.heap.size->y∉F->y∉F1:=λy hy hn hm=>by rcases hF y hm with h'|h';exact hn h';omega
  have wy:pX∉F1:=by
   rcases hg1 with e|e
   ·rw[e];exact hnF gt l5 f.2.2.2.2.2
   ·exact λhm=>by have:=gG pX hm;omega
  have hgn:∀y,y<w.heap.size->y≠gt->y≠pX:=λy hy hn e=>by
   rcases hg1 with e2|e2
   ·exact hn (e.trans e2)
   ·omega
  have hhd:=((hM.head.upd hu f.1).upd hu2 ζ).set 3 (.slice (some ⟨pX,0,none⟩) (A.hs.length+1) H8);have n2:∀y,y≠gt->y∉[gt]:=λy h=>by simpa using h
  have n3:∀y,y≠B.n0->y∉[B.n0]:=λy h=>by simpa using h
  have eT:ji G.R (A.hs.length+1)=ji G.R A.hs.length++[-1]:=by
   unfold ji;rw[List.range_succ,List.map_append];simp[HI.out.2,kY]
  have hBM:fC (w2.setCell ⟨B.n0,3,none⟩ (.slice (some ⟨pX,0,none⟩) (A.hs.length+1) H8)) B F1 pX H8 (aU A) st G:=by
   refine⟨?_,?_,?_,?_,⟨?_⟩,⟨hnF _ l0 f.1,hnF _ l1 f.2.1,hnF _ l2 f.2.2.1,hnF _ l3 f.2.2.2.1,hnF _ l4 f.2.2.2.2.1,wy⟩,⟨q.1,q.2.1,q.2.2.1,q.2.2.2.1,hgn _ l0 q.2.2.2.2⟩,⟨r.1,r.2.1,r.2.2.1,hgn _ l4 r.2.2.2.1,(hgn _ l1 (Ne.symm r.2.2.2.2.1)).symm,(hgn _ l2 (Ne.symm r.2.2.2.2.2.1)).symm,(hgn _ l3 (Ne.symm r.2.2.2.2.2.2)).symm⟩⟩
   ·rw[hcs,jd];refine hhd.ext (λj hj=>?_);rcases(ω:j=0\/j=1\/j=2\/j=3) with rfl|rfl|rfl|rfl<;>rfl
   ·exact(hC.upd hu2 (λy hy=>by simp at hy;rw[hy];exact hnF gt l5 f.2.2.2.2.2)).upd hw3 (λy hy=>by simp at hy;rw[hy];exact hnF _ l0 f.1)
   ·rw[hcs];exact((hM.rings.upd hu f.2.1 f.2.2.1 f.2.2.2.1).upd hu2 (n2 _ (Ne.symm r.2.2.2.2.1)) (n2 _ (Ne.symm r.2.2.2.2.2.1)) (n2 _ (Ne.symm r.2.2.2.2.2.2))).upd hw3 (n3 _ (Ne.symm q.1)) (n3 _ (Ne.symm q.2.1)) (n3 _ (Ne.symm q.2.2.1))
   ·rw[hcs];exact((hM.pl.upd hu f.2.2.2.2.1).upd hu2 (n2 _ r.2.2.2.1)).upd hw3 (n3 _ (Ne.symm q.2.2.2.1))
   ·rw[jd,vz,eT,dO];refine ak (nN ho2 (Nat.zero_le _)) hw3 (λg hg hm=>?_);simp[Value.ownBlock] at hg hm;exact hgn _ l0 q.2.2.2.2 ω
  refine⟨rfl,B.blk F1 pX,⟨⟨B,F1,pX,H8,rfl,rfl,hBM⟩,HI.out.1⟩,((hu.mono gN).trans (hu2.mono (λz hz=>by simp at hz;simp[FB.blk,hz]))).trans (hw3.mono (λz hz=>by simp at hz;simp[FB.blk,hz])),λy hy=>?_⟩;simp only[FB.blk,ρ] at hy ⊢;rcases hy with e|e|e|e|e|e|e
  ·exact Α (Α e)
  ·exact Α (Β (Α e))
  ·exact Α (Β (Β (Α e)))
  ·exact Α (Β (Β (Β (Α e))))
  ·exact Α (Β (Β (Β (Β (Α e)))))
  ·rcases hg1 with e2|e2
   ·exact Α (Β (Β (Β (Β (Β (Α (e.trans e2)))))))
   ·exact Β ω
  ·rcases hF y e with h'|h'
   ·exact Α (Β (Β (Β (Β (Β (Β h'))))))
   ·exact Β h'
end
theorem OX:(prog.info? 198).map (λi=>(i.zero,i.size,i.bytes))=some (some (.agg #[.int .i64 0,.int .i64 0,.int .i64 0,.bool false]),4,32):=by kernel_rfl
theorem KY(n j:Nat)(hj:j<n*4):(madeCells #[Value.int .i64 0,.int .i64 0,.int .i64 0,.bool false] (n*4)).toList.getD j undef=Ck (λ_=>0) (λ_=>0) (λ_=>0) (λ_=>false) j:=by
 rw[φ,ε (by simp[size_madeCells];omega)];simp only[Option.getD_some,madeCells,Array.getElem_toList,Array.getElem_map,Array.getElem_range];unfold Ck;rcases(ω:j % 4=0\/j % 4=1\/j % 4=2\/j % 4=3) with e|e|e|e<;>simp[e]
def upTo(k:Nat)(v:Int):Nat->Int:=λi=>if i<k then v else 0
theorem SS(k:Nat)(v:Int):ah (upTo k v) k v=upTo (k+1) v:=by
 funext i;unfold ah upTo
 by_cases e:i=k
 ·rw[Δ e,Δ ω]
 ·rw[Γ e]
  by_cases h:i<k
  ·rw[Δ h,Δ ω]
  ·rw[Γ h,Γ ω]
theorem SK(n:Nat)(w:World)(h:n<=65536):Calls prog 64 #[.int .i64 (n:Int)] w λe w'=>∃p FF,e=.returned (.tuple #[.pointer (some ⟨p,0,none⟩),.int .i64 0])/\sP w' p FF (NS.new n) 0 FG.none/\ae [] w w'/\∀x,x∈FF->w.heap.size<=x:=by
 have kc:=oH n w h;have kr:=λW=>Hw n W h;have hI:=χ (ZV n)
 go_enter func64,ntmps64
 go_wp2_with (first
  |((go_at_call 84;(with_reducible refine(kc).mono ?_));rintro e w1 ⟨c,F,rfl,hC,hu1,hF⟩;(have HC:=χ (ψ hC (ψ hu1 hF)));clear hC hu1 hF)
  |((go_at_call 87;(with_reducible refine(kr _).mono ?_));rintro e w2 ⟨br,bn,bp,rfl,hR,hu2,hb1,hb2,hb3⟩;(have HR:=χ (ψ hR (ψ hu2 (ψ hb1 (ψ hb2 hb3)))));clear hR hu2 hb1 hb2 hb3 kr)
  | (at_make;refine wpList_make_row rfl _ 194 rfl 198 (.agg #[.int .i64 0,.int .i64 0,.int .i64 0,.bool false]) 4 32 underlying194 OX n rfl ω μ ?_;intro w3 hr3 hu3))
 obtain⟨W0,hW0⟩:∃W0,W0=(w3.alloc (.cells #[.int .i64 (-1)] 3)).alloc (.cells #[.pointer (some ⟨c,0,none⟩),.pointer (some ⟨br,0,none⟩),.slice (some ⟨w2.heap.size,0,none⟩) n n,.slice (some ⟨w3.heap.size,0,none⟩) 1 1] 196):=⟨_,rfl⟩;have hu0:ae [] w3 W0:=by rw[hW0];exact β
 have hhead:=eZ (w3.alloc (.cells #[.int .i64 (-1)] 3)) [.pointer (some ⟨c,0,none⟩),.pointer (some ⟨br,0,none⟩),.slice (some ⟨w2.heap.size,0,none⟩) n n,.slice (some ⟨w3.heap.size,0,none⟩) 1 1] 196;rw[Κ] at hhead;have hz1:IZ (w3.alloc (.cells #[.int .i64 (-1)] 3)) w3.heap.size 1 [-1]:=IZ.lit w3 [-1] σ;have hz0:IZ W0 w3.heap.size 1 [-1]:=by rw[hW0];exact hz1.upd ((ae.refl [] _).alloc _) σ
 have hhd:aS W0 (w3.heap.size+1) 196 4 (λj=>[Value.pointer (some ⟨c,0,none⟩),.pointer (some ⟨br,0,none⟩),.slice (some ⟨w2.heap.size,0,none⟩) n n,.slice (some ⟨w3.heap.size,0,none⟩) 1 1].getD j undef):=by rw[hW0];exact hhead
 have hzz:(Value.agg #[.int .i64 0,.int .i64 0,.int .i64 0,.bool false]).cells=#[.int .i64 0,.int .i64 0,.int .i64 0,.bool false]:=rfl;rw[hzz] at hr3;have hr0:aS W0 w2.heap.size 198 (n*4) (Ck (upTo 0 (-1)) (upTo 0 (-1)) (λ_=>0) (λ_=>false)):=by
  refine((hr3.upd hu0 σ).ext (λj hj=>?_));rw[KY n j hj];unfold upTo;simp
 have hl3:=hr3.lt;have H0:=χ (ψ hu0 (ψ hz0 (ψ hhd (ψ hr0 (ψ hu3 hW0)))));have hne:w3.heap.size+1≠w2.heap.size:=ω;clear hu0 hz0 hhd hr0 hz1 hhead hr3 hu3;rw[←hW0];clear hW0
 go_loopw [34] (λs34 wr=>∃k:Nat,k<=n/\s34=.int .i64 (k:Int)/\aS wr w2.heap.size 198 (n*4) (Ck (upTo k (-1)) (upTo k (-1)) (λ_=>0) (λ_=>false))/\ae [w2.heap.size] W0 wr) (λs34 _=>n-(intOf s34).toNat)
 case atStart=>exact⟨0,ω,rfl,H0.out.2.2.2.1,ae.refl _ _⟩
 case round=>
  obtain⟨k,hk,rfl,hr,hu⟩:=hrel;rename World=>wr
  by_cases hkn:k<n
  ·have hkI:(k:Int)<(n:Int):=ω;have hw1:IntKind.i64.wrap ((k:Int)+1)=(k:Int)+1:=Μ _ ω;have d2:wr.cell? ⟨w3.heap.size+1,2,none⟩=some (.slice (some ⟨w2.heap.size,0,none⟩) n n):=hu.kept (H0.out.2.2.1.cellAt 2 ω rfl) (by simpa using hne);have p0:=hr.cellAt (k*4) ω (zD _ _ _ _ k);have p1:=hr.cellAt (k*4+1) ω (zA _ _ _ _ k);have p2:=hr.cellAt (k*4+2) ω (zI _ _ _ _ k);have p3:=hr.cellAt (k*4+3) ω (zC _ _ _ _ k);have f0:=hr.free (k*4);have f1:=hr.free (k*4+1);have f2:=hr.free (k*4+2);have f3:=hr.free (k*4+3);have HR2:=χ (ψ hr hu);clear hr hu;go_wp2
   go_region_with (first
    |((go_at_call 88;(with_reducible refine(Bj _).mono ?_));rintro e w5 ⟨rfl,bW⟩;(have hv:ae [] wr w5:=ae.trans β bW);(have v0:=hv.was p0);(have v1:=hv.was p1);(have v2:=hv.was p2);(have v3:=hv.was p3);(have v4:=hv.was d2);(have z0:=hv.aM p0 σ f0);(have z1:=hv.aM p1 σ f1);(have z2:=hv.aM p2 σ f2);(have z3:=hv.aM p3 σ f3))
    | fail)
   all_goals
    go_wp2;have hr:=HR2.out.1.upd hv σ;have iX:ae [w2.heap.size] W0 w5:=HR2.out.2.then hv;refine⟨⟨k+1,ω,by go_num,?_,ν⟩,by simp[intOf];omega⟩;have:=ql (tO (qG (sZ hr k (-1)) k (-1)) k 0) k false;rw[SS] at this;refine this.ext (λj _=>?_);rw[show ah (λ_=>(0:Int)) k 0=(λ_=>0) from by funext z;unfold ah;split<;>rfl,show ah (λ_=>false) k false=(λ_=>false) from by funext z;unfold ah;split<;>rfl]
  ·obtain rfl:k=n:=ω;have HR2:=χ (ψ hr hu);clear hr hu;go_wp2;go_ret2;obtain⟨hr,hu⟩:=HR2.out;obtain⟨hu0,hz0,hhd,_,hu3,_⟩:=H0.out;obtain⟨hC,hu1,hF⟩:=HC.out;obtain⟨hR,hu2,hb1,hb2,hb3⟩:=HR.out;have hcs:(NS.new k).cs.length=k:=by simp[NS.new]
   have jd:(NS.new k).hs.length=1:=rfl;have hCl:=hC.lt;have hRl:=hR.lt;have s1:=hu1.size;have s2:=hu2.size;have hFn:∀y,w1.heap.size<=y->y∉F:=λy hy hm=>by have:=hCl y hm;omega
   have hM:fC wr ⟨w3.heap.size+1,c,br,bn,bp,w2.heap.size⟩ F w3.heap.size 1 (NS.new k) 0 FG.none:=by
    refine⟨?_,?_,?_,?_,?_,⟨hFn _ ζ,hFn _ hb1,hFn _ hb2,hFn _ hb3,hFn _ s2,hFn _ ω⟩,⟨ζ,ζ,ζ,ζ,σ⟩,⟨ζ,ζ,ζ,ζ,ζ,ζ,ζ⟩⟩
    ·rw[hcs,jd];exact hhd.upd hu (by simpa using hne)
    ·exact((hC.ag ((hu2.trans hu3).trans hu0))).upd hu (λy hy=>by simp at hy;rw[hy];exact hFn _ s2)
    ·rw[hcs];exact(hR.ag (hu3.trans hu0)).upd hu ζ ζ ζ
    ·rw[hcs];refine hr.ext (λj hj=>?_);unfold nU;obtain⟨a,e⟩:=four j;have ha:a<k:=ω;rcases e with rfl|rfl|rfl|rfl
     ·rw[zD,zD];unfold upTo;rw[Δ ha];rfl
     ·rw[zA,zA];unfold upTo;rw[Δ ha];rfl
     ·rw[zI,zI];rfl
     ·rw[zC,zC];rfl
    ·exact hz0.upd hu ζ
   refine⟨_,_,rfl,⟨⟨⟨w3.heap.size+1,c,br,bn,bp,w2.heap.size⟩,F,w3.heap.size,1,rfl,rfl,hM⟩,hI.out⟩,(((hu1.trans hu2).trans hu3).trans hu0).joined hu (λy hy=>by simp at hy;rw[hy];right;omega),λy hy=>?_⟩;simp only[FB.blk,ρ] at hy;rcases hy with e|e|e|e|e|e|e
   ·omega
   ·omega
   ·omega
   ·omega
   ·omega
   ·omega
   ·exact hF y e
theorem GV:VI 134 "Has" 123:=by intro p c W h;unfold method;obtain⟨m,h1,h2,h3,h4⟩:=wC Tryz.t134.methods "Has" [⟨196,0,true⟩] 123 (by kernel_rfl);exact vZ
theorem Cq:VI 134 "Entry" 121:=by intro p c W h;unfold method;obtain⟨m,h1,h2,h3,h4⟩:=wC Tryz.t134.methods "Entry" [⟨196,0,true⟩] 121 (by kernel_rfl);exact vZ
theorem SY:MI 134 "Make" 212:=λ_ _=>by kernel_rfl
theorem Ko:MI 134 "Insert" 211:=λ_ _=>by kernel_rfl
theorem Yc:MI 134 "Min" 214:=λ_ _=>by kernel_rfl
theorem IV:MI 134 "Extract" 210:=λ_ _=>by kernel_rfl
theorem Gh:MI 134 "Decrease" 208:=λ_ _=>by kernel_rfl
theorem yN{w w':World}{p:Nat}{F S:List Nat}{A:NS}{st:Nat}{G:FG}(h:sP w p F A st G)(hu:ae S w w')(hS:∀x,x∈S->x∉F):sP w' p F A st G:=h.upd hu hS
theorem adO{w:World}{p:Nat}{F:List Nat}{A:NS}{st:Nat}{G:FG}(h:sP w p F A st G):∀x,x∈F->x<w.heap.size:=h.lt
theorem Ur{w:World}{p:Nat}{F:List Nat}{A:NS}{st:Nat}{G:FG}(h:sP w p F A st G):A.Ok:=h.ok
theorem Na{w:World}{p:Nat}{F:List Nat}{A:NS}{st:Nat}{G:FG}(h:sP w p F A st G):∃c F1,w.cell? ⟨p,0,none⟩=some (.pointer (some ⟨c,0,none⟩))/\aF w c F1 A st:=by
 obtain⟨c,F1,h0,hC, -⟩:=h.cl;exact⟨c,F1,h0,hC⟩
def FbQ(w:World)(p:Nat)(F:List Nat)(A:NS):Prop:=∃st G,sP w p F A st G
noncomputable def wU:NestQ where
 ty:=134
 at_:=FbQ
 upd:=λh hu hS=>by
  obtain⟨st,G,hL⟩:=h;exact⟨st,G,yN hL hu hS⟩
 lt:=λh=>by
  obtain⟨st,G,hL⟩:=h;exact adO hL
 ok:=λh=>by
  obtain⟨st,G,hL⟩:=h;exact Ur hL
 make:=λ{w p F A} h=>by
  obtain⟨st,G,hL⟩:=h;refine aJ 212 (λ_ _=>by kernel_rfl) (SY _) (λW hW=>?_);refine(QD (yN hL hW σ)).mono ?_;rintro e w' ⟨rfl,F',hA,hu,hf⟩;exact⟨rfl,F',⟨_,_,hA⟩,hu,hf⟩
 insert:=λ{w p F A} g y k s hk hB h=>by
  obtain⟨st,G,hL⟩:=h;refine aJ 211 (λ_ _=>by kernel_rfl) (Ko _) (λW hW=>?_);refine(G9 (yN hL hW σ) g y k s hk hB).mono ?_;rintro e w' ⟨rfl,F',hA,hu,hf⟩;exact⟨rfl,F',⟨_,_,hA⟩,hu,hf⟩
 min:=λ{w p F A} y hB h=>by
  obtain⟨st,G,hL⟩:=h;refine aJ 214 (λ_ _=>by kernel_rfl) (Yc _) (λW hW=>?_);have jG:=yN hL hW σ;have hok:=Ur hL;have h4:=(aC _ _).1 hB;have h5:=hok.h1;refine(Ho jG (y:Int) ω).mono ?_;rintro e w' ⟨rfl,rfl⟩;exact⟨rfl,Goes.stay ⟨_,_,jG⟩ (ae.refl _ _)⟩
 extract:=λ{w p F A} y m hm h=>by
  obtain⟨st,G,hL⟩:=h;refine aJ 210 (λ_ _=>by kernel_rfl) (IV _) (λW hW=>?_);have jG:=yN hL hW σ;have e2:sH A (y:Int)=bg A (m:Int):=by unfold sH;rw[hm]
  have hok:=Ur hL;obtain⟨m1,m2,m3,m4⟩:=lH hm;have hB:aY A (y:Int)=true:=by rw[←m3];have:=iL hok m4;simpa using this
  have h4:=(aC _ _).1 hB;have h5:=hok.h1;have k:=xX jG (y:Int) ω;rw[e2,hm] at k;refine k.mono ?_;rintro e w' ⟨rfl,F',hA,hu,hf⟩;exact⟨rfl,F',⟨_,_,hA⟩,hu,hf⟩
 mJ:=λ{w p F A} y k s hk hB h=>by
  obtain⟨st,G,hL⟩:=h;refine aJ 208 (λ_ _=>by kernel_rfl) (Gh _) (λW hW=>?_);have jG:=yN hL hW σ;have hin:=ry hB;have hi:=(aj _ _).1 hin;obtain⟨hh,hxh⟩:∃hh:Nat,(A.c y).i=hh:=⟨(A.c y).i.toNat,ω⟩;refine(Sq jG y k s hk hB hxh).mono ?_;rintro e w' ⟨rfl,F',hA,hu,hf⟩;exact⟨rfl,F',⟨_,_,hA⟩,hu,hf⟩
 has:=λx h=>by
  obtain⟨st,G,hL⟩:=h;obtain⟨c,F1,h0,hC⟩:=Na hL;exact dQ 123 (λ_ _=>by kernel_rfl) h0 (GV _ _) (λW hW=>jr (hC.ag hW) x)
 entry:=λ{w p F A} x h=>by
  obtain⟨st,G,hL⟩:=h;obtain⟨c,F1,h0,hC⟩:=Na hL;refine dQ 121 (λ_ _=>by kernel_rfl) h0 (Cq _ _) (λW hW=>?_);cases hin:bY A x with
  |false=>simpa using l9 (hC.ag hW) x hin
  |true=>
   obtain⟨y,rfl⟩:=rC hin;simpa using jT (hC.ag hW) y hin
theorem LY(p:Nat)(w:World):Calls prog 63 #[.pointer (some ⟨p,0,none⟩),.int .i64 0] w λe w'=>e=.returned (.tuple #[.iface 134 (.pointer (some ⟨p,0,none⟩)),.int .i64 0])/\w'=w:=by
 go_enter func63,ntmps63
 go_wp2;go_ret2;exact⟨rfl,rfl⟩
theorem GM(n:Nat)(hn:n<=65536):o9 wU 5 0 n:=by
 intro w;have kn:=λW=>SK n W hn;have km:=LY;have hty:wU.ty=134:=rfl;have hat:∀w' p FF,sP w' p FF (NS.new n) 0 FG.none->wU.at_ w' p FF (NS.new n)/\Ih w' p n:=λw' p FF h=>⟨⟨_,_,h⟩,Na h⟩
 generalize wU=K at *;rw[hty]
 go_enter func35,ntmps35
 go_wp2_with (first
  |((go_at_call 64;(with_reducible refine(kn _).mono ?_));rintro e w1 ⟨pn,FF,rfl,hS,hu1,hf⟩)
  |((go_at_call 63;(with_reducible refine(km _ _).mono ?_));rintro e w2 ⟨rfl,rfl⟩)
  | fail)
 go_ret2;exact⟨pn,FF,rfl,(hat _ _ _ hS).1,(hat _ _ _ hS).2,ae.trans β hu1,λx hx=>by have:=hf x hx;simp at this;omega⟩
end Go.Proofs.YtnpdakpagnpanaaGreat
