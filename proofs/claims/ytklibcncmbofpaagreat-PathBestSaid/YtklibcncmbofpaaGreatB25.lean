/-
  Lemmas for PathBest: Fb2, FbI, FbT. Conditions: those of each lemma.
-/
import Derived.Deep.RegionHeldLaw
import Derived.Deep.RegionLaw
import Derived.Test.YtklibcncmbofpaaGreatB24
set_option linter.all false
set_option maxHeartbeats 8000000
set_option maxRecDepth 10000
namespace Go.Proofs.YtklibcncmbofpaaGreat
open Go Go.RowKit
section
variable {w:World} {B:FB} {F:List Nat} {gt ct:Nat} {A:NS} {st:Nat} {G:FG}
theorem I6 (R:Nat->List Nat) (m h:Nat) (l:List Nat) (e:mX l=mX (R h)):jB (az R h l) m=jB R m:=by
 unfold jB az;refine List.map_congr_left (fun i _=>?_)
 by_cases hi:i=h
 ·rw [if_pos hi,e,hi]
 ·rw [if_neg hi]
theorem fI.Su (h:fI w B F gt ct A st G) (q:Nat) (l:List Nat) (e:mX l=mX (G.R q)):fI w B F gt ct A st { G with R:=az G.R q l }:=
 ⟨h.head,h.cells,h.rings,h.pl,by rw [I6 G.R _ q l e];exact h.ak,h.d1,h.d2,h.d3⟩
theorem CQ (M:fI w B F gt ct A st G) {q x:Nat} (r:List Nat) (hq:q<A.hs.length) (hx:bX A (x:Int)=true) (ht:∀t s,G.R q=t::s->bX A (t:Int)=true) :
  Calls Tryz.prog 230 #[.pointer (some ⟨B.n0,0,none⟩),.int .i64 (q:Int),.int .i64 (x:Int)] w fun e w'=>e=.returned (.tuple #[])/\
   fI w' B F gt ct A (bZ st (sW q G)) (iW (fun a b=>decide (cZ A a b)) q (x::r) G)/\aa [B.c,B.bn,B.bp,gt] w w':=by
 have hst:=M.cells.pI;have h3:=M.h3;have ht0:=M.top hq;have hf0:=M.ak.free q;have hcap:=M.cap;have hqI:(q:Int)<(A.hs.length:Int):=ω;have hqb:q<65537:=by have:=M.cells.ok.h1;omega
 have hlb:=M.cells.ok.h1;cases hR:G.R q with
 | nil=>
  rw [hR] at ht0;have eq:sW q G=0:=by unfold sW;rw [if_pos hR]
  have eg:iW (fun a b=>decide (cZ A a b)) q (x::r) G={ G with R:=az G.R q (x::r) }:=by unfold iW;rw [hR]
  rw [eq,eg,gL hst];have HM:=χ (M.iV q (x::r));have hgl:=M.lt gt (by simp [FB.blk]);clear M hR eq eg hx ht;unfold mX at ht0;generalize YU:A.hs.length=hl at *
  go_enter Tryz.func230,Tryz.ntmps230
  go_wp2;refine bodyPost_ret (v:=.tuple #[]) (by simp [results,Tryz.results230,go_sem]) rfl ?_;exact ⟨rfl,HM.out,(aa.refl _ _).setCell (Or.inl σ) _⟩
 | cons t s=>
  have htt:=ht t s hR;obtain ⟨hx1,hx2⟩:=(ai _ _).1 hx;obtain ⟨ht1,ht2⟩:=(ai _ _).1 htt;rw [hR] at ht0;have eq:sW q G=1:=by unfold sW;rw [if_neg (by rw [hR];simp)]
  have eg:iW (fun a b=>decide (cZ A a b)) q (x::r) G={ Np G t x with R:=az G.R q (vV (decide (cZ A x t)) (t::s) (x::r)) }:=by unfold iW;rw [hR]
  rw [eq,eg];have ks:=fun W (hW:aa [] w W)=>lC (M.rings.aA hW) ht1 hx1;obtain ⟨g1,g2,g3,g4,g5,g6,g7⟩:=M.d3;obtain ⟨e1,e2,e3,e4,e5⟩:=M.d2;have m:∀x,x≠B.bn->x≠B.bp->x∉[B.bn,B.bp]:=fun x h1 h2=>by simp [h1,h2]
  have r1:∀W,aa [B.bn,B.bp] w W->W.cell? ⟨B.n0,1,none⟩=some (.pointer (some ⟨B.br,0,none⟩)):=fun W hW=>hW.kept M.h1 (m _ e2 e3);have r3:∀W,aa [B.bn,B.bp] w W->W.cell? ⟨B.n0,3,none⟩=some (.slice (some ⟨gt,0,none⟩) A.hs.length ct):=fun W hW=>hW.kept M.h3 (m _ e2 e3);have rt:∀W,aa [B.bn,B.bp] w W->W.cell? ⟨gt,q,none⟩=some (.int .i64 (t:Int)):=fun W hW=>hW.kept ht0 (m _ g6 g7);have ht0':w.cell? ⟨gt,q,none⟩=some (.int .i64 (t:Int)):=ht0;have htn:((t:Int) == -1)=false:=σ;have HM:=χ M;have HR:=χ hR;clear M hR eq eg ht ht0;generalize YU:A.hs.length=hl at *
  go_enter Tryz.func230,Tryz.ntmps230
  go_wp2
  go_region_held3 (aa [B.bn,B.bp] w) (exact ν)
   (first
    | ((go_at_call 233;(with_reducible refine (ks _ β).mono ?_));rintro e w1 ⟨rfl,FX,hu1⟩;(have hu2:aa [B.bn,B.bp] w w1:=aa.trans ν hu1)))
  have hM1:=HM.out.dG hu2 FX;have kc:=fun W (hW:aa [] w1 W)=>fF (hM1.cells.aA hW) x t hx htt;have c1:=hM1.cn;have mc:∀x,x≠B.c->x∉[B.c]:=fun x h1=>by simp [h1]
  have r0:∀W,aa [B.c] w1 W->W.cell? ⟨B.n0,0,none⟩=some (.pointer (some ⟨B.c,0,none⟩)):=fun W hW=>hW.kept hM1.h0 (mc _ c1.1);have r3':∀W,aa [B.c] w1 W->W.cell? ⟨B.n0,3,none⟩=some (.slice (some ⟨gt,0,none⟩) hl ct):=fun W hW=>by rw [←YU];exact hW.kept hM1.h3 (mc _ c1.1)
  have rt':∀W,aa [B.c] w1 W->W.cell? ⟨gt,q,none⟩=some (.int .i64 (t:Int)):=fun W hW=>hW.kept (rt _ hu2) (mc _ c1.2.2.2.2.2);have rf':∀W,aa [B.c] w1 W->W.frozen? ⟨gt,q,none⟩=false:=fun W hW=>hW.aR (rt _ hu2) (mc _ c1.2.2.2.2.2) (hu2.aR ht0' (m _ g6 g7) hf0);have jZ:=χ (ψ hM1 hu2);clear hM1 ks r1 r3 rt ht0' hu2 FX hu1 HM hf0;obtain ⟨b,hb⟩:∃b,decide (cZ A x t)=b:=⟨_,rfl⟩;rw [hb] at kc;have HBB:=χ hb;clear hb;go_wp2
  go_region_held3 (aa [B.c] w1) (exact ν)
   (first
    | ((go_at_call 174;(with_reducible refine (kc _ β).mono ?_));rintro e w2 ⟨rfl,hC2,hu3⟩;(have iC:aa [B.c] w1 w2:=aa.trans ν hu3)))
  have d0:=r0 _ iC;have d3:=r3' _ iC;have dt:=rt' _ iC;have df:=rf' _ iC;have hM2:=jZ.out.1.setSt iC hC2;have hU:aa [B.c,B.bn,B.bp,gt] w w2:=(jZ.out.2.mono σ).trans (iC.mono σ);cases b with
  | false=>
   have HF:=χ (ψ hM2 hU);clear hM2 hU r0 r3' rt' rf' kc iC hC2 hu3;go_wp2;go_end0;rw [HBB.out];exact ⟨rfl,HF.out.1.Su q (t::r++x::s) (by rw [show ({ G with nx:=dK G.nx t x,pv:=jO G.nx G.pv t x }:FG).R q=t::s from HR.out];rfl),HF.out.2⟩
  | true=>
   have HF:=χ (ψ hM2 hU);clear hM2 hU r0 r3' rt' rf' kc iC hC2 hu3;go_wp2;go_end0;rw [HBB.out];exact ⟨rfl,HF.out.1.iV q (x::s++t::r),HF.out.2.setCell (Or.inl σ) _⟩
theorem fI.under (M:fI w B F gt ct A st G) (x y:Nat) (l:List Nat) (v d:Int) (hv:v=mX l) (hd:d=(l.length:Int)) :
  fI ((((w.setCell ⟨B.bl,x*4+1,none⟩ (.int .i64 v)).setCell ⟨B.bl,x*4+2,none⟩ (.int .i64 d)).setCell ⟨B.bl,y*4,none⟩ (.int .i64 (x:Int))).setCell ⟨B.bl,y*4+3,none⟩ (.bool false)) B F gt ct A st { G with up:=az G.up y x,mr:=az G.mr y false,K:=az G.K x l }:=by
 refine M.Kv ν ?_;unfold oo;simp only [EM,kg,←hv,←hd];exact pX (rT (sS (qx M.pl x v) x d) y x) y false
theorem zO (M:fI w B F gt ct A st G) {x y:Nat} (hx:x<A.cs.length) (hy:y<A.cs.length) (hk:∀k t,G.K x=k::t->k<A.cs.length) (hl:(G.K x).length<=65536) :
  Calls Tryz.prog 235 #[.pointer (some ⟨B.n0,0,none⟩),.int .i64 (y:Int),.int .i64 (x:Int)] w fun e w'=>e=.returned (.tuple #[])/\
   fI w' B F gt ct A st (dY G y x)/\aa [B.bn,B.bp,B.bl] w w':=by
 have hc1:=M.cells.ok.c1;have h2:=M.h2;have CR:(x:Int)<(A.cs.length:Int):=ω;have ZM:(y:Int)<(A.cs.length:Int):=ω;have K6:=M.p1 hx;have ZJ:=M.p2 hx;have py0:=M.p0 hy;have py3:=M.p3 hy;have fx1:=M.pl.free (x*4+1);have fx2:=M.pl.free (x*4+2);have fy0:=M.pl.free (y*4);have fy3:=M.pl.free (y*4+3);have hw1:IntKind.i64.wrap (((G.K x).length:Int)+1)=((G.K x).length:Int)+1:=IntWalk.i64_in _ ω;cases hK:G.K x with
 | nil=>
  rw [hK] at K6 ZJ hw1;unfold mX at K6;have eg:dY G y x={ G with up:=az G.up y x,mr:=az G.mr y false,K:=az G.K x [y] }:=by unfold dY;rw [hK]
  rw [eg];have HM:=χ M;clear M eg hK hk;generalize hcl:A.cs.length=n at *;simp only [List.length_nil] at ZJ hw1
  go_enter Tryz.func235,Tryz.ntmps235
  go_wp2
  go_region
  go_wp2;go_end0;exact ⟨rfl,(HM.out.under x y [y] y 1 rfl rfl).drewN 1,ν⟩
 | cons k t=>
  have hkn:=hk k t hK;rw [hK] at K6 ZJ hw1 hl;simp only [List.length_cons] at ZJ hw1 hl;unfold mX at K6;have eg:dY G y x={ Np G k y with up:=az G.up y x,mr:=az G.mr y false,K:=az G.K x (y::(t++[k])) }:=by unfold dY;rw [hK]
  rw [eg];have ks:=fun W (hW:aa [] w W)=>lC (M.rings.aA hW) hkn hy;obtain ⟨g1,g2,g3,g4,g5,g6,g7⟩:=M.d3;obtain ⟨e1,e2,e3,e4,e5⟩:=M.d2;have m:∀x,x≠B.bn->x≠B.bp->x∉[B.bn,B.bp]:=fun x h1 h2=>by simp [h1,h2]
  have r1:∀W,aa [B.bn,B.bp] w W->W.cell? ⟨B.n0,1,none⟩=some (.pointer (some ⟨B.br,0,none⟩)):=fun W hW=>hW.kept M.h1 (m _ e2 e3);have rx:∀W,aa [B.bn,B.bp] w W->W.cell? ⟨B.bl,x*4+1,none⟩=some (.int .i64 (k:Int)):=fun W hW=>hW.kept K6 (m _ g2 g3);have hkk:((k:Int) == -1)=false:=σ;have HM:=χ M;have hx2:=fun W (hW:aa [B.bn,B.bp] w W)=>hW.kept ZJ (m _ g2 g3);have hy0:=fun W (hW:aa [B.bn,B.bp] w W)=>hW.kept py0 (m _ g2 g3);have hy3:=fun W (hW:aa [B.bn,B.bp] w W)=>hW.kept py3 (m _ g2 g3);have hf1:=fun W (hW:aa [B.bn,B.bp] w W)=>hW.aR K6 (m _ g2 g3) fx1
  have hf2:=fun W (hW:aa [B.bn,B.bp] w W)=>hW.aR ZJ (m _ g2 g3) fx2;have hg0:=fun W (hW:aa [B.bn,B.bp] w W)=>hW.aR py0 (m _ g2 g3) fy0;have hg3:=fun W (hW:aa [B.bn,B.bp] w W)=>hW.aR py3 (m _ g2 g3) fy3;have px1':w.cell? ⟨B.bl,x*4+1,none⟩=some (.int .i64 (k:Int)):=K6;have H2:=χ (ψ hx2 (ψ hy0 (ψ hy3 (ψ hf1 (ψ hf2 (ψ hg0 hg3))))));clear M eg hK hk hx2 hy0 hy3 hf1 hf2 hg0 hg3 K6 ZJ py0 py3 fx1 fx2 fy0 fy3;generalize hcl:A.cs.length=n at *;generalize htl:t.length=tl at *;have hdz:((tl:Int)+1+1)=(((y::(t++[k])).length:Nat):Int):=by first|(simp [htl];done)|(simp [htl];omega)
  have HDZ:=χ hdz;clear hdz htl
  go_enter Tryz.func235,Tryz.ntmps235
  go_wp2
  go_region
  go_wp2
  go_region_held3 (aa [B.bn,B.bp] w) (exact ν)
   (first
    | ((go_at_call 233;(with_reducible refine (ks _ β).mono ?_));rintro e w1 ⟨rfl,FX,hu1⟩;(have hu2:aa [B.bn,B.bp] w w1:=aa.trans ν hu1)))
  have q1:=rx _ hu2;obtain ⟨q2,q3,q4,q5,q6,q7,q8⟩:=H2.out;have q2:=q2 _ hu2;have q3:=q3 _ hu2;have q4:=q4 _ hu2;have q5:=q5 _ hu2;have q6:=q6 _ hu2;have q7:=q7 _ hu2;have q8:=q8 _ hu2;have hR1':yj w1 B.br B.bn B.bp A.cs.length (dK G.nx k y) (jO G.nx G.pv k y):=by rw [hcl];exact FX
  have hM1:=HM.out.dG hu2 hR1';have HF:=χ (ψ hM1 hu2);clear hM1 hu2 FX hR1' hu1 ks r1 rx px1' HM H2;go_wp2;go_end0;have hU:aa [B.bn,B.bp,B.bl] w w1:=HF.out.2.mono (fun z hz=>by simp at hz;rcases hz with rfl|rfl<;>simp);exact ⟨rfl,HF.out.1.under x y (y::(t++[k])) y _ rfl HDZ.out,ν⟩
theorem fI.Zl (M:fI w B F gt ct A st G) (x:Nat) :
  fI ((((w.setCell ⟨B.bl,x*4,none⟩ (.int .i64 (-1))).setCell ⟨B.bl,x*4+1,none⟩ (.int .i64 (-1))).setCell ⟨B.bl,x*4+2,none⟩ (.int .i64 0)).setCell ⟨B.bl,x*4+3,none⟩ (.bool false)) B F gt ct A st { G with up:=az G.up x (-1),mr:=az G.mr x false,K:=az G.K x [] }:=by
 refine M.Kv ν ?_;unfold oo;simp only [EM,kg];exact pX (sS (qx (rT M.pl x (-1)) x (-1)) x 0) x false
def DK (l:List Nat) (up:Nat->Int):Nat->Int:=fun z=>if z∈l then -1 else up z
def D5 (l:List Nat) (mr:Nat->Bool):Nat->Bool:=fun z=>if z∈l then false else mr z
theorem RU (l:List Nat) (x:Nat) (up:Nat->Int):az (DK l up) x (-1)=DK (l++[x]) up:=by
 funext z;unfold az DK
 by_cases e:z=x
 ·rw [if_pos e,if_pos (by simp [e])]
 ·rw [if_neg e];simp [e]
theorem TV (l:List Nat) (x:Nat) (mr:Nat->Bool):az (D5 l mr) x false=D5 (l++[x]) mr:=by
 funext z;unfold az D5
 by_cases e:z=x
 ·rw [if_pos e,if_pos (by simp [e])]
 ·rw [if_neg e];simp [e]
theorem Qm (up:Nat->Int):DK [] up=up:=by funext z;unfold DK;simp
theorem Qy (mr:Nat->Bool):D5 [] mr=mr:=by funext z;unfold D5;simp
theorem JF (M:fI w B F gt ct A st G) {x:Nat} (hx:x<A.cs.length) (hr:Ring G.nx (G.K x)) (hk:∀z,z∈G.K x->z<A.cs.length) :
  Calls Tryz.prog 226 #[.pointer (some ⟨B.n0,0,none⟩),.int .i64 (x:Int)] w fun e w'=>e=.returned (.tuple #[])/\
   fI w' B F gt ct A st (dO G x)/\aa [B.bn,B.bp,B.bl] w w':=by
 have hc1:=M.cells.ok.c1;have h2:=M.h2;have CR:(x:Int)<(A.cs.length:Int):=ω;have K6:=M.p1 hx;cases hK:G.K x with
 | nil=>
  rw [hK] at K6;unfold mX at K6;have eg:dO G x=G:=by unfold dO;rw [hK]
  rw [eg];have HM:=χ M;clear M eg hK hk hr;generalize hcl:A.cs.length=n at *
  go_enter Tryz.func226,Tryz.ntmps226
  go_wp2;refine bodyPost_ret (v:=.tuple #[]) (by simp [results,Tryz.results226,go_sem]) rfl ?_;exact ⟨rfl,HM.out,aa.refl _ _⟩
 | cons k t=>
  rw [hK] at K6 hr hk;have px1':w.cell? ⟨B.bl,x*4+1,none⟩=some (.int .i64 (k:Int)):=K6;have eg:dO G x={ Np G x k with up:=az (DK (k::t) G.up) x (-1),mr:=az (D5 (k::t) G.mr) x false,K:=az G.K x [] }:=by unfold dO;rw [hK];rfl
  rw [eg];have hkk:((k:Int) == -1)=false:=σ;have h1:=M.h1;have kall:=Fw M.rings hr hk;have hlen:(k::t).length<=A.cs.length:=jM A.cs.length (k::t) hr.nd hk;have hkn:k<A.cs.length:=hk k σ;have HM:=χ (ψ M hk);clear M eg hK hk K6 hr;generalize hcl:A.cs.length=n at *
  go_enter Tryz.func226,Tryz.ntmps226
  go_wp2_with (first
   | ((go_at_call 227;(with_reducible refine (kall).mono ?_));rintro e w1 ⟨v1,rfl,ho1,hu1⟩;rw [←mQ] at ho1;obtain ⟨g,cap,rfl,hZ,hb⟩:=IZ.iY ho1 (by simp [pM]);rw [mQ] at *)
   | fail)
  obtain ⟨g1,g2,g3,g4,g5,g6,g7⟩:=HM.out.1.d3;obtain ⟨e1,e2,e3,e4,e5⟩:=HM.out.1.d2;have hlt:=HM.out.1.lt;have lbl:=hlt B.bl (by simp [FB.blk]);have hM1:=HM.out.1.aA hu1;have hM1':fI w1 B F gt ct A st { G with up:=DK ((k::t).take 0) G.up,mr:=D5 ((k::t).take 0) G.mr,K:=G.K }:=by rw [List.take_zero,Qm,Qy];exact hM1
  have jZ:=χ (ψ hM1' (ψ hu1 hZ));have hgl:=hZ.lt;have hgb:g≠B.bl:=ω;clear hM1 hM1' hu1 hZ ho1 hlt kall h1 h2;have hll:(k::t).length=t.length+1:=rfl;rw [hll] at hlen;generalize htl:t.length=tl at *;obtain ⟨len,WZ⟩:∃len,tl+1=len:=⟨_,rfl⟩;have hlI:(tl:Int)+1=(len:Int):=ω;rw [WZ] at hll hlen ⊢;rw [hlI];clear hlI htl WZ
  go_loopw [24] (fun s24 wr=>∃j:Nat,j<=len/\s24=.int .i64 (j:Int)/\fI wr B F gt ct A st { G with up:=DK ((k::t).take j) G.up,mr:=D5 ((k::t).take j) G.mr,K:=G.K }/\IZ wr g cap (pM (k::t))/\aa [B.bl] w wr) (fun s24 _=>len-(intOf s24).toNat)
  case atStart=>exact ⟨0,ω,rfl,jZ.out.1,jZ.out.2.2,jZ.out.2.1.mono σ⟩
  case round=>
   obtain ⟨j,hj,rfl,xm,hZr,hur⟩:=hrel;rename World=>wr
   by_cases hjl:j<len
   ·obtain ⟨z,hz⟩:∃z,(k::t)[j]?=some z:=⟨_,ε ω⟩;have hzn:z<n:=hcl▸HM.out.2 z (List.mem_of_getElem? hz);have hc:=hZr.cell j (by rw [mQ];omega);have hgz:(pM (k::t)).getD j 0=(z:Int):=by unfold pM;rw [φ,List.getElem?_map,hz];rfl
    rw [hgz] at hc;have q2:=xm.h2;rw [hcl] at q2;have p0:=xm.p0 (x:=z) (by rw [hcl];exact hzn);have p3:=xm.p3 (x:=z) (by rw [hcl];exact hzn);have f0:=xm.pl.free (z*4);have f3:=xm.pl.free (z*4+3);have hzI:(z:Int)<(n:Int):=ω;have Xi:(j:Int)<(len:Int):=ω;have hw1:IntKind.i64.wrap ((j:Int)+1)=(j:Int)+1:=IntWalk.i64_in _ ω;have et:(k::t).take (j+1)=(k::t).take j++[z]:=by rw [List.take_add_one,hz];rfl
    have HR:=χ (ψ xm (ψ hZr (ψ hur et)));clear xm hZr hur et hz hgz;go_wp2
    go_region
    go_wp2;obtain ⟨xm,hZr,hur,et⟩:=HR.out;refine ⟨⟨j+1,ω,by go_num,?_,(hZr.upd ((aa.refl [B.bl] wr).setCell (Or.inl σ) _) (by simpa using hgb)).upd (((aa.refl [B.bl] _).setCell (Or.inl σ) _).drew) (by simpa using hgb),ν⟩,by simp [intOf];omega⟩;rw [et,←RU,←TV];refine (xm.Kv (up:=az (DK ((k::t).take j) G.up) z (-1)) (mr:=az (D5 ((k::t).take j) G.mr) z false) (K:=G.K) ν ?_).drewN 1;exact pX (rT xm.pl z (-1)) z false
   ·obtain rfl:j=len:=ω;have et:(k::t).take j=k::t:=List.take_of_length_le ω;rw [et] at xm;have ks:=fun W (hW:aa [] wr W)=>lC (xm.rings.aA hW) (x:=x) (y:=k) (by rw [hcl];exact hx) (by rw [hcl];exact hkn);have q1:=xm.h1;have q2:∀W,aa [B.bn,B.bp] wr W->W.cell? ⟨B.n0,2,none⟩=some (.slice (some ⟨B.bl,0,none⟩) n n):=fun W hW=>by
     have:=hW.kept xm.h2 (by simp;exact ⟨e2,e3⟩);rwa [hcl] at this
    have p0:=fun W (hW:aa [B.bn,B.bp] wr W)=>hW.kept (xm.p0 (x:=x) (by rw [hcl];exact hx)) (by simp;exact ⟨g2,g3⟩);have p1:=fun W (hW:aa [B.bn,B.bp] wr W)=>hW.kept (xm.p1 (x:=x) (by rw [hcl];exact hx)) (by simp;exact ⟨g2,g3⟩);have p2:=fun W (hW:aa [B.bn,B.bp] wr W)=>hW.kept (xm.p2 (x:=x) (by rw [hcl];exact hx)) (by simp;exact ⟨g2,g3⟩);have p3:=fun W (hW:aa [B.bn,B.bp] wr W)=>hW.kept (xm.p3 (x:=x) (by rw [hcl];exact hx)) (by simp;exact ⟨g2,g3⟩);have HR:=χ (ψ xm (ψ hur (ψ p0 (ψ p1 (ψ p2 p3)))));clear xm hZr hur et p0 p1 p2 p3 HM jZ
    go_wp2_with (first
     | ((go_at_call 233;(with_reducible refine (ks _ β).mono ?_));rintro e w2 ⟨rfl,hR2,hu2⟩;(have q3:=q2 _ hu2))
     | fail)
    obtain ⟨xm,hur,p0,p1,p2,p3⟩:=HR.out;have p0:=p0 _ hu2;have p1:=p1 _ hu2;have p2:=p2 _ hu2;have p3:=p3 _ hu2;have f0:=(xm.dG hu2 hR2).pl.free (x*4);have f1:=(xm.dG hu2 hR2).pl.free (x*4+1);have f2:=(xm.dG hu2 hR2).pl.free (x*4+2);have f3:=(xm.dG hu2 hR2).pl.free (x*4+3);have hb2:B.bl<w2.heap.size:=(xm.dG hu2 hR2).lt _ (by simp [FB.blk]);have nI:=χ (xm.dG hu2 hR2);have HU:=χ (ψ hur hu2);clear xm hR2 hur hu2 ks q1 q2 HR
    go_region_with (first
     | ((go_at_call 111;(with_reducible refine (AU _).mono ?_));rintro e w3 ⟨rfl,hu3⟩;(have hv:aa [] w2 w3:=aa.trans β hu3);(have v0:=hv.was p0);(have v1:=hv.was p1);(have v2:=hv.was p2);(have v3:=hv.was p3);(have v4:=hv.was q3);(have z0:=hv.aR p0 σ f0);(have z1:=hv.aR p1 σ f1);(have z2:=hv.aR p2 σ f2);(have z3:=hv.aR p3 σ f3))
     | fail)
    all_goals
     go_wp2;go_end0;have hU:aa [B.bn,B.bp,B.bl] w w3:=((HU.out.1.mono σ).trans (HU.out.2.mono (fun z hz=>by simp at hz;rcases hz with rfl|rfl<;>simp))).trans (hv.mono σ);exact ⟨rfl,(nI.out.aA hv).Zl x,ν⟩
end
end Go.Proofs.YtklibcncmbofpaaGreat
namespace Go.Proofs.YtklibcncmbofpaaGreat
def few (G:FG) (ex:Nat->Nat) (l:List Nat) (d:Nat):Nat:=(l.filter (fun c=>decide ((G.K c).length+(if G.mr c then 1 else 0)+ex c<d))).length
structure FF (n:Nat) (G:FG) (bO:Nat->Int) (L:Nat->Nat->Prop) (ex:Nat->Nat):Prop where
 rg:Rg n G.nx G.pv
 kid:∀x y,x<n->y∈G.K x->y<n/\G.up y=x
 FQ:∀y,y<n->G.up y=-1\/∃p:Nat,p<n/\G.up y=p/\y∈G.K p
 ring:∀x,x<n->Ring G.nx (G.K x)
 home:∀y p:Nat,y<n->G.up y=p->bO y=bO p/\0<bO y
 ord:∀y p:Nat,y<n->G.up y=p->L p y
 alone:∀y,y<n->¬0<bO y->G.up y=-1/\G.K y=[]/\G.nx y=y
 free:∀y,y<n->G.up y=-1->G.mr y=false
 cnt:∀x d,x<n->few G ex (G.K x) d<=d
structure FR (n:Nat) (G:FG) (bO:Nat->Int) (L:Nat->Nat->Prop) (g:Option Nat):Prop where
 ring:∀h,some h≠g->Ring G.nx (G.R h)
 mem:∀h y:Nat,some h≠g->(y∈G.R h↔1<=h/\y<n/\G.up y=-1/\bO y=h)
 top:∀h t s,some h≠g->G.R h=t::s->∀y,y∈s->L t y
section
variable {n:Nat} {G:FG} {bO:Nat->Int} {L:Nat->Nat->Prop} {ex:Nat->Nat}
theorem FF.OI (H:FF n G bO L ex) {x:Nat} (hx:x<n):(G.K x).length<=n:=jM n _ (H.ring x hx).nd (fun y hy=>(H.kid x y hx hy).1)
theorem FF.above (H:FF n G bO L ex) {y p:Nat} (hy:y<n) (h:G.up y=p):p<n/\y∈G.K p:=by
 rcases H.FQ y hy with h1|⟨q,hq,h1,h2⟩
 ·omega
 ·obtain rfl:p=q:=ω;exact ⟨hq,h2⟩
theorem Zp (G:FG) (ex:Nat->Nat) (l:List Nat) (d:Nat):few G ex l d<=l.length:=List.length_filter_le _ _
theorem Hd (G:FG) (ex:Nat->Nat) {l l':List Nat} (h:l.Perm l') (d:Nat):few G ex l d=few G ex l' d:=(h.filter _).length_eq
theorem tQ {G G':FG} {ex Yg:Nat->Nat} {l:List Nat} (d:Nat) (h:∀c,c∈l->(G'.K c).length+(if G'.mr c then 1 else 0)+Yg c=(G.K c).length+(if G.mr c then 1 else 0)+ex c):few G' Yg l d=few G ex l d:=by
 unfold few
 congr 1
 exact List.filter_congr (fun c hc=>by rw [h c hc])
theorem FU {G G':FG} {ex Yg:Nat->Nat} {l:List Nat} (d:Nat) (h:∀c,c∈l->(G.K c).length+(if G.mr c then 1 else 0)+ex c<=(G'.K c).length+(if G'.mr c then 1 else 0)+Yg c):few G' Yg l d<=few G ex l d:=by
 unfold few
 induction l with
 | nil=>simp
 | cons c t ih=>
  have ih':=ih (fun c hc=>h c (by simp [hc]));have hc:=h c σ
  by_cases h1:(G'.K c).length+(if G'.mr c then 1 else 0)+Yg c<d
  ·have h2:(G.K c).length+(if G.mr c then 1 else 0)+ex c<d:=ω;rw [List.filter_cons_of_pos (by simpa using h1),List.filter_cons_of_pos (by simpa using h2)];simpa using ih'
  ·rw [List.filter_cons_of_neg (by simpa using h1)]
   by_cases h2:(G.K c).length+(if G.mr c then 1 else 0)+ex c<d
   ·rw [List.filter_cons_of_pos (by simpa using h2)];simp only [List.length_cons];omega
   ·rw [List.filter_cons_of_neg (by simpa using h2)];exact ih'
theorem Fh (G:FG) (ex:Nat->Nat) (c:Nat) (l:List Nat) (d:Nat):few G ex (c::l) d=(if (G.K c).length+(if G.mr c then 1 else 0)+ex c<d then 1 else 0)+few G ex l d:=by
 unfold few;rw [List.filter_cons]
 by_cases h:(G.K c).length+(if G.mr c then 1 else 0)+ex c<d
 ·rw [if_pos (by simpa using h),if_pos h];simp;omega
 ·rw [if_neg (by simpa using h),if_neg h];omega
theorem bV {α:Type} (f:Nat->α) (x:Nat) (v:α):az f x v x=v:=by unfold az;rw [if_pos rfl]
theorem bg {α:Type} (f:Nat->α) {x z:Nat} (v:α) (h:z≠x):az f x v z=f z:=by unfold az;rw [if_neg h]
def WJ (l:List Nat) (y:Nat):List Nat:=match l with|[]=>[y]|k::t=>y::(t++[k])
theorem Cq (l:List Nat) (y:Nat):(WJ l y).Perm (y::l):=by
 cases l with
 | nil=>exact List.Perm.refl _
 | cons k t=>exact List.Perm.cons y (List.perm_append_comm (l₁:=t) (l₂:=[k]))
theorem mM (G:FG) (y x:Nat):(dY G y x).up=az G.up y x:=rfl
theorem Aq (G:FG) (y x:Nat):(dY G y x).mr=az G.mr y false:=rfl
theorem qQ (G:FG) (y x:Nat):(dY G y x).K=az G.K x (WJ (G.K x) y):=rfl
theorem uj (G:FG) (y x:Nat):(dY G y x).R=G.R:=by unfold dY;cases G.K x<;>rfl
theorem zq (G:FG) (y x:Nat):(dY G y x).nx=match G.K x with|[]=>G.nx|k::_=>dK G.nx k y:=by unfold dY;cases G.K x<;>rfl
theorem PZ (G:FG) (y x:Nat):(dY G y x).pv=match G.K x with|[]=>G.pv|k::_=>jO G.nx G.pv k y:=by unfold dY;cases G.K x<;>rfl
theorem FF.under (H:FF n G bO L ex) {x y:Nat} (hx:x<n) (hy:y<n) (ux:G.up x=-1) (uy:G.up y=-1) (hne:x≠y) (hh:bO y=bO x) (h0:0<bO x) (hL:L x y) (sy:G.nx y=y) (hd:(G.K y).length=(G.K x).length) (hex:ex y=0) :
  FF n (dY G y x) bO L ex/\(∀z,z<n->z≠y->G.up z=-1->(dY G y x).nx z=G.nx z)/\(∀l:List Nat,Ring G.nx l->y∉l->(∀z,z∈l->z∉G.K x)->Ring (dY G y x).nx l):=by
 have kx:∀a z,a<n->z∈G.K a->z≠x/\z≠y:=fun a z ha hz=>by
  have:=(H.kid a z ha hz).2;exact ⟨fun e=>by subst e;omega,fun e=>by subst e;omega⟩
 have far:∀z,z≠y->z∉G.K x->(dY G y x).nx z=G.nx z:=fun z h1 h2=>by
  rw [zq];cases hK:G.K x with
  | nil=>rfl
  | cons k t=>exact jk (fun e=>h2 (by rw [hK,e];simp)) h1
 have nk:∀z,G.up z=-1->z∉G.K x:=fun z hu hm=>by
  have:=(H.kid x z hx hm).2;omega
 have rl:∀l:List Nat,Ring G.nx l->y∉l->(∀z,z∈l->z∉G.K x)->Ring (dY G y x).nx l:=fun l hr h1 h2=>hr.far (fun z hz=>far z (fun e=>h1 (e▸hz)) (h2 z hz));have mem:∀z,z∈WJ (G.K x) y↔z=y\/z∈G.K x:=fun z=>by rw [(Cq _ _).mem_iff];simp
 refine ⟨⟨?_,fun a z ha hz=>?_,fun z hz=>?_,fun a ha=>?_,fun z p hz hu=>?_,fun z p hz hu=>?_,fun z hz h1=>?_,fun z hz hu=>?_,fun a d ha=>?_⟩,fun z hz h1 h2=>far z h1 (nk z h2),rl⟩
 ·rw [zq,PZ];cases hK:G.K x with
  | nil=>exact H.rg
  | cons k t=>exact H.rg.swap (H.kid x k hx (by rw [hK];simp)).1 hy
 ·rw [qQ] at hz;rw [mM]
  by_cases e:a=x
  ·subst e;rw [bV,mem] at hz;rcases hz with rfl|hz
   ·exact ⟨hy,bV _ _ _⟩
   ·exact ⟨(H.kid a z ha hz).1,by rw [bg _ _ (kx a z ha hz).2];exact (H.kid a z ha hz).2⟩
  ·rw [bg _ _ e] at hz;exact ⟨(H.kid a z ha hz).1,by rw [bg _ _ (kx a z ha hz).2];exact (H.kid a z ha hz).2⟩
 ·rw [mM,qQ]
  by_cases e:z=y
  ·subst e;exact Or.inr ⟨x,hx,bV _ _ _,by rw [bV,mem];exact Or.inl rfl⟩
  ·rw [bg _ _ e];rcases H.FQ z hz with h1|⟨p,hp,h1,h2⟩
   ·exact Or.inl h1
   ·refine Or.inr ⟨p,hp,h1,?_⟩
    by_cases e2:p=x
    ·rw [e2,bV,mem];rw [e2] at h2;exact Or.inr h2
    ·rw [bg _ _ e2];exact h2
 ·rw [qQ]
  by_cases e:a=x
  ·subst e;rw [bV,zq];have hr:=H.ring a ha;cases hK:G.K a with
   | nil=>exact jI.2 sy
   | cons k t=>
    rw [hK] at hr
    have hj:=Ring.join hr (jI.2 sy) (fun z hz hm=>by
     simp at hm;subst hm
     exact (kx a z ha (by rw [hK];exact hz)).2 rfl)
    exact Ring.WK (a:=[k]) (b:=y::t) hj
  ·rw [bg _ _ e]
   exact rl _ (H.ring a ha) (fun hm=>(kx a y ha hm).2 rfl) (fun z hz hm=>e (by
    have:=(H.kid a z ha hz).2;have:=(H.kid x z hx hm).2
    omega))
 ·rw [mM] at hu
  by_cases e:z=y
  ·subst e;rw [bV] at hu;obtain rfl:p=x:=ω;exact ⟨hh,ω⟩
  ·rw [bg _ _ e] at hu;exact H.home z p hz hu
 ·rw [mM] at hu
  by_cases e:z=y
  ·subst e;rw [bV] at hu;obtain rfl:p=x:=ω;exact hL
  ·rw [bg _ _ e] at hu;exact H.ord z p hz hu
 ·have e1:z≠y:=fun e=>h1 (by rw [e,hh];exact h0);have e2:z≠x:=fun e=>h1 (by rw [e];exact h0);obtain ⟨a1,a2,a3⟩:=H.alone z hz h1;exact ⟨by rw [mM,bg _ _ e1];exact a1,by rw [qQ,bg _ _ e2];exact a2,by rw [far z e1 (nk z a1)];exact a3⟩
 ·rw [mM] at hu;rw [Aq]
  by_cases e:z=y
  ·subst e;rw [bV]
  ·rw [bg _ _ e] at hu ⊢;exact H.free z hz hu
 ·have old:∀b:Nat,b<n->few (dY G y x) ex (G.K b) d=few G ex (G.K b) d:=fun b hb=>tQ d (fun c hc=>by
   have:=kx b c hb hc
   rw [qQ,Aq,bg _ _ this.1,bg _ _ this.2])
  by_cases e:a=x
  ·subst e;rw [show (dY G y a).K a=WJ (G.K a) y from bV _ _ _,Hd _ _ (Cq _ _),Fh,old a ha,qQ,Aq,bV,bg _ _ (Ne.symm hne),hex];have h1:=H.cnt a d ha;have h2:=Zp G ex (G.K a) d;simp only [Bool.false_eq_true,if_false,Nat.add_zero]
   split<;>omega
  ·rw [show (dY G y x).K a=G.K a from bg _ _ e,old a ha];exact H.cnt a d ha
end
def kG (T:List Int) (d:Nat):List Int:=T++List.replicate (d+1-T.length) (-1)
def oH (T:List Int):Nat:=(T.filter (fun y=>decide (y≠-1))).length
structure TD where
 T:List Int
 G:FG
 q:Nat
def J9 (lt:Nat->Nat->Bool):Nat->List Int->Nat->FG->Nat->TD
 | 0,T,x,G,q=>⟨T,G,q⟩
 | f+1,T,x,G,q=>
  if (kG T (G.K x).length).getD (G.K x).length (-1)=-1 then ⟨(kG T (G.K x).length).set (G.K x).length x,G,q⟩
  else if lt ((kG T (G.K x).length).getD (G.K x).length (-1)).toNat x then J9 lt f ((kG T (G.K x).length).set (G.K x).length (-1)) ((kG T (G.K x).length).getD (G.K x).length (-1)).toNat (dY G x ((kG T (G.K x).length).getD (G.K x).length (-1)).toNat) (q+1)
  else J9 lt f ((kG T (G.K x).length).set (G.K x).length (-1)) x (dY G ((kG T (G.K x).length).getD (G.K x).length (-1)).toNat x) (q+1)
def tid (lt:Nat->Nat->Bool):List Nat->TD->TD
 | [],D=>D
 | x::rs,D=>tid lt rs (J9 lt (oH D.T+1) D.T x D.G D.q)
theorem DC (T:List Int) (d:Nat):(kG T d).length=max T.length (d+1):=by unfold kG;simp;omega
theorem UM (a b:List Int):oH (a++b)=oH a+oH b:=by unfold oH;simp
theorem Vs (k:Nat):oH (List.replicate k (-1))=0:=by
 unfold oH;rw [List.length_eq_zero_iff,List.filter_eq_nil_iff];intro a ha;have:=List.eq_of_mem_replicate ha;simp [this]
theorem Vd (T:List Int) (d:Nat):oH (kG T d)=oH T:=by unfold kG;rw [UM,Vs];omega
theorem Eh:∀ (T:List Int) (d:Nat) (v u:Int),T[d]?=some u->oH (T.set d v)+(if u=-1 then 0 else 1)=oH T+(if v=-1 then 0 else 1)
 | [],d,v,u,h=>by simp at h
 | a::t,0,v,u,h=>by
  have e:a=u:=by simpa using h
  subst e;have c:∀z:Int,oH (z::t)=(if z=-1 then 0 else 1)+oH t:=fun z=>by
   unfold oH
   by_cases hz:z=-1
   ·rw [List.filter_cons_of_neg (by simpa using hz),if_pos hz];omega
   ·rw [List.filter_cons_of_pos (by simpa using hz),if_neg hz];simp;omega
  show oH (v::t)+_=_
  rw [c,c];omega
 | a::t,d+1,v,u,h=>by
  have ih:=Eh t d v u (by simpa using h);have c:∀l:List Int,oH (a::l)=(if a=-1 then 0 else 1)+oH l:=fun l=>by
   unfold oH
   by_cases hz:a=-1
   ·rw [List.filter_cons_of_neg (by simpa using hz),if_pos hz];omega
   ·rw [List.filter_cons_of_pos (by simpa using hz),if_neg hz];simp;omega
  show oH (a::t.set d v)+_=_
  rw [c,c];omega
def Ao (n:Nat) (G:FG) (bO:Nat->Int) (h:Nat) (z:Nat):Prop:=z<n/\G.up z=-1/\bO z=h
structure TT (n:Nat) (bO:Nat->Int) (L:Nat->Nat->Prop) (h:Nat) (T:List Int) (xs:List Nat) (G:FG):Prop where
 ff:FF n G bO L (fun _=>0)
 fr:FR n G bO L (some h)
 zero:G.R h=[]
 one:∀y,Ao n G bO h y->G.nx y=y
 tab:∀ (d:Nat) (y:Int),T[d]?=some y->y=-1\/∃z:Nat,y=z/\Ao n G bO h z/\(G.K z).length=d/\z∉xs
 nd:xs.Nodup
 xr:∀z,z∈xs->Ao n G bO h z
 all:∀z,Ao n G bO h z->z∈xs\/(z:Int)∈T
section
variable {n:Nat} {bO:Nat->Int} {L:Nat->Nat->Prop} {h:Nat} {T:List Int} {xs:List Nat} {G:FG}
theorem TT.pad (H:TT n bO L h T xs G) (d:Nat):TT n bO L h (kG T d) xs G:=by
 refine ⟨H.ff,H.fr,H.zero,H.one,fun e y hy=>?_,H.nd,H.xr,fun z hz=>(H.all z hz).imp id (fun hm=>by unfold kG;simp [hm])⟩;unfold kG at hy
 by_cases he:e<T.length
 ·rw [List.getElem?_append_left he] at hy;exact H.tab e y hy
 ·rw [List.getElem?_append_right ω] at hy;exact Or.inl (List.eq_of_mem_replicate (List.mem_of_getElem? hy))
theorem rZ (T:List Int) (d:Nat) (v z:Int):z∈T.set d v↔(z=v/\d<T.length)\/∃e,e≠d/\T[e]?=some z:=by
 rw [List.mem_iff_getElem?];constructor
 ·rintro ⟨e,he⟩;rw [List.getElem?_set] at he
  by_cases hd:d=e
  ·rw [if_pos hd] at he
   by_cases hl:d<T.length
   ·rw [if_pos hl] at he;injection he with he;exact Or.inl ⟨he.symm,ω⟩
   ·rw [if_neg hl] at he;cases he
  ·rw [if_neg hd] at he;exact Or.inr ⟨e,fun h'=>hd h'.symm,he⟩
 ·rintro (⟨rfl,hl⟩|⟨e,hne,he⟩)
  ·exact ⟨d,by rw [List.getElem?_set,if_pos rfl,if_pos hl]⟩
  ·exact ⟨e,by rw [List.getElem?_set,if_neg (Ne.symm hne)];exact he⟩
theorem TT.place {x:Nat} {rs:List Nat} (H:TT n bO L h T (x::rs) G) {d:Nat} (hd:(G.K x).length=d) (hT:T[d]?=some (-1)):TT n bO L h (T.set d x) rs G:=by
 have hnd:=List.nodup_cons.1 H.nd;have hdl:d<T.length:=(List.getElem?_eq_some_iff.1 hT).1;refine ⟨H.ff,H.fr,H.zero,H.one,fun e y hy=>?_,hnd.2,fun z hz=>H.xr z (by simp [hz]),fun z hz=>?_⟩
 ·rw [List.getElem?_set] at hy
  by_cases he:d=e
  ·rw [if_pos he,if_pos ω] at hy
   injection hy with hy
   exact Or.inr ⟨x,hy.symm,H.xr x σ,ω,hnd.1⟩
  ·rw [if_neg he] at hy;rcases H.tab e y hy with h1|⟨z,h1,h2,h3,h4⟩
   ·exact Or.inl h1
   ·exact Or.inr ⟨z,h1,h2,h3,fun hm=>h4 (by simp [hm])⟩
 ·rcases H.all z hz with h1|h1
  ·rcases ρ.1 h1 with rfl|h1
   ·exact Or.inr ((rZ _ _ _ _).2 (Or.inl ⟨rfl,hdl⟩))
   ·exact Or.inl h1
  ·obtain ⟨e,he⟩:=List.mem_iff_getElem?.1 h1;refine Or.inr ((rZ _ _ _ _).2 (Or.inr ⟨e,fun e2=>?_,he⟩));subst e2;rw [hT] at he
   injection he with he
   omega
theorem TT.link {x z hi lo:Nat} {rs:List Nat} (H:TT n bO L h T (x::rs) G) {d:Nat} (hd:(G.K x).length=d) (hT:T[d]?=some (z:Int)) (hl:(hi=x/\lo=z)\/(hi=z/\lo=x)) (hL:L hi lo) (h1:1<=h) :
  TT n bO L h (T.set d (-1)) (hi::rs) (dY G lo hi):=by
 have hnd:=List.nodup_cons.1 H.nd;have Bd:=H.xr x σ;obtain ⟨z',e,Mk,hzd,hzx⟩:∃z':Nat,(z:Int)=z'/\Ao n G bO h z'/\(G.K z').length=d/\z'∉x::rs:=by
  rcases H.tab d z hT with h2|h2
  ·omega
  ·exact h2
 obtain rfl:z=z':=ω;have hzne:z≠x:=fun e=>hzx (by simp [e]);have hzrs:z∉rs:=fun hm=>hzx (by simp [hm]);have hir:Ao n G bO h hi:=by rcases hl with ⟨e,_⟩|⟨e,_⟩<;>subst e<;>assumption
 have lor:Ao n G bO h lo:=by rcases hl with ⟨_,e⟩|⟨_,e⟩<;>subst e<;>assumption
 have hid:(G.K hi).length=d:=by rcases hl with ⟨e,_⟩|⟨e,_⟩<;>subst e<;>assumption
 have lod:(G.K lo).length=d:=by rcases hl with ⟨_,e⟩|⟨_,e⟩<;>subst e<;>assumption
 have hne:hi≠lo:=by rcases hl with ⟨e1,e2⟩|⟨e1,e2⟩<;>subst e1 e2<;>omega
 have hirs:hi∉rs:=by rcases hl with ⟨e,_⟩|⟨e,_⟩<;>subst e;exact hnd.1;exact hzrs
 have lors:lo∉rs:=by rcases hl with ⟨_,e⟩|⟨_,e⟩<;>subst e;exact hzrs;exact hnd.1
 have hs:=H.one lo lor;have hh:(0:Int)<bO hi:=by rw [hir.2.2];omega
 obtain ⟨hF,hnx,hrl⟩:=H.ff.under hir.1 lor.1 hir.2.1 lor.2.1 hne (by rw [lor.2.2,hir.2.2]) hh hL hs ω rfl;have Pd:∀w,w≠lo->(dY G lo hi).up w=G.up w:=fun w hw=>by rw [mM,bg _ _ hw]
 have upl:(dY G lo hi).up lo=hi:=by rw [mM,bV]
 have rt:∀g w,Ao n (dY G lo hi) bO g w↔Ao n G bO g w/\w≠lo:=fun g w=>by
  unfold Ao
  by_cases e:w=lo
  ·subst e;rw [upl];constructor
   ·rintro ⟨_,h2,_⟩;omega
   ·rintro ⟨_,h2⟩;exact absurd rfl h2
  ·rw [Pd w e];simp [e]
 have kn:∀w,w≠hi->(dY G lo hi).K w=G.K w:=fun w hw=>by rw [qQ,bg _ _ hw]
 have Uz:∀g,some g≠some h->∀w,w∈G.R g->w≠lo/\w∉G.K hi:=fun g hg w hw=>by
  have hm:=(H.fr.mem g w hg).1 hw;refine ⟨fun e=>hg ?_,fun hk=>?_⟩
  ·subst e;have:=lor.2.2;have:=hm.2.2.2;congr 1;omega
  ·have:=(H.ff.kid hi w hir.1 hk).2;omega
 refine ⟨hF,⟨fun g hg=>?_,fun g w hg=>?_,fun g t s hg hR=>?_⟩,by rw [uj];exact H.zero,fun w hw=>?_,fun e y hy=>?_,List.nodup_cons.2 ⟨hirs,hnd.2⟩,fun w hw=>?_,fun w hw=>?_⟩
 ·rw [uj];exact hrl _ (H.fr.ring g hg) (fun hm=>(Uz g hg lo hm).1 rfl) (fun w hw=>(Uz g hg w hw).2)
 ·rw [uj,H.fr.mem g w hg];constructor
  ·rintro ⟨a1,a2,a3,a4⟩;have hw:w≠lo:=fun e=>hg (by subst e;have:=lor.2.2;congr 1;omega);exact ⟨a1,a2,by rw [Pd w hw];exact a3,a4⟩
  ·rintro ⟨a1,a2,a3,a4⟩;have hw:w≠lo:=fun e=>by subst e;rw [upl] at a3;omega
   exact ⟨a1,a2,by rw [Pd w hw] at a3;exact a3,a4⟩
 ·rw [uj] at hR;exact H.fr.top g t s hg hR
 ·obtain ⟨hw1,hwl⟩:=(rt h w).1 hw;rw [hnx w hw1.1 hwl hw1.2.1];exact H.one w hw1
 ·rw [List.getElem?_set] at hy
  by_cases he:d=e
  ·rw [if_pos he] at hy
   by_cases hl2:d<T.length
   ·rw [if_pos hl2] at hy;injection hy with hy;exact Or.inl hy.symm
   ·rw [if_neg hl2] at hy;cases hy
  ·rw [if_neg he] at hy;rcases H.tab e y hy with a1|⟨w,a1,a2,a3,a4⟩
   ·exact Or.inl a1
   ·have w1:w≠x:=fun e2=>a4 (by simp [e2]);have w2:w≠z:=fun e2=>by subst e2;omega
    have whi:w≠hi:=by rcases hl with ⟨e2,_⟩|⟨e2,_⟩<;>subst e2<;>assumption
    have wlo:w≠lo:=by rcases hl with ⟨_,e2⟩|⟨_,e2⟩<;>subst e2<;>assumption
    refine Or.inr ⟨w,a1,(rt h w).2 ⟨a2,wlo⟩,by rw [kn w whi];exact a3,fun hm=>?_⟩;rcases ρ.1 hm with e2|hm
    ·exact whi e2
    ·exact a4 (by simp [hm])
 ·rcases ρ.1 hw with rfl|hw
  ·exact (rt h w).2 ⟨hir,hne⟩
  ·exact (rt h w).2 ⟨H.xr w (by simp [hw]),fun e=>lors (e▸hw)⟩
 ·obtain ⟨hw,hwl⟩:=(rt h w).1 hw;have fin:w=x\/w=z->w∈hi::rs:=fun hc=>by
   rcases hl with ⟨e1,e2⟩|⟨e1,e2⟩
   ·rcases hc with hc|hc
    ·simp [e1,hc]
    ·exact absurd (hc.trans e2.symm) hwl
   ·rcases hc with hc|hc
    ·exact absurd (hc.trans e2.symm) hwl
    ·simp [e1,hc]
  rcases H.all w hw with a|a
  ·rcases ρ.1 a with a|a
   ·exact Or.inl (fin (Or.inl a))
   ·exact Or.inl (by simp [a])
  ·obtain ⟨e,he⟩:=List.mem_iff_getElem?.1 a
   by_cases Xj:e=d
   ·subst Xj;rw [hT] at he
    injection he with he
    exact Or.inl (fin (Or.inr ω))
   ·exact Or.inr ((rZ _ _ _ _).2 (Or.inr ⟨e,Xj,he⟩))
theorem getD_some {T:List Int} {d:Nat} (hd:d<T.length):T[d]?=some (T.getD d (-1)):=by
 rw [φ,ε hd];rfl
def J4 (n:Nat) (G:FG) (bO:Nat->Int) (h:Nat) (L:Nat->Nat->Prop) (lt:Nat->Nat->Bool):Prop:=∀a b,a<n->b<n->bO a=h->bO b=h->a≠b->(lt a b=true->L a b)/\(lt a b=false->L b a)
theorem TT.step {lt:Nat->Nat->Bool} {x:Nat} {rs:List Nat} (H:TT n bO L h T (x::rs) G) (hl:J4 n G bO h L lt) (h1:1<=h) :
  (kG T (G.K x).length)[(G.K x).length]?=some ((kG T (G.K x).length).getD (G.K x).length (-1))/\
  ((kG T (G.K x).length).getD (G.K x).length (-1)=-1->TT n bO L h ((kG T (G.K x).length).set (G.K x).length x) rs G/\oH ((kG T (G.K x).length).set (G.K x).length x)=oH T+1)/\
  ((kG T (G.K x).length).getD (G.K x).length (-1)≠-1->∃z:Nat,(kG T (G.K x).length).getD (G.K x).length (-1)=z/\z<n/\z≠x/\bO z=h/\oH ((kG T (G.K x).length).set (G.K x).length (-1))+1=oH T/\
   (lt z x=true->TT n bO L h ((kG T (G.K x).length).set (G.K x).length (-1)) (z::rs) (dY G x z))/\(lt z x=false->TT n bO L h ((kG T (G.K x).length).set (G.K x).length (-1)) (x::rs) (dY G z x))):=by
 have hp:=H.pad (G.K x).length;have ho:=Vd T (G.K x).length;have hlen:=DC T (G.K x).length;generalize kG T (G.K x).length=P at *;have hg:P[(G.K x).length]?=some (P.getD (G.K x).length (-1)):=getD_some ω;refine ⟨hg,fun e=>?_,fun e=>?_⟩
 ·rw [e] at hg;refine ⟨hp.place rfl hg,?_⟩;have:=Eh P (G.K x).length x (-1) hg;rw [if_pos rfl,if_neg ω] at this;omega
 ·rcases hp.tab _ _ hg with e1|⟨z,e1,e2,e3,e4⟩
  ·exact absurd e1 e
  ·rw [e1] at hg;have hzx:z≠x:=fun e=>e4 (by simp [e]);have Bd:=hp.xr x σ;have hk:=hl z x e2.1 Bd.1 e2.2.2 Bd.2.2 hzx;have:=Eh P (G.K x).length (-1) z hg;rw [if_pos rfl,if_neg ω] at this;exact ⟨z,e1,e2.1,hzx,e2.2.2,ω,fun ht=>hp.link rfl hg (Or.inr ⟨rfl,rfl⟩) (hk.1 ht) h1,fun ht=>hp.link rfl hg (Or.inl ⟨rfl,rfl⟩) (hk.2 ht) h1⟩
theorem JO {lt:Nat->Nat->Bool} {rs:List Nat} (h1:1<=h) (hl:∀G,J4 n G bO h L lt):∀ (f:Nat) (T:List Int) (x:Nat) (G:FG) (q:Nat),TT n bO L h T (x::rs) G->oH T<f->
  TT n bO L h (J9 lt f T x G q).T rs (J9 lt f T x G q).G/\oH (J9 lt f T x G q).T+(J9 lt f T x G q).q=oH T+1+q/\(J9 lt f T x G q).G.R=G.R/\(J9 lt f T x G q).T.length<=max T.length (n+1)
 | 0,T,x,G,q,H,hf=>ω
 | f+1,T,x,G,q,H,hf=>by
  obtain ⟨s0,s1,s2⟩:=H.step (hl G) h1;have hkn:=H.ff.OI (H.xr x σ).1;have hpl:=DC T (G.K x).length;unfold J9
  by_cases e:(kG T (G.K x).length).getD (G.K x).length (-1)=-1
  ·rw [if_pos e];obtain ⟨a,b⟩:=s1 e;exact ⟨a,by simp only;omega,rfl,by simp only [List.length_set];omega⟩
  ·rw [if_neg e];obtain ⟨z,e1,_,_,_,e3,e4,e5⟩:=s2 e;rw [e1,π];cases ht:lt z x with
   | true=>
    rw [if_pos rfl];obtain ⟨r1,r2,r3,r4⟩:=JO h1 hl f _ z _ (q+1) (e4 ht) ω;exact ⟨r1,ω,r3.trans (uj _ _ _),by rw [List.length_set] at r4;omega⟩
   | false=>
    rw [if_neg σ];obtain ⟨r1,r2,r3,r4⟩:=JO h1 hl f _ x _ (q+1) (e5 ht) ω;exact ⟨r1,ω,r3.trans (uj _ _ _),by rw [List.length_set] at r4;omega⟩
theorem Ri {lt:Nat->Nat->Bool} (h1:1<=h) (hl:∀G,J4 n G bO h L lt):∀ (rs:List Nat) (D:TD),TT n bO L h D.T rs D.G->D.T.length<=n+1->
  TT n bO L h (tid lt rs D).T [] (tid lt rs D).G/\oH (tid lt rs D).T+(tid lt rs D).q=oH D.T+rs.length+D.q/\(tid lt rs D).G.R=D.G.R/\(tid lt rs D).T.length<=n+1
 | [],D,H,hlen=>⟨H,by simp [tid],rfl,hlen⟩
 | x::rs,D,H,hlen=>by
  obtain ⟨r1,r2,r3,r4⟩:=JO h1 hl (oH D.T+1) D.T x D.G D.q H ω;obtain ⟨t1,t2,t3,t4⟩:=Ri h1 hl rs _ r1 ω;have e:tid lt (x::rs) D=tid lt rs (J9 lt (oH D.T+1) D.T x D.G D.q):=rfl;rw [e];exact ⟨t1,by rw [t2,List.length_cons];omega,t3.trans r3,t4⟩
end
end Go.Proofs.YtklibcncmbofpaaGreat
