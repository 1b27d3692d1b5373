/-
  Lemmas for RankSorts: Fb2, FbI. Conditions: those of each lemma.
-/
import Derived.Deep.RegionHeldLaw
import Derived.Deep.RegionLaw
import Derived.Test.YtklibcncmbofpaaGreatP41
set_option maxHeartbeats 8000000
set_option maxRecDepth 10000
set_option linter.unusedVariables false
set_option linter.unusedSimpArgs false
namespace Go.Proofs.YtklibcncmbofpaaGreat
open Go Go.RowKit
section
variable {w:World} {B:FB} {F:List Nat} {gt ct:Nat} {A:NS} {st:Nat} {G:FG}
theorem Ee (R:Nat→List Nat) (m h:Nat) (l:List Nat) (e:jN l=jN (R h)):gL (ai R h l) m=gL R m:=by
 unfold gL ai;refine List.map_congr_left (fun i _=>?_)
 by_cases hi:i=h
 ·rw [if_pos hi,e,hi]
 ·rw [if_neg hi]
theorem dF.Ld (h:dF w B F gt ct A st G) (q:Nat) (l:List Nat) (e:jN l=jN (G.R q)):dF w B F gt ct A st { G with R:=ai G.R q l }:=
 ⟨h.head,h.cells,h.rings,h.pl,by rw [Ee G.R _ q l e];exact h.ah,h.d1,h.d2,h.d3⟩
theorem y8 (M:dF w B F gt ct A st G) {q x:Nat} (r:List Nat) (hq:q<A.hs.length) (hx:bD A (x:Int)=true) (ht:∀t s,G.R q=t::s→bD A (t:Int)=true) :
  Calls Tryz.prog 230 #[.pointer (some ⟨B.n0,0,none⟩),.int .i64 (q:Int),.int .i64 (x:Int)] w fun e w'=>e=.returned (.tuple #[])∧
   dF w' B F gt ct A (bC st (oM q G)) (fO (fun a b=>decide (bH A a b)) q (x::r) G)∧aa [B.c,B.bn,B.bp,gt] w w':=by
 have hst:=M.cells.mE;have h3:=M.h3;have ht0:=M.top hq;have hf0:=M.ah.free q;have hcap:=M.cap;have hqI:(q:Int)<(A.hs.length:Int):=ω;have hqb:q<65537:=by have:=M.cells.ok.h1;omega
 have hlb:=M.cells.ok.h1;cases hR:G.R q with
 | nil=>
  rw [hR] at ht0;have eq:oM q G=0:=by unfold oM;rw [if_pos hR]
  have eg:fO (fun a b=>decide (bH A a b)) q (x::r) G={ G with R:=ai G.R q (x::r) }:=by unfold fO;rw [hR]
  rw [eq,eg,dW hst];have HM:=χ (M.fM q (x::r));have hgl:=M.lt gt (by simp [FB.blk])
  clear M hR eq eg hx ht;unfold jN at ht0;generalize hhl:A.hs.length=hl at *
  go_enter Tryz.func230,Tryz.ntmps230
  go_wp2;refine bodyPost_ret (v:=.tuple #[]) (by simp [results,Tryz.results230,go_sem]) rfl ?_
  exact ⟨rfl,HM.out,(aa.refl _ _).setCell (Or.inl σ) _⟩
 | cons t s=>
  have htt:=ht t s hR;obtain ⟨hx1,hx2⟩:=(af _ _).1 hx;obtain ⟨ht1,ht2⟩:=(af _ _).1 htt;rw [hR] at ht0;have eq:oM q G=1:=by unfold oM;rw [if_neg (by rw [hR];simp)]
  have eg:fO (fun a b=>decide (bH A a b)) q (x::r) G={ H9 G t x with R:=ai G.R q (r9 (decide (bH A x t)) (t::s) (x::r)) }:=by unfold fO;rw [hR]
  rw [eq,eg];have ks:=fun W (hW:aa [] w W)=>iW (M.rings.aj hW) ht1 hx1
  obtain ⟨g1,g2,g3,g4,g5,g6,g7⟩:=M.d3;obtain ⟨e1,e2,e3,e4,e5⟩:=M.d2;have m:∀x,x≠B.bn→x≠B.bp→x∉[B.bn,B.bp]:=fun x h1 h2=>by simp [h1,h2]
  have r1:∀W,aa [B.bn,B.bp] w W→W.cell? ⟨B.n0,1,none⟩=some (.pointer (some ⟨B.br,0,none⟩)):=fun W hW=>hW.kept M.h1 (m _ e2 e3)
  have r3:∀W,aa [B.bn,B.bp] w W→W.cell? ⟨B.n0,3,none⟩=some (.slice (some ⟨gt,0,none⟩) A.hs.length ct):=fun W hW=>hW.kept M.h3 (m _ e2 e3)
  have rt:∀W,aa [B.bn,B.bp] w W→W.cell? ⟨gt,q,none⟩=some (.int .i64 (t:Int)):=fun W hW=>hW.kept ht0 (m _ g6 g7)
  have ht0':w.cell? ⟨gt,q,none⟩=some (.int .i64 (t:Int)):=ht0;have htn:((t:Int) == -1)=false:=σ;have HM:=χ M;have HR:=χ hR;clear M hR eq eg ht ht0;generalize hhl:A.hs.length=hl at *
  go_enter Tryz.func230,Tryz.ntmps230
  go_wp2
  go_region_held3 (aa [B.bn,B.bp] w) (repeat (first|assumption|exact aa.refl _ _|refine aa.drew ?_|refine aa.alloc ?_ _|refine aa.setCell ?_ ?_ _|focus (left;simp;done)|focus (right;simp;done)|focus (right;simp;omega)|(apply aa.trans;rotate_left;assumption)))
   (first
    | ((go_at_call 233;(with_reducible refine (ks _ β).mono ?_));rintro e w1 ⟨rfl,hR1,hu1⟩;(have hu2:aa [B.bn,B.bp] w w1:=aa.trans (by (repeat (first|assumption|exact aa.refl _ _|refine aa.drew ?_|refine aa.alloc ?_ _|refine aa.setCell ?_ ?_ _|focus (left;simp;done)|focus (right;simp;done)|focus (right;simp;omega)|(apply aa.trans;rotate_left;assumption)))) hu1)))
  have hM1:=HM.out.bJ hu2 hR1;have kc:=fun W (hW:aa [] w1 W)=>dC (hM1.cells.aj hW) x t hx htt
  have c1:=hM1.cn;have mc:∀x,x≠B.c→x∉[B.c]:=fun x h1=>by simp [h1]
  have r0:∀W,aa [B.c] w1 W→W.cell? ⟨B.n0,0,none⟩=some (.pointer (some ⟨B.c,0,none⟩)):=fun W hW=>hW.kept hM1.h0 (mc _ c1.1)
  have r3':∀W,aa [B.c] w1 W→W.cell? ⟨B.n0,3,none⟩=some (.slice (some ⟨gt,0,none⟩) hl ct):=fun W hW=>by rw [←hhl];exact hW.kept hM1.h3 (mc _ c1.1)
  have rt':∀W,aa [B.c] w1 W→W.cell? ⟨gt,q,none⟩=some (.int .i64 (t:Int)):=fun W hW=>hW.kept (rt _ hu2) (mc _ c1.2.2.2.2.2)
  have rf':∀W,aa [B.c] w1 W→W.frozen? ⟨gt,q,none⟩=false:=fun W hW=>hW.aO (rt _ hu2) (mc _ c1.2.2.2.2.2) (hu2.aO ht0' (m _ g6 g7) hf0)
  have HM1:=χ (ψ hM1 hu2);clear hM1 ks r1 r3 rt ht0' hu2 hR1 hu1 HM hf0;obtain ⟨b,hb⟩:∃b,decide (bH A x t)=b:=⟨_,rfl⟩
  rw [hb] at kc;have HBB:=χ hb;clear hb;go_wp2
  go_region_held3 (aa [B.c] w1) (repeat (first|assumption|exact aa.refl _ _|refine aa.drew ?_|refine aa.alloc ?_ _|refine aa.setCell ?_ ?_ _|focus (left;simp;done)|focus (right;simp;done)|focus (right;simp;omega)|(apply aa.trans;rotate_left;assumption)))
   (first
    | ((go_at_call 174;(with_reducible refine (kc _ β).mono ?_));rintro e w2 ⟨rfl,hC2,hu3⟩;(have hu4:aa [B.c] w1 w2:=aa.trans (by (repeat (first|assumption|exact aa.refl _ _|refine aa.drew ?_|refine aa.alloc ?_ _|refine aa.setCell ?_ ?_ _|focus (left;simp;done)|focus (right;simp;done)|focus (right;simp;omega)|(apply aa.trans;rotate_left;assumption)))) hu3)))
  have d0:=r0 _ hu4;have d3:=r3' _ hu4;have dt:=rt' _ hu4;have df:=rf' _ hu4;have hM2:=HM1.out.1.setSt hu4 hC2;have hU:aa [B.c,B.bn,B.bp,gt] w w2:=(HM1.out.2.mono σ).trans (hu4.mono σ);cases b with
  | false=>
   have HF:=χ (ψ hM2 hU);clear hM2 hU r0 r3' rt' rf' kc hu4 hC2 hu3;go_wp2;go_end0;rw [HBB.out];exact ⟨rfl,HF.out.1.Ld q (t::r++x::s) (by rw [show ({ G with nx:=bO G.nx t x,pv:=gQ G.nx G.pv t x }:FG).R q=t::s from HR.out];rfl),HF.out.2⟩
  | true=>
   have HF:=χ (ψ hM2 hU);clear hM2 hU r0 r3' rt' rf' kc hu4 hC2 hu3;go_wp2;go_end0;rw [HBB.out];exact ⟨rfl,HF.out.1.fM q (x::s++t::r),HF.out.2.setCell (Or.inl σ) _⟩
theorem dF.under (M:dF w B F gt ct A st G) (x y:Nat) (l:List Nat) (v d:Int) (hv:v=jN l) (hd:d=(l.length:Int)) :
  dF ((((w.setCell ⟨B.bl,x*4+1,none⟩ (.int .i64 v)).setCell ⟨B.bl,x*4+2,none⟩ (.int .i64 d)).setCell ⟨B.bl,y*4,none⟩ (.int .i64 (x:Int))).setCell ⟨B.bl,y*4+3,none⟩ (.bool false)) B F gt ct A st { G with up:=ai G.up y x,mr:=ai G.mr y false,K:=ai G.K x l }:=by
 refine M.EW (by (repeat (first|assumption|exact aa.refl _ _|refine aa.drew ?_|refine aa.alloc ?_ _|refine aa.setCell ?_ ?_ _|focus (left;simp;done)|focus (right;simp;done)|focus (right;simp;omega)|(apply aa.trans;rotate_left;assumption)))) ?_
 unfold lI;simp only [zJ,iH,←hv,←hd];exact mO (oQ (oL (mM M.pl x v) x d) y x) y false
theorem xw (M:dF w B F gt ct A st G) {x y:Nat} (hx:x<A.cs.length) (hy:y<A.cs.length) (hk:∀k t,G.K x=k::t→k<A.cs.length) (hl:(G.K x).length≤65536) :
  Calls Tryz.prog 235 #[.pointer (some ⟨B.n0,0,none⟩),.int .i64 (y:Int),.int .i64 (x:Int)] w fun e w'=>e=.returned (.tuple #[])∧
   dF w' B F gt ct A st (bX G y x)∧aa [B.bn,B.bp,B.bl] w w':=by
 have hc1:=M.cells.ok.c1;have h2:=M.h2;have hxI:(x:Int)<(A.cs.length:Int):=ω;have hyI:(y:Int)<(A.cs.length:Int):=ω;have px1:=M.p1 hx;have px2:=M.p2 hx;have py0:=M.p0 hy;have py3:=M.p3 hy;have fx1:=M.pl.free (x*4+1);have fx2:=M.pl.free (x*4+2);have fy0:=M.pl.free (y*4);have fy3:=M.pl.free (y*4+3);have hw1:IntKind.i64.wrap (((G.K x).length:Int)+1)=((G.K x).length:Int)+1:=IntWalk.i64_in _ ω;cases hK:G.K x with
 | nil=>
  rw [hK] at px1 px2 hw1;unfold jN at px1;have eg:bX G y x={ G with up:=ai G.up y x,mr:=ai G.mr y false,K:=ai G.K x [y] }:=by unfold bX;rw [hK]
  rw [eg];have HM:=χ M;clear M eg hK hk;generalize hcl:A.cs.length=n at *
  simp only [List.length_nil] at px2 hw1
  go_enter Tryz.func235,Tryz.ntmps235
  go_wp2
  go_region
  go_wp2;go_end0;exact ⟨rfl,(HM.out.under x y [y] y 1 rfl rfl).drewN 1,by (repeat (first|assumption|exact aa.refl _ _|refine aa.drew ?_|refine aa.alloc ?_ _|refine aa.setCell ?_ ?_ _|focus (left;simp;done)|focus (right;simp;done)|focus (right;simp;omega)|(apply aa.trans;rotate_left;assumption)))⟩
 | cons k t=>
  have hkn:=hk k t hK;rw [hK] at px1 px2 hw1 hl;simp only [List.length_cons] at px2 hw1 hl;unfold jN at px1;have eg:bX G y x={ H9 G k y with up:=ai G.up y x,mr:=ai G.mr y false,K:=ai G.K x (y::(t++[k])) }:=by unfold bX;rw [hK]
  rw [eg];have ks:=fun W (hW:aa [] w W)=>iW (M.rings.aj hW) hkn hy
  obtain ⟨g1,g2,g3,g4,g5,g6,g7⟩:=M.d3;obtain ⟨e1,e2,e3,e4,e5⟩:=M.d2;have m:∀x,x≠B.bn→x≠B.bp→x∉[B.bn,B.bp]:=fun x h1 h2=>by simp [h1,h2]
  have r1:∀W,aa [B.bn,B.bp] w W→W.cell? ⟨B.n0,1,none⟩=some (.pointer (some ⟨B.br,0,none⟩)):=fun W hW=>hW.kept M.h1 (m _ e2 e3)
  have rx:∀W,aa [B.bn,B.bp] w W→W.cell? ⟨B.bl,x*4+1,none⟩=some (.int .i64 (k:Int)):=fun W hW=>hW.kept px1 (m _ g2 g3)
  have hkk:((k:Int) == -1)=false:=σ;have HM:=χ M;have hx2:=fun W (hW:aa [B.bn,B.bp] w W)=>hW.kept px2 (m _ g2 g3)
  have hy0:=fun W (hW:aa [B.bn,B.bp] w W)=>hW.kept py0 (m _ g2 g3)
  have hy3:=fun W (hW:aa [B.bn,B.bp] w W)=>hW.kept py3 (m _ g2 g3)
  have hf1:=fun W (hW:aa [B.bn,B.bp] w W)=>hW.aO px1 (m _ g2 g3) fx1
  have hf2:=fun W (hW:aa [B.bn,B.bp] w W)=>hW.aO px2 (m _ g2 g3) fx2
  have hg0:=fun W (hW:aa [B.bn,B.bp] w W)=>hW.aO py0 (m _ g2 g3) fy0
  have hg3:=fun W (hW:aa [B.bn,B.bp] w W)=>hW.aO py3 (m _ g2 g3) fy3
  have px1':w.cell? ⟨B.bl,x*4+1,none⟩=some (.int .i64 (k:Int)):=px1;have H2:=χ (ψ hx2 (ψ hy0 (ψ hy3 (ψ hf1 (ψ hf2 (ψ hg0 hg3))))));clear M eg hK hk hx2 hy0 hy3 hf1 hf2 hg0 hg3 px1 px2 py0 py3 fx1 fx2 fy0 fy3;generalize hcl:A.cs.length=n at *
  generalize htl:t.length=tl at *
  have hdz:((tl:Int)+1+1)=(((y::(t++[k])).length:Nat):Int):=by first|(simp [htl];done)|(simp [htl];omega)
  have HDZ:=χ hdz;clear hdz htl
  go_enter Tryz.func235,Tryz.ntmps235
  go_wp2
  go_region
  go_wp2
  go_region_held3 (aa [B.bn,B.bp] w) (repeat (first|assumption|exact aa.refl _ _|refine aa.drew ?_|refine aa.alloc ?_ _|refine aa.setCell ?_ ?_ _|focus (left;simp;done)|focus (right;simp;done)|focus (right;simp;omega)|(apply aa.trans;rotate_left;assumption)))
   (first
    | ((go_at_call 233;(with_reducible refine (ks _ β).mono ?_));rintro e w1 ⟨rfl,hR1,hu1⟩;(have hu2:aa [B.bn,B.bp] w w1:=aa.trans (by (repeat (first|assumption|exact aa.refl _ _|refine aa.drew ?_|refine aa.alloc ?_ _|refine aa.setCell ?_ ?_ _|focus (left;simp;done)|focus (right;simp;done)|focus (right;simp;omega)|(apply aa.trans;rotate_left;assumption)))) hu1)))
  have q1:=rx _ hu2;obtain ⟨q2,q3,q4,q5,q6,q7,q8⟩:=H2.out;have q2:=q2 _ hu2;have q3:=q3 _ hu2;have q4:=q4 _ hu2;have q5:=q5 _ hu2;have q6:=q6 _ hu2;have q7:=q7 _ hu2;have q8:=q8 _ hu2;have hR1':uY w1 B.br B.bn B.bp A.cs.length (bO G.nx k y) (gQ G.nx G.pv k y):=by rw [hcl];exact hR1
  have hM1:=HM.out.bJ hu2 hR1';have HF:=χ (ψ hM1 hu2);clear hM1 hu2 hR1 hR1' hu1 ks r1 rx px1' HM H2;go_wp2;go_end0;have hU:aa [B.bn,B.bp,B.bl] w w1:=HF.out.2.mono (fun z hz=>by simp at hz;rcases hz with rfl|rfl<;>simp)
  exact ⟨rfl,HF.out.1.under x y (y::(t++[k])) y _ rfl HDZ.out,by (repeat (first|assumption|exact aa.refl _ _|refine aa.drew ?_|refine aa.alloc ?_ _|refine aa.setCell ?_ ?_ _|focus (left;simp;done)|focus (right;simp;done)|focus (right;simp;omega)|(apply aa.trans;rotate_left;assumption)))⟩
theorem dF.OE (M:dF w B F gt ct A st G) (x:Nat) :
  dF ((((w.setCell ⟨B.bl,x*4,none⟩ (.int .i64 (-1))).setCell ⟨B.bl,x*4+1,none⟩ (.int .i64 (-1))).setCell ⟨B.bl,x*4+2,none⟩ (.int .i64 0)).setCell ⟨B.bl,x*4+3,none⟩ (.bool false)) B F gt ct A st { G with up:=ai G.up x (-1),mr:=ai G.mr x false,K:=ai G.K x [] }:=by
 refine M.EW (by (repeat (first|assumption|exact aa.refl _ _|refine aa.drew ?_|refine aa.alloc ?_ _|refine aa.setCell ?_ ?_ _|focus (left;simp;done)|focus (right;simp;done)|focus (right;simp;omega)|(apply aa.trans;rotate_left;assumption)))) ?_
 unfold lI;simp only [zJ,iH];exact mO (oL (mM (oQ M.pl x (-1)) x (-1)) x 0) x false
def zH (l:List Nat) (up:Nat→Int):Nat→Int:=fun z=>if z∈l then -1 else up z
def zI (l:List Nat) (mr:Nat→Bool):Nat→Bool:=fun z=>if z∈l then false else mr z
theorem KR (l:List Nat) (x:Nat) (up:Nat→Int):ai (zH l up) x (-1)=zH (l++[x]) up:=by
 funext z;unfold ai zH
 by_cases e:z=x
 ·rw [if_pos e,if_pos (by simp [e])]
 ·rw [if_neg e];simp [e]
theorem Jr (l:List Nat) (x:Nat) (mr:Nat→Bool):ai (zI l mr) x false=zI (l++[x]) mr:=by
 funext z;unfold ai zI
 by_cases e:z=x
 ·rw [if_pos e,if_pos (by simp [e])]
 ·rw [if_neg e];simp [e]
theorem Kc (up:Nat→Int):zH [] up=up:=by funext z;unfold zH;simp
theorem Lt (mr:Nat→Bool):zI [] mr=mr:=by funext z;unfold zI;simp
theorem D5 (M:dF w B F gt ct A st G) {x:Nat} (hx:x<A.cs.length) (hr:Ring G.nx (G.K x)) (hk:∀z,z∈G.K x→z<A.cs.length) :
  Calls Tryz.prog 226 #[.pointer (some ⟨B.n0,0,none⟩),.int .i64 (x:Int)] w fun e w'=>e=.returned (.tuple #[])∧
   dF w' B F gt ct A st (bR G x)∧aa [B.bn,B.bp,B.bl] w w':=by
 have hc1:=M.cells.ok.c1;have h2:=M.h2;have hxI:(x:Int)<(A.cs.length:Int):=ω;have px1:=M.p1 hx;cases hK:G.K x with
 | nil=>
  rw [hK] at px1;unfold jN at px1;have eg:bR G x=G:=by unfold bR;rw [hK]
  rw [eg];have HM:=χ M;clear M eg hK hk hr;generalize hcl:A.cs.length=n at *
  go_enter Tryz.func226,Tryz.ntmps226
  go_wp2;refine bodyPost_ret (v:=.tuple #[]) (by simp [results,Tryz.results226,go_sem]) rfl ?_
  exact ⟨rfl,HM.out,aa.refl _ _⟩
 | cons k t=>
  rw [hK] at px1 hr hk;have px1':w.cell? ⟨B.bl,x*4+1,none⟩=some (.int .i64 (k:Int)):=px1;have eg:bR G x={ H9 G x k with up:=ai (zH (k::t) G.up) x (-1),mr:=ai (zI (k::t) G.mr) x false,K:=ai G.K x [] }:=by unfold bR;rw [hK];rfl
  rw [eg];have hkk:((k:Int) == -1)=false:=σ;have h1:=M.h1;have kall:=BF M.rings hr hk;have hlen:(k::t).length≤A.cs.length:=gU A.cs.length (k::t) hr.nd hk;have hkn:k<A.cs.length:=hk k σ;have HM:=χ (ψ M hk);clear M eg hK hk px1 hr;generalize hcl:A.cs.length=n at *
  go_enter Tryz.func226,Tryz.ntmps226
  go_wp2_with (first
   | ((go_at_call 227;(with_reducible refine (kall).mono ?_));rintro e w1 ⟨v1,rfl,ho1,hu1⟩;rw [←jL] at ho1;obtain ⟨g,cap,rfl,hZ,hb⟩:=IZ.gJ ho1 (by simp [mU]);rw [jL] at *)
   | fail)
  obtain ⟨g1,g2,g3,g4,g5,g6,g7⟩:=HM.out.1.d3;obtain ⟨e1,e2,e3,e4,e5⟩:=HM.out.1.d2;have hlt:=HM.out.1.lt;have lbl:=hlt B.bl (by simp [FB.blk])
  have hM1:=HM.out.1.aj hu1;have hM1':dF w1 B F gt ct A st { G with up:=zH ((k::t).take 0) G.up,mr:=zI ((k::t).take 0) G.mr,K:=G.K }:=by rw [List.take_zero,Kc,Lt];exact hM1
  have HM1:=χ (ψ hM1' (ψ hu1 hZ));have hgl:=hZ.lt;have hgb:g≠B.bl:=ω;clear hM1 hM1' hu1 hZ ho1 hlt kall h1 h2;have hll:(k::t).length=t.length+1:=rfl;rw [hll] at hlen;generalize htl:t.length=tl at *
  obtain ⟨len,hlen2⟩:∃len,tl+1=len:=⟨_,rfl⟩
  have hlI:(tl:Int)+1=(len:Int):=ω;rw [hlen2] at hll hlen ⊢;rw [hlI];clear hlI htl hlen2
  go_loopw [24] (fun s24 wr=>∃j:Nat,j≤len∧s24=.int .i64 (j:Int)∧dF wr B F gt ct A st { G with up:=zH ((k::t).take j) G.up,mr:=zI ((k::t).take j) G.mr,K:=G.K }∧IZ wr g cap (mU (k::t))∧aa [B.bl] w wr) (fun s24 _=>len-(intOf s24).toNat)
  case atStart=>exact ⟨0,ω,rfl,HM1.out.1,HM1.out.2.2,HM1.out.2.1.mono σ⟩
  case round=>
   obtain ⟨j,hj,rfl,hMr,hZr,hur⟩:=hrel;rename World=>wr
   by_cases hjl:j<len
   ·obtain ⟨z,hz⟩:∃z,(k::t)[j]?=some z:=⟨_,List.getElem?_eq_getElem ω⟩
    have hzn:z<n:=hcl▸HM.out.2 z (List.mem_of_getElem? hz);have hc:=hZr.cell j (by rw [jL];omega)
    have hgz:(mU (k::t)).getD j 0=(z:Int):=by unfold mU;rw [φ,List.getElem?_map,hz];rfl
    rw [hgz] at hc;have q2:=hMr.h2;rw [hcl] at q2;have p0:=hMr.p0 (x:=z) (by rw [hcl];exact hzn)
    have p3:=hMr.p3 (x:=z) (by rw [hcl];exact hzn)
    have f0:=hMr.pl.free (z*4);have f3:=hMr.pl.free (z*4+3);have hzI:(z:Int)<(n:Int):=ω;have hjI:(j:Int)<(len:Int):=ω;have hw1:IntKind.i64.wrap ((j:Int)+1)=(j:Int)+1:=IntWalk.i64_in _ ω;have et:(k::t).take (j+1)=(k::t).take j++[z]:=by rw [List.take_add_one,hz];rfl
    have HR:=χ (ψ hMr (ψ hZr (ψ hur et)));clear hMr hZr hur et hz hgz;go_wp2
    go_region
    go_wp2;obtain ⟨hMr,hZr,hur,et⟩:=HR.out;refine ⟨⟨j+1,ω,by go_num,?_,(hZr.upd ((aa.refl [B.bl] wr).setCell (Or.inl σ) _) (by simpa using hgb)).upd (((aa.refl [B.bl] _).setCell (Or.inl σ) _).drew) (by simpa using hgb),by (repeat (first|assumption|exact aa.refl _ _|refine aa.drew ?_|refine aa.alloc ?_ _|refine aa.setCell ?_ ?_ _|focus (left;simp;done)|focus (right;simp;done)|focus (right;simp;omega)|(apply aa.trans;rotate_left;assumption)))⟩,by simp [intOf];omega⟩
    rw [et,←KR,←Jr];refine (hMr.EW (up:=ai (zH ((k::t).take j) G.up) z (-1)) (mr:=ai (zI ((k::t).take j) G.mr) z false) (K:=G.K) (by (repeat (first|assumption|exact aa.refl _ _|refine aa.drew ?_|refine aa.alloc ?_ _|refine aa.setCell ?_ ?_ _|focus (left;simp;done)|focus (right;simp;done)|focus (right;simp;omega)|(apply aa.trans;rotate_left;assumption)))) ?_).drewN 1
    exact mO (oQ hMr.pl z (-1)) z false
   ·obtain rfl:j=len:=ω;have et:(k::t).take j=k::t:=List.take_of_length_le ω;rw [et] at hMr;have ks:=fun W (hW:aa [] wr W)=>iW (hMr.rings.aj hW) (x:=x) (y:=k) (by rw [hcl];exact hx) (by rw [hcl];exact hkn)
    have q1:=hMr.h1;have q2:∀W,aa [B.bn,B.bp] wr W→W.cell? ⟨B.n0,2,none⟩=some (.slice (some ⟨B.bl,0,none⟩) n n):=fun W hW=>by
     have:=hW.kept hMr.h2 (by simp;exact ⟨e2,e3⟩)
     rwa [hcl] at this
    have p0:=fun W (hW:aa [B.bn,B.bp] wr W)=>hW.kept (hMr.p0 (x:=x) (by rw [hcl];exact hx)) (by simp;exact ⟨g2,g3⟩)
    have p1:=fun W (hW:aa [B.bn,B.bp] wr W)=>hW.kept (hMr.p1 (x:=x) (by rw [hcl];exact hx)) (by simp;exact ⟨g2,g3⟩)
    have p2:=fun W (hW:aa [B.bn,B.bp] wr W)=>hW.kept (hMr.p2 (x:=x) (by rw [hcl];exact hx)) (by simp;exact ⟨g2,g3⟩)
    have p3:=fun W (hW:aa [B.bn,B.bp] wr W)=>hW.kept (hMr.p3 (x:=x) (by rw [hcl];exact hx)) (by simp;exact ⟨g2,g3⟩)
    have HR:=χ (ψ hMr (ψ hur (ψ p0 (ψ p1 (ψ p2 p3)))));clear hMr hZr hur et p0 p1 p2 p3 HM HM1
    go_wp2_with (first
     | ((go_at_call 233;(with_reducible refine (ks _ β).mono ?_));rintro e w2 ⟨rfl,hR2,hu2⟩;(have q3:=q2 _ hu2))
     | fail)
    obtain ⟨hMr,hur,p0,p1,p2,p3⟩:=HR.out;have p0:=p0 _ hu2;have p1:=p1 _ hu2;have p2:=p2 _ hu2;have p3:=p3 _ hu2;have f0:=(hMr.bJ hu2 hR2).pl.free (x*4);have f1:=(hMr.bJ hu2 hR2).pl.free (x*4+1);have f2:=(hMr.bJ hu2 hR2).pl.free (x*4+2);have f3:=(hMr.bJ hu2 hR2).pl.free (x*4+3);have hb2:B.bl<w2.heap.size:=(hMr.bJ hu2 hR2).lt _ (by simp [FB.blk])
    have HM2:=χ (hMr.bJ hu2 hR2);have HU:=χ (ψ hur hu2);clear hMr hR2 hur hu2 ks q1 q2 HR
    go_region_with (first
     | ((go_at_call 111;(with_reducible refine (xD _).mono ?_));rintro e w3 ⟨rfl,hu3⟩;(have hv:aa [] w2 w3:=aa.trans β hu3);(have v0:=hv.was p0);(have v1:=hv.was p1);(have v2:=hv.was p2);(have v3:=hv.was p3);(have v4:=hv.was q3);(have z0:=hv.aO p0 σ f0);(have z1:=hv.aO p1 σ f1);(have z2:=hv.aO p2 σ f2);(have z3:=hv.aO p3 σ f3))
     | fail)
    all_goals
     go_wp2;go_end0;have hU:aa [B.bn,B.bp,B.bl] w w3:=((HU.out.1.mono σ).trans (HU.out.2.mono (fun z hz=>by simp at hz;rcases hz with rfl|rfl<;>simp))).trans (hv.mono σ)
     exact ⟨rfl,(HM2.out.aj hv).OE x,by (repeat (first|assumption|exact aa.refl _ _|refine aa.drew ?_|refine aa.alloc ?_ _|refine aa.setCell ?_ ?_ _|focus (left;simp;done)|focus (right;simp;done)|focus (right;simp;omega)|(apply aa.trans;rotate_left;assumption)))⟩
end
end Go.Proofs.YtklibcncmbofpaaGreat
namespace Go.Proofs.YtklibcncmbofpaaGreat
def few (G:FG) (ex:Nat→Nat) (l:List Nat) (d:Nat):Nat:=(l.filter (fun c=>decide ((G.K c).length+(if G.mr c then 1 else 0)+ex c<d))).length
structure FF (n:Nat) (G:FG) (hom:Nat→Int) (L:Nat→Nat→Prop) (ex:Nat→Nat):Prop where
 rg:Rg n G.nx G.pv
 kid:∀x y,x<n→y∈G.K x→y<n∧G.up y=x
 BH:∀y,y<n→G.up y=-1∨∃p:Nat,p<n∧G.up y=p∧y∈G.K p
 ring:∀x,x<n→Ring G.nx (G.K x)
 home:∀y p:Nat,y<n→G.up y=p→hom y=hom p∧0<hom y
 ord:∀y p:Nat,y<n→G.up y=p→L p y
 alone:∀y,y<n→¬0<hom y→G.up y=-1∧G.K y=[]∧G.nx y=y
 free:∀y,y<n→G.up y=-1→G.mr y=false
 cnt:∀x d,x<n→few G ex (G.K x) d≤d
structure FR (n:Nat) (G:FG) (hom:Nat→Int) (L:Nat→Nat→Prop) (g:Option Nat):Prop where
 ring:∀h,some h≠g→Ring G.nx (G.R h)
 mem:∀h y:Nat,some h≠g→(y∈G.R h↔1≤h∧y<n∧G.up y=-1∧hom y=h)
 top:∀h t s,some h≠g→G.R h=t::s→∀y,y∈s→L t y
section
variable {n:Nat} {G:FG} {hom:Nat→Int} {L:Nat→Nat→Prop} {ex:Nat→Nat}
theorem FF.IE (H:FF n G hom L ex) {x:Nat} (hx:x<n):(G.K x).length≤n:=gU n _ (H.ring x hx).nd (fun y hy=>(H.kid x y hx hy).1)
theorem FF.above (H:FF n G hom L ex) {y p:Nat} (hy:y<n) (h:G.up y=p):p<n∧y∈G.K p:=by
 rcases H.BH y hy with h1|⟨q,hq,h1,h2⟩
 ·omega
 ·obtain rfl:p=q:=ω;exact ⟨hq,h2⟩
theorem Om (G:FG) (ex:Nat→Nat) (l:List Nat) (d:Nat):few G ex l d≤l.length:=List.length_filter_le _ _
theorem Be (G:FG) (ex:Nat→Nat) {l l':List Nat} (h:l.Perm l') (d:Nat):few G ex l d=few G ex l' d:=(h.filter _).length_eq
theorem qC {G G':FG} {ex ex':Nat→Nat} {l:List Nat} (d:Nat) (h:∀c,c∈l→(G'.K c).length+(if G'.mr c then 1 else 0)+ex' c=(G.K c).length+(if G.mr c then 1 else 0)+ex c):few G' ex' l d=few G ex l d:=by
 unfold few
 congr 1
 exact List.filter_congr (fun c hc=>by rw [h c hc])
theorem CG {G G':FG} {ex ex':Nat→Nat} {l:List Nat} (d:Nat) (h:∀c,c∈l→(G.K c).length+(if G.mr c then 1 else 0)+ex c≤(G'.K c).length+(if G'.mr c then 1 else 0)+ex' c):few G' ex' l d≤few G ex l d:=by
 unfold few
 induction l with
 | nil=>simp
 | cons c t ih=>
  have ih':=ih (fun c hc=>h c (by simp [hc]))
  have hc:=h c σ
  by_cases h1:(G'.K c).length+(if G'.mr c then 1 else 0)+ex' c<d
  ·have h2:(G.K c).length+(if G.mr c then 1 else 0)+ex c<d:=ω
   rw [List.filter_cons_of_pos (by simpa using h1),List.filter_cons_of_pos (by simpa using h2)]
   simpa using ih'
  ·rw [List.filter_cons_of_neg (by simpa using h1)]
   by_cases h2:(G.K c).length+(if G.mr c then 1 else 0)+ex c<d
   ·rw [List.filter_cons_of_pos (by simpa using h2)]
    simp only [List.length_cons];omega
   ·rw [List.filter_cons_of_neg (by simpa using h2)]
    exact ih'
theorem Ck (G:FG) (ex:Nat→Nat) (c:Nat) (l:List Nat) (d:Nat):few G ex (c::l) d=(if (G.K c).length+(if G.mr c then 1 else 0)+ex c<d then 1 else 0)+few G ex l d:=by
 unfold few;rw [List.filter_cons]
 by_cases h:(G.K c).length+(if G.mr c then 1 else 0)+ex c<d
 ·rw [if_pos (by simpa using h),if_pos h];simp;omega
 ·rw [if_neg (by simpa using h),if_neg h];omega
theorem bu {α:Type} (f:Nat→α) (x:Nat) (v:α):ai f x v x=v:=by unfold ai;rw [if_pos rfl]
theorem aP {α:Type} (f:Nat→α) {x z:Nat} (v:α) (h:z≠x):ai f x v z=f z:=by unfold ai;rw [if_neg h]
def NA (l:List Nat) (y:Nat):List Nat:=match l with|[]=>[y]|k::t=>y::(t++[k])
theorem yI (l:List Nat) (y:Nat):(NA l y).Perm (y::l):=by
 cases l with
 | nil=>exact List.Perm.refl _
 | cons k t=>exact List.Perm.cons y (List.perm_append_comm (l₁:=t) (l₂:=[k]))
theorem jH (G:FG) (y x:Nat):(bX G y x).up=ai G.up y x:=rfl
theorem xP (G:FG) (y x:Nat):(bX G y x).mr=ai G.mr y false:=rfl
theorem nZ (G:FG) (y x:Nat):(bX G y x).K=ai G.K x (NA (G.K x) y):=rfl
theorem qK (G:FG) (y x:Nat):(bX G y x).R=G.R:=by unfold bX;cases G.K x<;>rfl
theorem xq (G:FG) (y x:Nat):(bX G y x).nx=match G.K x with|[]=>G.nx|k::_=>bO G.nx k y:=by unfold bX;cases G.K x<;>rfl
theorem JY (G:FG) (y x:Nat):(bX G y x).pv=match G.K x with|[]=>G.pv|k::_=>gQ G.nx G.pv k y:=by unfold bX;cases G.K x<;>rfl
theorem FF.under (H:FF n G hom L ex) {x y:Nat} (hx:x<n) (hy:y<n) (ux:G.up x=-1) (uy:G.up y=-1) (hne:x≠y) (hh:hom y=hom x) (h0:0<hom x) (hL:L x y) (sy:G.nx y=y) (hd:(G.K y).length=(G.K x).length) (hex:ex y=0) :
  FF n (bX G y x) hom L ex∧(∀z,z<n→z≠y→G.up z=-1→(bX G y x).nx z=G.nx z)∧(∀l:List Nat,Ring G.nx l→y∉l→(∀z,z∈l→z∉G.K x)→Ring (bX G y x).nx l):=by
 have kx:∀a z,a<n→z∈G.K a→z≠x∧z≠y:=fun a z ha hz=>by
  have:=(H.kid a z ha hz).2;exact ⟨fun e=>by subst e;omega,fun e=>by subst e;omega⟩
 have far:∀z,z≠y→z∉G.K x→(bX G y x).nx z=G.nx z:=fun z h1 h2=>by
  rw [xq];cases hK:G.K x with
  | nil=>rfl
  | cons k t=>exact gG (fun e=>h2 (by rw [hK,e];simp)) h1
 have nk:∀z,G.up z=-1→z∉G.K x:=fun z hu hm=>by
  have:=(H.kid x z hx hm).2;omega
 have rl:∀l:List Nat,Ring G.nx l→y∉l→(∀z,z∈l→z∉G.K x)→Ring (bX G y x).nx l:=fun l hr h1 h2=>hr.far (fun z hz=>far z (fun e=>h1 (e▸hz)) (h2 z hz))
 have mem:∀z,z∈NA (G.K x) y↔z=y∨z∈G.K x:=fun z=>by rw [(yI _ _).mem_iff];simp
 refine ⟨⟨?_,fun a z ha hz=>?_,fun z hz=>?_,fun a ha=>?_,fun z p hz hu=>?_,fun z p hz hu=>?_,fun z hz h1=>?_,fun z hz hu=>?_,fun a d ha=>?_⟩,fun z hz h1 h2=>far z h1 (nk z h2),rl⟩
 ·rw [xq,JY];cases hK:G.K x with
  | nil=>exact H.rg
  | cons k t=>exact H.rg.swap (H.kid x k hx (by rw [hK];simp)).1 hy
 ·rw [nZ] at hz;rw [jH]
  by_cases e:a=x
  ·subst e;rw [bu,mem] at hz;rcases hz with rfl|hz
   ·exact ⟨hy,bu _ _ _⟩
   ·exact ⟨(H.kid a z ha hz).1,by rw [aP _ _ (kx a z ha hz).2];exact (H.kid a z ha hz).2⟩
  ·rw [aP _ _ e] at hz;exact ⟨(H.kid a z ha hz).1,by rw [aP _ _ (kx a z ha hz).2];exact (H.kid a z ha hz).2⟩
 ·rw [jH,nZ]
  by_cases e:z=y
  ·subst e;exact Or.inr ⟨x,hx,bu _ _ _,by rw [bu,mem];exact Or.inl rfl⟩
  ·rw [aP _ _ e];rcases H.BH z hz with h1|⟨p,hp,h1,h2⟩
   ·exact Or.inl h1
   ·refine Or.inr ⟨p,hp,h1,?_⟩
    by_cases e2:p=x
    ·rw [e2,bu,mem];rw [e2] at h2;exact Or.inr h2
    ·rw [aP _ _ e2];exact h2
 ·rw [nZ]
  by_cases e:a=x
  ·subst e;rw [bu,xq];have hr:=H.ring a ha;cases hK:G.K a with
   | nil=>exact gW.2 sy
   | cons k t=>
    rw [hK] at hr
    have hj:=Ring.join hr (gW.2 sy) (fun z hz hm=>by
     simp at hm;subst hm
     exact (kx a z ha (by rw [hK];exact hz)).2 rfl)
    exact Ring.NH (a:=[k]) (b:=y::t) hj
  ·rw [aP _ _ e]
   exact rl _ (H.ring a ha) (fun hm=>(kx a y ha hm).2 rfl) (fun z hz hm=>e (by
    have:=(H.kid a z ha hz).2;have:=(H.kid x z hx hm).2
    omega))
 ·rw [jH] at hu
  by_cases e:z=y
  ·subst e;rw [bu] at hu;obtain rfl:p=x:=ω;exact ⟨hh,ω⟩
  ·rw [aP _ _ e] at hu;exact H.home z p hz hu
 ·rw [jH] at hu
  by_cases e:z=y
  ·subst e;rw [bu] at hu;obtain rfl:p=x:=ω;exact hL
  ·rw [aP _ _ e] at hu;exact H.ord z p hz hu
 ·have e1:z≠y:=fun e=>h1 (by rw [e,hh];exact h0)
  have e2:z≠x:=fun e=>h1 (by rw [e];exact h0)
  obtain ⟨a1,a2,a3⟩:=H.alone z hz h1;exact ⟨by rw [jH,aP _ _ e1];exact a1,by rw [nZ,aP _ _ e2];exact a2,by rw [far z e1 (nk z a1)];exact a3⟩
 ·rw [jH] at hu;rw [xP]
  by_cases e:z=y
  ·subst e;rw [bu]
  ·rw [aP _ _ e] at hu ⊢;exact H.free z hz hu
 ·have old:∀b:Nat,b<n→few (bX G y x) ex (G.K b) d=few G ex (G.K b) d:=fun b hb=>qC d (fun c hc=>by
   have:=kx b c hb hc
   rw [nZ,xP,aP _ _ this.1,aP _ _ this.2])
  by_cases e:a=x
  ·subst e;rw [show (bX G y a).K a=NA (G.K a) y from bu _ _ _,Be _ _ (yI _ _),Ck,old a ha,nZ,xP,bu,aP _ _ (Ne.symm hne),hex]
   have h1:=H.cnt a d ha;have h2:=Om G ex (G.K a) d;simp only [Bool.false_eq_true,if_false,Nat.add_zero]
   split<;>omega
  ·rw [show (bX G y x).K a=G.K a from aP _ _ e,old a ha]
   exact H.cnt a d ha
end
end Go.Proofs.YtklibcncmbofpaaGreat
