/-
  Lemmas for RankSorts: Fb7, Fb8, Fb9, FbN. Conditions: those of each lemma.
-/
import Derived.Test.YtklibcncmbofpaaGreatP07
import Derived.Test.YtklibcncmbofpaaGreatP45
set_option maxHeartbeats 8000000
set_option maxRecDepth 10000
set_option linter.unusedVariables false
set_option linter.unusedSimpArgs false
namespace Go.Proofs.YtklibcncmbofpaaGreat
open Go Go.RowKit
section
variable {w:World} {p:Nat} {FF:List Nat} {A:NS} {st:Nat} {G:FG}
theorem JJ (h:tN w p FF A st G) (x:Nat) (k s:Int) (hk:-9223372036854775808≤k∧k≤9223372036854775807∧0≤s∧s≤18446744073709551615) (hB:iy A x k s=true) {hh:Nat} (hxh:(A.c x).i=hh) :
  Calls Tryz.prog 218 #[.pointer (some ⟨p,0,none⟩),.int .i64 (x:Int),.agg #[.int .i64 k,.int .u64 s]] w fun e w'=>e=.returned (.bool true)∧
   Goes FF w w' (fun FF'=>tN w' p FF' (ak A x k s) (bC st (ui (ak A x k s) hh x G)) (je (ak A x k s) hh x G)):=by
 obtain ⟨⟨B,F,gt,ct,rfl,rfl,M⟩,I⟩:=h;have hst:=M.cells.mE;have ok:=M.cells.ok;have hin0:=pK hB;obtain ⟨hx,hx0⟩:=(af _ _).1 hin0;have h1:1≤hh:=ω;have hhl:hh<A.hs.length:=by have:=(ok.nat x hx).2;omega
 have hcs:=eB A x k s;have hhs:(ak A x k s).hs.length=A.hs.length:=by rw [jm]
 have hi:=fP hB hx;obtain ⟨t,s0,hR,hoff,f1,f2,⟨s',hR1⟩,_,_,_,_,_⟩:=Fj I hB hx hxh h1;have I2:=(N7 I hB hx hxh h1).1;have htI:=I.mI hR;have hin:bD (ak A x k s) (x:Int)=true:=(af _ _).2 ⟨by rw [hcs];exact hx,by rw [hi];exact hx0⟩
 have htin:bD (ak A x k s) (t:Int)=true:=(af _ _).2 ⟨by rw [hcs];exact htI.2.2.1,by rw [hi];omega⟩
 have u1:aa [] w (w.alloc (.cells #[.int .i64 k,.int .u64 s] 129)):=(aa.refl _ _).alloc _;have kp:=fun W (hW:aa [] (w.alloc (.cells #[.int .i64 k,.int .u64 s] 129)) W)=>fE (M.cells.aj (u1.trans hW)) x k s hk hB
 have h0:=M.h0;have hbF:B.n0∉F:=M.d1.1;have hsz:w.heap.size∉F:=fun hm=>by have:=M.cells.lt _ hm;omega
 have r0:∀W,aa F (w.alloc (.cells #[.int .i64 k,.int .u64 s] 129)) W→W.cell? ⟨B.n0,0,none⟩=some (.pointer (some ⟨B.c,0,none⟩)):=fun W hW=>hW.kept (u1.was h0) hbF
 have r1:∀W,aa F (w.alloc (.cells #[.int .i64 k,.int .u64 s] 129)) W→W.cell? ⟨w.heap.size,0,none⟩=some (.int .i64 k):=fun W h=>h.kept σ hsz
 have r2:∀W,aa F (w.alloc (.cells #[.int .i64 k,.int .u64 s] 129)) W→W.cell? ⟨w.heap.size,1,none⟩=some (.int .u64 s):=fun W h=>h.kept σ hsz
 have H0:=χ (ψ M (ψ I (ψ hoff (ψ I2 (ψ M.cells.mem (ψ hhs (ψ hin htin)))))));have HX:=χ (ψ hcs (ψ hi (ψ hR hR1)));have kh:=fun W (hM:dF W B F gt ct (ak A x k s) st G)=>bZ hM.cells x hin
 have KH:=χ kh;have HLB:=χ hB;clear M I ok hoff I2 hB h0 hcs hhs hi f1 f2 hR1 hin htin kh hin0 hR htI
 go_enter Tryz.func218,Tryz.ntmps218
 go_wp2
 go_region_held3 (aa F (w.alloc (.cells #[.int .i64 k,.int .u64 s] 129))) (repeat (first|assumption|exact aa.refl _ _|refine aa.drew ?_|refine aa.alloc ?_ _|refine aa.setCell ?_ ?_ _|focus (left;simp;done)|focus (right;simp;done)|focus (right;simp;omega)|(apply aa.trans;rotate_left;assumption)))
  (first
   | ((go_at_call 147;(with_reducible refine (kp _ β).mono ?_));rintro e w1 ⟨rfl,hC1,hu1⟩;(have hu2:aa F (w.alloc (.cells #[.int .i64 k,.int .u64 s] 129)) w1:=by (repeat (first|assumption|exact aa.refl _ _|refine aa.drew ?_|refine aa.alloc ?_ _|refine aa.setCell ?_ ?_ _|focus (left;simp;done)|focus (right;simp;done)|focus (right;simp;omega)|(apply aa.trans;rotate_left;assumption))))))
 have uF:aa F w w1:=(u1.mono σ).trans hu2;have hM1:=H0.out.1.bI uF hC1 (fun y hy=>Or.inl hy) HX.out.1 H0.out.2.2.2.2.2.1
 have kh1:=fun W (hW:aa [] w1 W)=>KH.out W (hM1.aj hW)
 simp only [HX.out.2.1,hxh] at kh1;have b0:=hM1.h0;have HM1:=χ (ψ hM1 uF);clear kp r0 r1 r2 hM1 uF hu2 hC1 hu1 hsz u1;have hxn:x<(ak A x k s).cs.length:=by rw [HX.out.1];exact hx
 have hxI:(x:Int)<((ak A x k s).cs.length:Int):=ω;have hcb:(ak A x k s).cs.length≤65536:=HM1.out.1.cells.ok.c1
 by_cases hup:G.up x=-1
 ·go_wp2_with (first
   | ((go_at_call 140;(with_reducible refine (kh1 _ β).mono ?_));rintro e w2 ⟨rfl,hC2,hu2⟩;(have M2:=(HM1.out.1.aj (w':=_) (β:aa [] w1 _)).bI hu2 hC2 (fun y hy=>Or.inl hy) rfl rfl);(have d2:=M2.h2);(have p0:=M2.p0 hxn);rw [hup] at p0;(have HM2:=χ (ψ M2 ((HM1.out.2.then (β:aa [] w1 _)).trans hu2)));clear M2 hC2 hu2)
   | fail)
  refine oV (fun W=>dF W B F gt ct (ak A x k s) (bC st 0) G∧aa (B.blk F gt) w W) ?_ ?_
  ·exact ⟨by rw [dW hst];exact HM2.out.1,HM2.out.2.mono gT⟩
  have e1:dN (ak A x k s) hh x G=G:=by unfold dN;rw [if_neg (by simp [hup])]
  have HE:=χ (ψ e1 hup);clear e1 hup d2 p0 kh1 b0;rintro w5 ⟨M5,hU5⟩;have d3:=M5.h3;have dt:w5.cell? ⟨gt,hh,none⟩=some (.int .i64 (t:Int)):=by (have dt0:=M5.top (q:=hh) (by rw [H0.out.2.2.2.2.2.1];exact hhl);rw [HX.out.2.2.1] at dt0;exact dt0)
  have df:=M5.ah.free hh;have hcap:=M5.cap;have hhI:(hh:Int)<((ak A x k s).hs.length:Int):=by rw [H0.out.2.2.2.2.2.1];omega
  have H5:=χ (ψ M5 hU5)
  by_cases htx:t=x
  ·subst htx;clear M5 hU5
   go_quiet (fail)
   go_wp2;go_ret;have eG:je (ak A t k s) hh t G=G:=by unfold je;rw [HE.out.1,HX.out.2.2.1,if_neg (by simp [jN])]
   have eQ:ui (ak A t k s) hh t G=0+0:=by unfold ui;rw [HE.out.1,HX.out.2.2.1,if_pos HE.out.2,if_pos (by rfl)]
   refine ⟨rfl,B.blk F gt,⟨⟨B,F,gt,ct,rfl,rfl,?_⟩,H0.out.2.2.2.1⟩,H5.out.2.drewN _,fun y hy=>Or.inl hy⟩
   rw [eG,eQ];exact H5.out.1.drewN _
  ·have hxt:((t:Int) == (x:Int))=false:=ζ;have hxt2:((t:Int) != (x:Int))=true:=ζ;have hxt3:¬ ((t:Int)=(x:Int)):=ω;have hin:=H0.out.2.2.2.2.2.2.1;have htin:=H0.out.2.2.2.2.2.2.2;have kc:=fun W (hW:aa [] w5 W)=>dC (M5.cells.aj hW) x t hin htin
   have hcn:=M5.cn;have mc:∀x,x≠B.c→x∉[B.c]:=fun x h1=>by simp [h1]
   have r0:∀W,aa [B.c] w5 W→W.cell? ⟨B.n0,0,none⟩=some (.pointer (some ⟨B.c,0,none⟩)):=fun W hW=>hW.kept M5.h0 (mc _ hcn.1)
   have r3:∀W,aa [B.c] w5 W→W.cell? ⟨B.n0,3,none⟩=some (.slice (some ⟨gt,0,none⟩) (ak A x k s).hs.length ct):=fun W hW=>hW.kept M5.h3 (mc _ hcn.1)
   have rt:∀W,aa [B.c] w5 W→W.cell? ⟨gt,hh,none⟩=some (.int .i64 (t:Int)):=fun W hW=>hW.kept dt (mc _ hcn.2.2.2.2.2)
   have rf:∀W,aa [B.c] w5 W→W.frozen? ⟨gt,hh,none⟩=false:=fun W hW=>hW.aO dt (mc _ hcn.2.2.2.2.2) df
   clear M5 hU5 d3 dt df;obtain ⟨b2,hb2⟩:∃b2,decide (bH (ak A x k s) x t)=b2:=⟨_,rfl⟩
   rw [hb2] at kc;have HB2:=χ hb2;clear hb2
   go_region_held3 (aa [B.c] w5) (repeat (first|assumption|exact aa.refl _ _|refine aa.drew ?_|refine aa.alloc ?_ _|refine aa.setCell ?_ ?_ _|focus (left;simp;done)|focus (right;simp;done)|focus (right;simp;omega)|(apply aa.trans;rotate_left;assumption)))
    (first
     | ((go_at_call 174;(with_reducible refine (kc _ β).mono ?_));rintro e w6 ⟨rfl,hC6,hu6⟩;(have hu7:aa [B.c] w5 w6:=aa.trans (by (repeat (first|assumption|exact aa.refl _ _|refine aa.drew ?_|refine aa.alloc ?_ _|refine aa.setCell ?_ ?_ _|focus (left;simp;done)|focus (right;simp;done)|focus (right;simp;omega)|(apply aa.trans;rotate_left;assumption)))) hu6)))
   have d3:=r3 _ hu7;have dt:=rt _ hu7;have df:=rf _ hu7;have M6:=H5.out.1.setSt hu7 hC6;have hU6:aa (B.blk F gt) w w6:=H5.out.2.trans (hu7.mono (fun z hz=>by simp at hz;rw [hz];exact gT _ H0.out.2.2.2.2.1))
   rw [gz] at M6;have H6:=χ (ψ M6 hU6);clear M6 hU6 hu7 hC6 hu6 r0 r3 rt rf kc;have eQ:ui (ak A x k s) hh x G=0+1:=by unfold ui;rw [HE.out.1,HX.out.2.2.1,if_pos HE.out.2,if_neg (fun e=>htx (by have e2:(t:Int)=(x:Int):=e;omega))]
   have HQ:=χ eQ;clear eQ;cases b2 with
   | false=>
    go_wp2;go_ret;have eG:je (ak A x k s) hh x G=G:=by unfold je;rw [HE.out.1,HX.out.2.2.1,if_neg (fun h=>by have h2:=h.2;unfold mH at h2;rw [show (jN (t::s0)).toNat=t from by unfold jN;simp,HB2.out] at h2;cases h2)]
    refine ⟨rfl,B.blk F gt,⟨⟨B,F,gt,ct,rfl,rfl,?_⟩,H0.out.2.2.2.1⟩,by (have:=H6.out.2);(repeat (first|assumption|exact aa.refl _ _|refine aa.drew ?_|refine aa.alloc ?_ _|refine aa.setCell ?_ ?_ _|focus (left;simp;done)|focus (right;simp;done)|focus (right;simp;omega)|(apply aa.trans;rotate_left;assumption))),fun y hy=>Or.inl hy⟩
    rw [eG,HQ.out];exact H6.out.1
   | true=>
    go_wp2;go_ret;have eG:je (ak A x k s) hh x G=EZ hh x G:=by unfold je;rw [HE.out.1,HX.out.2.2.1,if_pos ⟨fun e=>htx (by have e2:(t:Int)=(x:Int):=e;omega),by unfold mH;rw [show (jN (t::s0)).toNat=t from by unfold jN;simp];exact HB2.out⟩]
    refine ⟨rfl,B.blk F gt,⟨⟨B,F,gt,ct,rfl,rfl,?_⟩,H0.out.2.2.2.1⟩,(H6.out.2).setCell (Or.inl (by simp [FB.blk])) _,fun y hy=>Or.inl hy⟩
    rw [eG,HQ.out];exact H6.out.1.fM hh (x::xG (G.R hh) x)
 ·obtain ⟨p1,hp1,ux,_⟩:=(H0.out.2.1.ff.BH x hx).resolve_left hup;have hp1h:(A.c p1).i=hh:=by have:(A.c x).i=(A.c p1).i:=(H0.out.2.1.ff.home x p1 hx ux).1;omega
  have hpin:bD (ak A x k s) (p1:Int)=true:=(af _ _).2 ⟨by rw [HX.out.1];exact hp1,by rw [HX.out.2.1];omega⟩
  have hpn:((p1:Int) == -1)=false:=σ;obtain ⟨b,hb⟩:∃b,decide (bH (ak A x k s) x p1)=b:=⟨_,rfl⟩
  have KA:=χ (fun W st' (hM:dF W B F gt ct (ak A x k s) st' G)=>dC hM.cells x p1 H0.out.2.2.2.2.2.2.1 hpin)
  have HB:=χ hb;clear hb;cases b with
  | false=>
   go_wp2_with (first
    | ((go_at_call 140;(with_reducible refine (kh1 _ β).mono ?_));rintro e w2 ⟨rfl,hC2,hu2⟩;(have M2:=(HM1.out.1.aj (w':=_) (β:aa [] w1 _)).bI hu2 hC2 (fun y hy=>Or.inl hy) rfl rfl);(have d2:=M2.h2);(have d0:=M2.h0);(have p0:=M2.p0 hxn);rw [ux] at p0;(have ka:=KA.out _ _ M2);rw [HB.out] at ka;(have HM2:=χ (ψ M2 ((HM1.out.2.then (β:aa [] w1 _)).trans hu2)));clear M2 hC2 hu2)
    | ((go_at_call 174;(with_reducible refine (ka).mono ?_));rintro e w3 ⟨rfl,hC3,hu3⟩;(have HM3:=χ (ψ (HM2.out.1.setSt hu3 hC3) hu3));clear hC3 hu3)
    | fail)
   refine oV (fun W=>dF W B F gt ct (ak A x k s) (bC st 1) G∧aa (B.blk F gt) w W) ?_ ?_
   ·exact ⟨HM3.out.1,(HM2.out.2.mono gT).trans (HM3.out.2.mono (fun z hz=>by simp at hz;rw [hz];exact gT _ H0.out.2.2.2.2.1))⟩
   have e1:dN (ak A x k s) hh x G=G:=by unfold dN;rw [if_neg (fun h=>by have h2:=h.2;unfold mH at h2;rw [ux,π,HB.out] at h2;cases h2)]
   have HE:=χ (ψ e1 hup);clear e1 hup d2 p0 kh1 b0 d0 ka ux;rintro w5 ⟨M5,hU5⟩;have d3:=M5.h3;have dt:w5.cell? ⟨gt,hh,none⟩=some (.int .i64 (t:Int)):=by (have dt0:=M5.top (q:=hh) (by rw [H0.out.2.2.2.2.2.1];exact hhl);rw [HX.out.2.2.1] at dt0;exact dt0)
   have df:=M5.ah.free hh;have hcap:=M5.cap;have hhI:(hh:Int)<((ak A x k s).hs.length:Int):=by rw [H0.out.2.2.2.2.2.1];omega
   have H5:=χ (ψ M5 hU5)
   by_cases htx:t=x
   ·subst htx;clear M5 hU5
    go_quiet (fail)
    go_wp2;go_ret;have eG:je (ak A t k s) hh t G=G:=by unfold je;rw [HE.out.1,HX.out.2.2.1,if_neg (by simp [jN])]
    have eQ:ui (ak A t k s) hh t G=1+0:=by unfold ui;rw [HE.out.1,HX.out.2.2.1,if_neg HE.out.2,if_pos (by rfl)]
    refine ⟨rfl,B.blk F gt,⟨⟨B,F,gt,ct,rfl,rfl,?_⟩,H0.out.2.2.2.1⟩,H5.out.2.drewN _,fun y hy=>Or.inl hy⟩
    rw [eG,eQ];exact H5.out.1.drewN _
   ·have hxt:((t:Int) == (x:Int))=false:=ζ;have hxt2:((t:Int) != (x:Int))=true:=ζ;have hxt3:¬ ((t:Int)=(x:Int)):=ω;have hin:=H0.out.2.2.2.2.2.2.1;have htin:=H0.out.2.2.2.2.2.2.2;have kc:=fun W (hW:aa [] w5 W)=>dC (M5.cells.aj hW) x t hin htin
    have hcn:=M5.cn;have mc:∀x,x≠B.c→x∉[B.c]:=fun x h1=>by simp [h1]
    have r0:∀W,aa [B.c] w5 W→W.cell? ⟨B.n0,0,none⟩=some (.pointer (some ⟨B.c,0,none⟩)):=fun W hW=>hW.kept M5.h0 (mc _ hcn.1)
    have r3:∀W,aa [B.c] w5 W→W.cell? ⟨B.n0,3,none⟩=some (.slice (some ⟨gt,0,none⟩) (ak A x k s).hs.length ct):=fun W hW=>hW.kept M5.h3 (mc _ hcn.1)
    have rt:∀W,aa [B.c] w5 W→W.cell? ⟨gt,hh,none⟩=some (.int .i64 (t:Int)):=fun W hW=>hW.kept dt (mc _ hcn.2.2.2.2.2)
    have rf:∀W,aa [B.c] w5 W→W.frozen? ⟨gt,hh,none⟩=false:=fun W hW=>hW.aO dt (mc _ hcn.2.2.2.2.2) df
    clear M5 hU5 d3 dt df;obtain ⟨b2,hb2⟩:∃b2,decide (bH (ak A x k s) x t)=b2:=⟨_,rfl⟩
    rw [hb2] at kc;have HB2:=χ hb2;clear hb2
    go_region_held3 (aa [B.c] w5) (repeat (first|assumption|exact aa.refl _ _|refine aa.drew ?_|refine aa.alloc ?_ _|refine aa.setCell ?_ ?_ _|focus (left;simp;done)|focus (right;simp;done)|focus (right;simp;omega)|(apply aa.trans;rotate_left;assumption)))
     (first
      | ((go_at_call 174;(with_reducible refine (kc _ β).mono ?_));rintro e w6 ⟨rfl,hC6,hu6⟩;(have hu7:aa [B.c] w5 w6:=aa.trans (by (repeat (first|assumption|exact aa.refl _ _|refine aa.drew ?_|refine aa.alloc ?_ _|refine aa.setCell ?_ ?_ _|focus (left;simp;done)|focus (right;simp;done)|focus (right;simp;omega)|(apply aa.trans;rotate_left;assumption)))) hu6)))
    have d3:=r3 _ hu7;have dt:=rt _ hu7;have df:=rf _ hu7;have M6:=H5.out.1.setSt hu7 hC6;have hU6:aa (B.blk F gt) w w6:=H5.out.2.trans (hu7.mono (fun z hz=>by simp at hz;rw [hz];exact gT _ H0.out.2.2.2.2.1))
    rw [gz] at M6;have H6:=χ (ψ M6 hU6);clear M6 hU6 hu7 hC6 hu6 r0 r3 rt rf kc;have eQ:ui (ak A x k s) hh x G=1+1:=by unfold ui;rw [HE.out.1,HX.out.2.2.1,if_neg HE.out.2,if_neg (fun e=>htx (by have e2:(t:Int)=(x:Int):=e;omega))]
    have HQ:=χ eQ;clear eQ;cases b2 with
    | false=>
     go_wp2;go_ret;have eG:je (ak A x k s) hh x G=G:=by unfold je;rw [HE.out.1,HX.out.2.2.1,if_neg (fun h=>by have h2:=h.2;unfold mH at h2;rw [show (jN (t::s0)).toNat=t from by unfold jN;simp,HB2.out] at h2;cases h2)]
     refine ⟨rfl,B.blk F gt,⟨⟨B,F,gt,ct,rfl,rfl,?_⟩,H0.out.2.2.2.1⟩,by (have:=H6.out.2);(repeat (first|assumption|exact aa.refl _ _|refine aa.drew ?_|refine aa.alloc ?_ _|refine aa.setCell ?_ ?_ _|focus (left;simp;done)|focus (right;simp;done)|focus (right;simp;omega)|(apply aa.trans;rotate_left;assumption))),fun y hy=>Or.inl hy⟩
     rw [eG,HQ.out];exact H6.out.1
    | true=>
     go_wp2;go_ret;have eG:je (ak A x k s) hh x G=EZ hh x G:=by unfold je;rw [HE.out.1,HX.out.2.2.1,if_pos ⟨fun e=>htx (by have e2:(t:Int)=(x:Int):=e;omega),by unfold mH;rw [show (jN (t::s0)).toNat=t from by unfold jN;simp];exact HB2.out⟩]
     refine ⟨rfl,B.blk F gt,⟨⟨B,F,gt,ct,rfl,rfl,?_⟩,H0.out.2.2.2.1⟩,(H6.out.2).setCell (Or.inl (by simp [FB.blk])) _,fun y hy=>Or.inl hy⟩
     rw [eG,HQ.out];exact H6.out.1.fM hh (x::xG (G.R hh) x)
  | true=>
   have hlt:bH (ak A x k s) x p1:=by have:=HB.out;simpa using this
   obtain ⟨hpx,o1,o2,o3,hfirst⟩:=H0.out.2.2.1 p1 ux
   have KL:=χ (fun W st' (hM:dF W B F gt ct (ak A x k s) st' G)=>by
    have hn:=HX.out.1;have:=BP (w:=W) (M:=hM) (hom:=fun y=>(A.c y).i) (L:=bH (ak A x k s)) (Mx:=fun a y=>y≠x→bH (ak A x k s) a y) (fun a=>sJ) (q:=hh) (x:=x) (t:=t) (s:=s0) (by rw [H0.out.2.2.2.2.2.1];exact hhl) hxn
     (by rw [hn];exact H0.out.2.1.ff.mono (fun y q hy hu ho=>⟨(H0.out.2.1.ff.home y q hy hu).1,(H0.out.2.1.ff.home y q hy hu).2,fun hyx=>by
      have hle:=qA HLB.out;rw [π] at hle;have hc:=pO HLB.out hx
      by_cases e:q=x
      ·subst e;exact jw ho (by rw [hc,if_neg hyx]) (by rw [hc,if_pos rfl];exact hle)
      ·exact (dJ (by rw [hc,if_neg e]) (by rw [hc,if_neg hyx])).2 ho⟩) H0.out.2.1.ff.alone) HX.out.2.2.1 (by rw [hn];exact (H0.out.2.1.mI HX.out.2.2.1).2.2.1) h1
     (by
      rw [hn];intro p2 hp2;obtain rfl:p2=p1:=ω
      exact ⟨hpx,hp1h,o1,o2,o3⟩) (by rw [hn];exact fun y hy hyh hyt hyx=>hfirst y hy hyh hyt hyx)
    rw [hn] at this
    exact this)
   clear o1 o2 o3 hfirst
   go_wp2_with (first
    | ((go_at_call 140;(with_reducible refine (kh1 _ β).mono ?_));rintro e w2 ⟨rfl,hC2,hu2⟩;(have M2:=(HM1.out.1.aj (w':=_) (β:aa [] w1 _)).bI hu2 hC2 (fun y hy=>Or.inl hy) rfl rfl);(have d2:=M2.h2);(have d0:=M2.h0);(have p0:=M2.p0 hxn);rw [ux] at p0;(have ka:=KA.out _ _ M2);rw [HB.out] at ka;(have HM2:=χ (ψ M2 ((HM1.out.2.then (β:aa [] w1 _)).trans hu2)));clear M2 hC2 hu2)
    | ((go_at_call 174;(with_reducible refine (ka).mono ?_));rintro e w3 ⟨rfl,hC3,hu3⟩;(have kl:=KL.out _ _ (HM2.out.1.setSt hu3 hC3));(have HM3:=χ (ψ (HM2.out.1.setSt hu3 hC3) hu3));clear hC3 hu3)
    | ((go_at_call 225;(with_reducible refine (kl).mono ?_));rintro e w4 ⟨rfl,M4,hu4⟩;(have HM4:=χ (ψ M4 hu4));clear M4 hu4)
    | fail)
   have e1:dN (ak A x k s) hh x G=iL A.cs.length hh x G:=by unfold dN;rw [if_pos ⟨hup,by unfold mH;rw [ux,π];exact HB.out⟩,HX.out.1]
   have hRL:=HX.out.2.2.2;rw [e1] at hRL;refine oV (fun W=>dF W B F gt ct (ak A x k s) (bC st 1) (iL A.cs.length hh x G)∧aa (B.blk F gt) w W) ?_ ?_
   ·exact ⟨HM4.out.1,((HM2.out.2.mono gT).trans (HM3.out.2.mono (fun z hz=>by simp at hz;rw [hz];exact gT _ H0.out.2.2.2.2.1))).trans (HM4.out.2.mono (fun z hz=>by simp at hz;rcases hz with e|e|e<;>simp [FB.blk,e]))⟩
   have HE:=χ (ψ e1 hup);have HRL:=χ hRL;clear e1 hup d2 p0 kh1 b0 d0 ka ux hRL kl;rintro w5 ⟨M5,hU5⟩;have d3:=M5.h3;have dt:w5.cell? ⟨gt,hh,none⟩=some (.int .i64 (t:Int)):=by (have dt0:=M5.top (q:=hh) (by rw [H0.out.2.2.2.2.2.1];exact hhl);rw [HRL.out] at dt0;exact dt0)
   have df:=M5.ah.free hh;have hcap:=M5.cap;have hhI:(hh:Int)<((ak A x k s).hs.length:Int):=by rw [H0.out.2.2.2.2.2.1];omega
   have H5:=χ (ψ M5 hU5)
   by_cases htx:t=x
   ·subst htx;clear M5 hU5
    go_quiet (fail)
    go_wp2;go_ret;have eG:je (ak A t k s) hh t G=(iL A.cs.length hh t G):=by unfold je;rw [HE.out.1,HRL.out,if_neg (by simp [jN])]
    have eQ:ui (ak A t k s) hh t G=1+0:=by unfold ui;rw [HE.out.1,HRL.out,if_neg HE.out.2,if_pos (by rfl)]
    refine ⟨rfl,B.blk F gt,⟨⟨B,F,gt,ct,rfl,rfl,?_⟩,H0.out.2.2.2.1⟩,H5.out.2.drewN _,fun y hy=>Or.inl hy⟩
    rw [eG,eQ];exact H5.out.1.drewN _
   ·have hxt:((t:Int) == (x:Int))=false:=ζ;have hxt2:((t:Int) != (x:Int))=true:=ζ;have hxt3:¬ ((t:Int)=(x:Int)):=ω;have hin:=H0.out.2.2.2.2.2.2.1;have htin:=H0.out.2.2.2.2.2.2.2;have kc:=fun W (hW:aa [] w5 W)=>dC (M5.cells.aj hW) x t hin htin
    have hcn:=M5.cn;have mc:∀x,x≠B.c→x∉[B.c]:=fun x h1=>by simp [h1]
    have r0:∀W,aa [B.c] w5 W→W.cell? ⟨B.n0,0,none⟩=some (.pointer (some ⟨B.c,0,none⟩)):=fun W hW=>hW.kept M5.h0 (mc _ hcn.1)
    have r3:∀W,aa [B.c] w5 W→W.cell? ⟨B.n0,3,none⟩=some (.slice (some ⟨gt,0,none⟩) (ak A x k s).hs.length ct):=fun W hW=>hW.kept M5.h3 (mc _ hcn.1)
    have rt:∀W,aa [B.c] w5 W→W.cell? ⟨gt,hh,none⟩=some (.int .i64 (t:Int)):=fun W hW=>hW.kept dt (mc _ hcn.2.2.2.2.2)
    have rf:∀W,aa [B.c] w5 W→W.frozen? ⟨gt,hh,none⟩=false:=fun W hW=>hW.aO dt (mc _ hcn.2.2.2.2.2) df
    clear M5 hU5 d3 dt df;obtain ⟨b2,hb2⟩:∃b2,decide (bH (ak A x k s) x t)=b2:=⟨_,rfl⟩
    rw [hb2] at kc;have HB2:=χ hb2;clear hb2
    go_region_held3 (aa [B.c] w5) (repeat (first|assumption|exact aa.refl _ _|refine aa.drew ?_|refine aa.alloc ?_ _|refine aa.setCell ?_ ?_ _|focus (left;simp;done)|focus (right;simp;done)|focus (right;simp;omega)|(apply aa.trans;rotate_left;assumption)))
     (first
      | ((go_at_call 174;(with_reducible refine (kc _ β).mono ?_));rintro e w6 ⟨rfl,hC6,hu6⟩;(have hu7:aa [B.c] w5 w6:=aa.trans (by (repeat (first|assumption|exact aa.refl _ _|refine aa.drew ?_|refine aa.alloc ?_ _|refine aa.setCell ?_ ?_ _|focus (left;simp;done)|focus (right;simp;done)|focus (right;simp;omega)|(apply aa.trans;rotate_left;assumption)))) hu6)))
    have d3:=r3 _ hu7;have dt:=rt _ hu7;have df:=rf _ hu7;have M6:=H5.out.1.setSt hu7 hC6;have hU6:aa (B.blk F gt) w w6:=H5.out.2.trans (hu7.mono (fun z hz=>by simp at hz;rw [hz];exact gT _ H0.out.2.2.2.2.1))
    rw [gz] at M6;have H6:=χ (ψ M6 hU6);clear M6 hU6 hu7 hC6 hu6 r0 r3 rt rf kc;have eQ:ui (ak A x k s) hh x G=1+1:=by unfold ui;rw [HE.out.1,HRL.out,if_neg HE.out.2,if_neg (fun e=>htx (by have e2:(t:Int)=(x:Int):=e;omega))]
    have HQ:=χ eQ;clear eQ;cases b2 with
    | false=>
     go_wp2;go_ret;have eG:je (ak A x k s) hh x G=(iL A.cs.length hh x G):=by unfold je;rw [HE.out.1,HRL.out,if_neg (fun h=>by have h2:=h.2;unfold mH at h2;rw [show (jN (t::s')).toNat=t from by unfold jN;simp,HB2.out] at h2;cases h2)]
     refine ⟨rfl,B.blk F gt,⟨⟨B,F,gt,ct,rfl,rfl,?_⟩,H0.out.2.2.2.1⟩,by (have:=H6.out.2);(repeat (first|assumption|exact aa.refl _ _|refine aa.drew ?_|refine aa.alloc ?_ _|refine aa.setCell ?_ ?_ _|focus (left;simp;done)|focus (right;simp;done)|focus (right;simp;omega)|(apply aa.trans;rotate_left;assumption))),fun y hy=>Or.inl hy⟩
     rw [eG,HQ.out];exact H6.out.1
    | true=>
     go_wp2;go_ret;have eG:je (ak A x k s) hh x G=EZ hh x (iL A.cs.length hh x G):=by unfold je;rw [HE.out.1,HRL.out,if_pos ⟨fun e=>htx (by have e2:(t:Int)=(x:Int):=e;omega),by unfold mH;rw [show (jN (t::s')).toNat=t from by unfold jN;simp];exact HB2.out⟩]
     refine ⟨rfl,B.blk F gt,⟨⟨B,F,gt,ct,rfl,rfl,?_⟩,H0.out.2.2.2.1⟩,(H6.out.2).setCell (Or.inl (by simp [FB.blk])) _,fun y hy=>Or.inl hy⟩
     rw [eG,HQ.out];exact H6.out.1.fM hh (x::xG ((iL A.cs.length hh x G).R hh) x)
end
section
variable {w:World} {p:Nat} {FF:List Nat} {A:NS} {st:Nat} {G:FG}
theorem OQ (I:vT A G) (ok:A.Ok):G.R A.hs.length=[]:=by
 cases e:G.R A.hs.length with
 | nil=>rfl
 | cons x t=>
  have:=I.out (h:=A.hs.length) (z:=x) (by rw [e];simp)
  have:=ok.nat x this.2.1;omega
theorem GZ (h:tN w p FF A st G) :
  Calls Tryz.prog 222 #[.pointer (some ⟨p,0,none⟩)] w fun e w'=>e=.returned (.int .i64 (bS A))∧Goes FF w w' (fun FF'=>tN w' p FF' (aG A) st G):=by
 obtain ⟨⟨B,F,gt,ct,rfl,rfl,M⟩,I⟩:=h;have k:=fT M.cells;have h0:=M.h0;have I2:=Nz I
 by_cases hl:65536<A.hs.length
 ·have e1:bS A=0:=by unfold bS;rw [if_pos hl]
  have e2:aG A=A:=by unfold aG;rw [if_pos hl]
  rw [e1,e2] at k;rw [e1,e2];have HM:=χ M;have HI:=χ I;clear M I e1 e2 I2
  go_enter Tryz.func222,Tryz.ntmps222
  go_wp2_with ((go_at_call 156;(with_reducible refine (k).mono ?_));rintro e w1 ⟨rfl,F1,hC,hu,hF⟩)
  go_ret;exact ⟨rfl,B.blk F1 gt,⟨⟨B,F1,gt,ct,rfl,rfl,HM.out.bI hu hC hF rfl rfl⟩,HI.out⟩,hu.mono gT,Ms hF⟩
 ·have e1:bS A=A.hs.length:=by unfold bS;rw [if_neg hl]
  rw [e1] at k;rw [e1];have hcs:(aG A).cs.length=A.cs.length:=by unfold aG;rw [if_neg hl]
  have hhs:(aG A).hs.length=A.hs.length+1:=by unfold aG;rw [if_neg hl];simp
  have hh0:=M.cells.ok.h0;have hpos:(0:Int)<(A.hs.length:Int):=ω;have hfar:=OQ I M.cells.ok;have HM:=χ M;have HI:=χ (ψ I2 hfar);have hlb:A.hs.length≤65536:=ω;clear M I e1 I2 hfar
  go_enter Tryz.func222,Tryz.ntmps222
  go_wp2_with (first
   | ((go_at_call 156;(with_reducible refine (k).mono ?_));rintro e w1 ⟨rfl,F1,hC,hu,hF⟩;(have d3:=hu.kept HM.out.h3 HM.out.d1.1);(have f3:=hu.aO HM.out.h3 HM.out.d1.1 (HM.out.head.free 3));(have ho1:=ay HM.out.ah.own hu (fun g hg=>by simp [Value.ownBlock] at hg;subst hg;exact HM.out.d1.2.2.2.2.2));rw [qx] at ho1;(have g0:B.n0≠gt:=HM.out.d2.2.2.2.2);(have gl:=Nat.lt_of_lt_of_le (HM.out.lt gt (by simp [FB.blk])) hu.size))
   | ((at_builtin;refine aC rfl _ _ 26 rfl 0 3 (.int .i64 0) 1 8 Tryz.underlying26 cK rfl δ _ _ _ rfl (ho1) [.int .i64 (-1)] rfl (by simp [Value.oneCell']) (by first|rfl|(rw [World.size_alloc];rfl)) μ ω ω ?_;intro v2 w2 ho2 hu2 hsep2);(have hu2:aa [gt] w1 w2:=hu2);obtain ⟨gt1,ct1,ev,_⟩:=bY ho2 ω;subst ev;(have d4:=hu2.kept d3 ζ);(have f4:=hu2.aO d3 ζ f3)))
  go_ret;have hM:=HM.out;have hlt:=hM.lt;have f:=hM.d1;have q:=hM.d2;have r:=hM.d3;have hws:=hu.size;have hw3:aa [B.n0] w2 (w2.setCell ⟨B.n0,3,none⟩ (.slice (some ⟨gt1,0,none⟩) (A.hs.length+1) ct1)):=β;have hg1:gt1=gt∨w1.heap.size<gt1:=by
   rcases hsep2 with h|h
   ·exact Or.inl (Option.some.inj h)
   ·exact Or.inr (h gt1 rfl)
  have hC1:=hC.lt;have l0:=hlt B.n0 (by simp [FB.blk])
  have l1:=hlt B.br (by simp [FB.blk])
  have l2:=hlt B.bn (by simp [FB.blk])
  have l3:=hlt B.bp (by simp [FB.blk])
  have l4:=hlt B.bl (by simp [FB.blk])
  have l5:=hlt gt (by simp [FB.blk])
  have hnF:∀y,y<w.heap.size→y∉F→y∉F1:=fun y hy hn hm=>by rcases hF y hm with h'|h';exact hn h';omega
  have hgF:gt1∉F1:=by
   rcases hg1 with e|e
   ·rw [e];exact hnF gt l5 f.2.2.2.2.2
   ·exact fun hm=>by have:=hC1 gt1 hm;omega
  have hgn:∀y,y<w.heap.size→y≠gt→y≠gt1:=fun y hy hn e=>by
   rcases hg1 with e2|e2
   ·exact hn (e.trans e2)
   ·omega
  have hhd:=((hM.head.upd hu f.1).upd hu2 ζ).set 3 (.slice (some ⟨gt1,0,none⟩) (A.hs.length+1) ct1);have n2:∀y,y≠gt→y∉[gt]:=fun y h=>by simpa using h
  have n3:∀y,y≠B.n0→y∉[B.n0]:=fun y h=>by simpa using h
  have eT:gL G.R (A.hs.length+1)=gL G.R A.hs.length++[-1]:=by
   unfold gL;rw [List.range_succ,List.map_append];simp [HI.out.2,jN]
  have hBM:dF (w2.setCell ⟨B.n0,3,none⟩ (.slice (some ⟨gt1,0,none⟩) (A.hs.length+1) ct1)) B F1 gt1 ct1 (aG A) st G:=by
   refine ⟨?_,?_,?_,?_,⟨?_⟩,⟨hnF _ l0 f.1,hnF _ l1 f.2.1,hnF _ l2 f.2.2.1,hnF _ l3 f.2.2.2.1,hnF _ l4 f.2.2.2.2.1,hgF⟩,⟨q.1,q.2.1,q.2.2.1,q.2.2.2.1,hgn _ l0 q.2.2.2.2⟩,⟨r.1,r.2.1,r.2.2.1,hgn _ l4 r.2.2.2.1,(hgn _ l1 (Ne.symm r.2.2.2.2.1)).symm,(hgn _ l2 (Ne.symm r.2.2.2.2.2.1)).symm,(hgn _ l3 (Ne.symm r.2.2.2.2.2.2)).symm⟩⟩
   ·rw [hcs,hhs];refine hhd.ext (fun j hj=>?_)
    rcases (ω:j=0∨j=1∨j=2∨j=3) with rfl|rfl|rfl|rfl<;>rfl
   ·exact (hC.upd hu2 (fun y hy=>by simp at hy;rw [hy];exact hnF gt l5 f.2.2.2.2.2)).upd hw3 (fun y hy=>by simp at hy;rw [hy];exact hnF _ l0 f.1)
   ·rw [hcs];exact ((hM.rings.upd hu f.2.1 f.2.2.1 f.2.2.2.1).upd hu2 (n2 _ (Ne.symm r.2.2.2.2.1)) (n2 _ (Ne.symm r.2.2.2.2.2.1)) (n2 _ (Ne.symm r.2.2.2.2.2.2))).upd hw3 (n3 _ (Ne.symm q.1)) (n3 _ (Ne.symm q.2.1)) (n3 _ (Ne.symm q.2.2.1))
   ·rw [hcs];exact ((hM.pl.upd hu f.2.2.2.2.1).upd hu2 (n2 _ r.2.2.2.1)).upd hw3 (n3 _ (Ne.symm q.2.2.2.1))
   ·rw [hhs,qx,eT,aS];refine ay (iA ho2 (Nat.zero_le _)) hw3 (fun g hg hm=>?_)
    simp [Value.ownBlock] at hg hm;exact hgn _ l0 q.2.2.2.2 ω
  refine ⟨rfl,B.blk F1 gt1,⟨⟨B,F1,gt1,ct1,rfl,rfl,hBM⟩,HI.out.1⟩,((hu.mono gT).trans (hu2.mono (fun z hz=>by simp at hz;simp [FB.blk,hz]))).trans (hw3.mono (fun z hz=>by simp at hz;simp [FB.blk,hz])),fun y hy=>?_⟩
  simp only [FB.blk,List.mem_cons] at hy ⊢;rcases hy with e|e|e|e|e|e|e
  ·exact Or.inl (Or.inl e)
  ·exact Or.inl (Or.inr (Or.inl e))
  ·exact Or.inl (Or.inr (Or.inr (Or.inl e)))
  ·exact Or.inl (Or.inr (Or.inr (Or.inr (Or.inl e))))
  ·exact Or.inl (Or.inr (Or.inr (Or.inr (Or.inr (Or.inl e)))))
  ·rcases hg1 with e2|e2
   ·exact Or.inl (Or.inr (Or.inr (Or.inr (Or.inr (Or.inr (Or.inl (e.trans e2)))))))
   ·exact Or.inr ω
  ·rcases hF y e with h'|h'
   ·exact Or.inl (Or.inr (Or.inr (Or.inr (Or.inr (Or.inr (Or.inr h'))))))
   ·exact Or.inr h'
end
theorem Gy:(Tryz.prog.info? 225).map (fun i=>(i.zero,i.size,i.bytes))=some (some (.agg #[.int .i64 0,.int .i64 0,.int .i64 0,.bool false]),4,32):=by kernel_rfl
theorem Dt (n j:Nat) (hj:j<n*4):(madeCells #[Value.int .i64 0,.int .i64 0,.int .i64 0,.bool false] (n*4)).toList.getD j undef=yj (fun _=>0) (fun _=>0) (fun _=>0) (fun _=>false) j:=by
 rw [φ,List.getElem?_eq_getElem (by simp [size_madeCells];omega)]
 simp only [Option.getD_some,madeCells,Array.getElem_toList,Array.getElem_map,Array.getElem_range];unfold yj;rcases (ω:j % 4=0∨j % 4=1∨j % 4=2∨j % 4=3) with e|e|e|e<;>simp [e]
def upTo (k:Nat) (v:Int):Nat→Int:=fun i=>if i<k then v else 0
theorem Jh (k:Nat) (v:Int):ai (upTo k v) k v=upTo (k+1) v:=by
 funext i;unfold ai upTo
 by_cases e:i=k
 ·rw [if_pos e,if_pos ω]
 ·rw [if_neg e]
  by_cases h:i<k
  ·rw [if_pos h,if_pos ω]
  ·rw [if_neg h,if_neg ω]
theorem JR (n:Nat) (w:World) (h:n≤65536):Calls Tryz.prog 98 #[.int .i64 (n:Int)] w fun e w'=>∃p FF,e=.returned (.tuple #[.pointer (some ⟨p,0,none⟩),.int .i64 0])∧tN w' p FF (NS.new n) 0 FG.none∧aa [] w w'∧∀x,x∈FF→w.heap.size≤x:=by
 have kc:=kY n w h;have kr:=fun W=>Df n W h
 have hI:=χ (Oz n)
 go_enter Tryz.func98,Tryz.ntmps98
 go_wp2_with (first
  | ((go_at_call 107;(with_reducible refine (kc).mono ?_));rintro e w1 ⟨c,F,rfl,hC,hu1,hF⟩;(have HC:=χ (ψ hC (ψ hu1 hF)));clear hC hu1 hF)
  | ((go_at_call 110;(with_reducible refine (kr _).mono ?_));rintro e w2 ⟨br,bn,bp,rfl,hR,hu2,hb1,hb2,hb3⟩;(have HR:=χ (ψ hR (ψ hu2 (ψ hb1 (ψ hb2 hb3)))));clear hR hu2 hb1 hb2 hb3 kr)
  | (at_make;refine wpList_make_row rfl _ 221 rfl 225 (.agg #[.int .i64 0,.int .i64 0,.int .i64 0,.bool false]) 4 32 Tryz.underlying221 Gy n rfl ω μ ?_;intro w3 hr3 hu3))
 obtain ⟨W0,hW0⟩:∃W0,W0=(w3.alloc (.cells #[.int .i64 (-1)] 3)).alloc (.cells #[.pointer (some ⟨c,0,none⟩),.pointer (some ⟨br,0,none⟩),.slice (some ⟨w2.heap.size,0,none⟩) n n,.slice (some ⟨w3.heap.size,0,none⟩) 1 1] 223):=⟨_,rfl⟩
 have hu0:aa [] w3 W0:=by rw [hW0];(repeat (first|assumption|exact aa.refl _ _|refine aa.alloc ?_ _|refine aa.drew ?_|refine aa.drewN ?_ _|refine aa.setCell ?_ ?_ _|focus (left;simp;done)|focus (right;simp;done)|focus (right;simp;omega)))
 have hhead:=dm (w3.alloc (.cells #[.int .i64 (-1)] 3)) [.pointer (some ⟨c,0,none⟩),.pointer (some ⟨br,0,none⟩),.slice (some ⟨w2.heap.size,0,none⟩) n n,.slice (some ⟨w3.heap.size,0,none⟩) 1 1] 223;rw [World.size_alloc] at hhead;have hz1:IZ (w3.alloc (.cells #[.int .i64 (-1)] 3)) w3.heap.size 1 [-1]:=IZ.lit w3 [-1] σ;have hz0:IZ W0 w3.heap.size 1 [-1]:=by rw [hW0];exact hz1.upd ((aa.refl [] _).alloc _) σ
 have hhd:aI W0 (w3.heap.size+1) 223 4 (fun j=>[Value.pointer (some ⟨c,0,none⟩),.pointer (some ⟨br,0,none⟩),.slice (some ⟨w2.heap.size,0,none⟩) n n,.slice (some ⟨w3.heap.size,0,none⟩) 1 1].getD j undef):=by rw [hW0];exact hhead
 have hzz:(Value.agg #[.int .i64 0,.int .i64 0,.int .i64 0,.bool false]).cells=#[.int .i64 0,.int .i64 0,.int .i64 0,.bool false]:=rfl;rw [hzz] at hr3;have hr0:aI W0 w2.heap.size 225 (n*4) (yj (upTo 0 (-1)) (upTo 0 (-1)) (fun _=>0) (fun _=>false)):=by
  refine ((hr3.upd hu0 σ).ext (fun j hj=>?_))
  rw [Dt n j hj];unfold upTo;simp
 have hl3:=hr3.lt;have hs3:=hu3.size;have H0:=χ (ψ hu0 (ψ hz0 (ψ hhd (ψ hr0 (ψ hu3 hW0)))));have hne:w3.heap.size+1≠w2.heap.size:=ω;clear hu0 hz0 hhd hr0 hz1 hhead hr3 hu3;rw [←hW0];clear hW0
 go_loopw [34] (fun s34 wr=>∃k:Nat,k≤n∧s34=.int .i64 (k:Int)∧aI wr w2.heap.size 225 (n*4) (yj (upTo k (-1)) (upTo k (-1)) (fun _=>0) (fun _=>false))∧aa [w2.heap.size] W0 wr) (fun s34 _=>n-(intOf s34).toNat)
 case atStart=>exact ⟨0,ω,rfl,H0.out.2.2.2.1,aa.refl _ _⟩
 case round=>
  obtain ⟨k,hk,rfl,hr,hu⟩:=hrel;rename World=>wr
  by_cases hkn:k<n
  ·have hkI:(k:Int)<(n:Int):=ω;have hw1:IntKind.i64.wrap ((k:Int)+1)=(k:Int)+1:=IntWalk.i64_in _ ω;have d2:wr.cell? ⟨w3.heap.size+1,2,none⟩=some (.slice (some ⟨w2.heap.size,0,none⟩) n n):=hu.kept (H0.out.2.2.1.cellAt 2 ω rfl) (by simpa using hne)
   have p0:=hr.cellAt (k*4) ω (vC _ _ _ _ k);have p1:=hr.cellAt (k*4+1) ω (vB _ _ _ _ k);have p2:=hr.cellAt (k*4+2) ω (vD _ _ _ _ k);have p3:=hr.cellAt (k*4+3) ω (vv _ _ _ _ k);have f0:=hr.free (k*4);have f1:=hr.free (k*4+1);have f2:=hr.free (k*4+2);have f3:=hr.free (k*4+3);have hlr:=hr.lt;have HR2:=χ (ψ hr hu);clear hr hu;go_wp2
   go_region_with (first
    | ((go_at_call 111;(with_reducible refine (xD _).mono ?_));rintro e w5 ⟨rfl,hu5⟩;(have hv:aa [] wr w5:=aa.trans β hu5);(have v0:=hv.was p0);(have v1:=hv.was p1);(have v2:=hv.was p2);(have v3:=hv.was p3);(have v4:=hv.was d2);(have z0:=hv.aO p0 σ f0);(have z1:=hv.aO p1 σ f1);(have z2:=hv.aO p2 σ f2);(have z3:=hv.aO p3 σ f3))
    | fail)
   all_goals
    go_wp2;have hr:=HR2.out.1.upd hv σ;have hu6:aa [w2.heap.size] W0 w5:=HR2.out.2.then hv;refine ⟨⟨k+1,ω,by go_num,?_,by (repeat (first|assumption|exact aa.refl _ _|refine aa.drew ?_|refine aa.alloc ?_ _|refine aa.setCell ?_ ?_ _|focus (left;simp;done)|focus (right;simp;done)|focus (right;simp;omega)|(apply aa.trans;rotate_left;assumption)))⟩,by simp [intOf];omega⟩
    have:=mO (oL (mM (oQ hr k (-1)) k (-1)) k 0) k false;rw [Jh] at this;refine this.ext (fun j _=>?_)
    rw [show ai (fun _=>(0:Int)) k 0=(fun _=>0) from by funext z;unfold ai;split<;>rfl,show ai (fun _=>false) k false=(fun _=>false) from by funext z;unfold ai;split<;>rfl]
  ·obtain rfl:k=n:=ω;have HR2:=χ (ψ hr hu);clear hr hu;go_wp2;go_ret2;obtain ⟨hr,hu⟩:=HR2.out;obtain ⟨hu0,hz0,hhd,_,hu3,_⟩:=H0.out;obtain ⟨hC,hu1,hF⟩:=HC.out;obtain ⟨hR,hu2,hb1,hb2,hb3⟩:=HR.out;have hcs:(NS.new k).cs.length=k:=by simp [NS.new]
   have hhs:(NS.new k).hs.length=1:=rfl;have hCl:=hC.lt;have hRl:=hR.lt;have s1:=hu1.size;have s2:=hu2.size;have s3:=hu3.size;have s0:=hu0.size;have hFn:∀y,w1.heap.size≤y→y∉F:=fun y hy hm=>by have:=hCl y hm;omega
   have hM:dF wr ⟨w3.heap.size+1,c,br,bn,bp,w2.heap.size⟩ F w3.heap.size 1 (NS.new k) 0 FG.none:=by
    refine ⟨?_,?_,?_,?_,?_,⟨hFn _ ζ,hFn _ hb1,hFn _ hb2,hFn _ hb3,hFn _ s2,hFn _ ω⟩,⟨ζ,ζ,ζ,ζ,σ⟩,⟨ζ,ζ,ζ,ζ,ζ,ζ,ζ⟩⟩
    ·rw [hcs,hhs];exact hhd.upd hu (by simpa using hne)
    ·exact ((hC.aj ((hu2.trans hu3).trans hu0))).upd hu (fun y hy=>by simp at hy;rw [hy];exact hFn _ s2)
    ·rw [hcs];exact (hR.aj (hu3.trans hu0)).upd hu ζ ζ ζ
    ·rw [hcs];refine hr.ext (fun j hj=>?_)
     unfold lI;obtain ⟨a,e⟩:=four j;have ha:a<k:=ω;rcases e with rfl|rfl|rfl|rfl
     ·rw [vC,vC];unfold upTo;rw [if_pos ha];rfl
     ·rw [vB,vB];unfold upTo;rw [if_pos ha];rfl
     ·rw [vD,vD];rfl
     ·rw [vv,vv];rfl
    ·exact hz0.upd hu ζ
   refine ⟨_,_,rfl,⟨⟨⟨w3.heap.size+1,c,br,bn,bp,w2.heap.size⟩,F,w3.heap.size,1,rfl,rfl,hM⟩,hI.out⟩,(((hu1.trans hu2).trans hu3).trans hu0).joined hu (fun y hy=>by simp at hy;rw [hy];right;omega),fun y hy=>?_⟩
   simp only [FB.blk,List.mem_cons] at hy;rcases hy with e|e|e|e|e|e|e
   ·omega
   ·omega
   ·omega
   ·omega
   ·omega
   ·omega
   ·exact hF y e
theorem Dc (p c:Nat):∀W:World,W.cell? ⟨p,0,none⟩=some (.pointer (some ⟨c,0,none⟩))→(method 429 182 (.pointer (some ⟨p,0,none⟩)) "Has").run Tryz.prog W=.ok (139,.pointer (some ⟨c,0,none⟩)) W:=(by intro W h;unfold method;have hm:∃m,(Array.find? (fun x=>x.name == "Has") Tryz.t182.methods)=some m∧m.path.toList=[⟨223,0,true⟩]∧m.func=some (139,true)∧m.path.isEmpty=false:=⟨(Array.find? (fun x=>x.name == "Has") Tryz.t182.methods).get!,by kernel_rfl,by kernel_rfl,by kernel_rfl,by kernel_rfl⟩;obtain ⟨m,h1,h2,h3,h4⟩:=hm;go_simp;simp only [follow,Place.get];go_simp;(try unfold receiverAt);(try simp only [Place.get]);(try go_simp))
theorem yt (p c:Nat):∀W:World,W.cell? ⟨p,0,none⟩=some (.pointer (some ⟨c,0,none⟩))→(method 429 182 (.pointer (some ⟨p,0,none⟩)) "Entry").run Tryz.prog W=.ok (137,.pointer (some ⟨c,0,none⟩)) W:=(by intro W h;unfold method;have hm:∃m,(Array.find? (fun x=>x.name == "Entry") Tryz.t182.methods)=some m∧m.path.toList=[⟨223,0,true⟩]∧m.func=some (137,true)∧m.path.isEmpty=false:=⟨(Array.find? (fun x=>x.name == "Entry") Tryz.t182.methods).get!,by kernel_rfl,by kernel_rfl,by kernel_rfl,by kernel_rfl⟩;obtain ⟨m,h1,h2,h3,h4⟩:=hm;go_simp;simp only [follow,Place.get];go_simp;(try unfold receiverAt);(try simp only [Place.get]);(try go_simp))
theorem LP (p:Nat):∀W:World,(method 429 182 (.pointer (some ⟨p,0,none⟩)) "Make").run Tryz.prog W=.ok (222,.pointer (some ⟨p,0,none⟩)) W:=fun _=>by kernel_rfl
theorem El (p:Nat):∀W:World,(method 429 182 (.pointer (some ⟨p,0,none⟩)) "Insert").run Tryz.prog W=.ok (221,.pointer (some ⟨p,0,none⟩)) W:=fun _=>by kernel_rfl
theorem Ml (p:Nat):∀W:World,(method 429 182 (.pointer (some ⟨p,0,none⟩)) "Min").run Tryz.prog W=.ok (224,.pointer (some ⟨p,0,none⟩)) W:=fun _=>by kernel_rfl
theorem Cm (p:Nat):∀W:World,(method 429 182 (.pointer (some ⟨p,0,none⟩)) "Extract").run Tryz.prog W=.ok (220,.pointer (some ⟨p,0,none⟩)) W:=fun _=>by kernel_rfl
theorem AA (p:Nat):∀W:World,(method 429 182 (.pointer (some ⟨p,0,none⟩)) "Decrease").run Tryz.prog W=.ok (218,.pointer (some ⟨p,0,none⟩)) W:=fun _=>by kernel_rfl
theorem uD {w w':World} {p:Nat} {F S:List Nat} {A:NS} {st:Nat} {G:FG} (h:tN w p F A st G) (hu:aa S w w') (hS:∀x,x∈S→x∉F):tN w' p F A st G:=h.upd hu hS
theorem Pw {w:World} {p:Nat} {F:List Nat} {A:NS} {st:Nat} {G:FG} (h:tN w p F A st G):∀x,x∈F→x<w.heap.size:=h.lt
theorem LZ {w:World} {p:Nat} {F:List Nat} {A:NS} {st:Nat} {G:FG} (h:tN w p F A st G):A.Ok:=h.ok
theorem NK {w:World} {p:Nat} {F:List Nat} {A:NS} {st:Nat} {G:FG} (h:tN w p F A st G):∃c F1,w.cell? ⟨p,0,none⟩=some (.pointer (some ⟨c,0,none⟩))∧az w c F1 A st:=by
 obtain ⟨c,F1,h0,hC, -⟩:=h.cl;exact ⟨c,F1,h0,hC⟩
def FbQ (w:World) (p:Nat) (F:List Nat) (A:NS):Prop:=∃st G,tN w p F A st G
noncomputable def vJ:fJ where
 ty:=182
 at_:=FbQ
 upd:=fun h hu hS=>by
  obtain ⟨st,G,hL⟩:=h;exact ⟨st,G,uD hL hu hS⟩
 lt:=fun h=>by
  obtain ⟨st,G,hL⟩:=h;exact Pw hL
 ok:=fun h=>by
  obtain ⟨st,G,hL⟩:=h;exact LZ hL
 make:=fun {w p F A} h=>by
  obtain ⟨st,G,hL⟩:=h;refine aN 222 (fun _ _=>by kernel_rfl) (LP _) (fun W hW=>?_)
  refine (GZ (uD hL hW σ)).mono ?_;rintro e w' ⟨rfl,F',hA,hu,hf⟩;exact ⟨rfl,F',⟨_,_,hA⟩,hu,hf⟩
 insert:=fun {w p F A} g y k s hk hB h=>by
  obtain ⟨st,G,hL⟩:=h;refine aN 221 (fun _ _=>by kernel_rfl) (El _) (fun W hW=>?_)
  refine (Cx (uD hL hW σ) g y k s hk hB).mono ?_;rintro e w' ⟨rfl,F',hA,hu,hf⟩;exact ⟨rfl,F',⟨_,_,hA⟩,hu,hf⟩
 min:=fun {w p F A} y hB h=>by
  obtain ⟨st,G,hL⟩:=h;refine aN 224 (fun _ _=>by kernel_rfl) (Ml _) (fun W hW=>?_)
  have hLW:=uD hL hW σ;have hok:=LZ hL;have h4:=(aK _ _).1 hB;have h5:=hok.h1;refine (Cc hLW (y:Int) ω).mono ?_;rintro e w' ⟨rfl,rfl⟩;exact ⟨rfl,Goes.stay ⟨_,_,hLW⟩ (aa.refl _ _)⟩
 extract:=fun {w p F A} y m hm h=>by
  obtain ⟨st,G,hL⟩:=h;refine aN 220 (fun _ _=>by kernel_rfl) (Cm _) (fun W hW=>?_)
  have hLW:=uD hL hW σ;have e2:qM A (y:Int)=aL A (m:Int):=by unfold qM;rw [hm]
  have hok:=LZ hL;obtain ⟨m1,m2,m3,m4⟩:=j3 hm;have hB:aY A (y:Int)=true:=by rw [←m3];have:=gN hok m4;simpa using this
  have h4:=(aK _ _).1 hB;have h5:=hok.h1;have k:=zP hLW (y:Int) ω;rw [e2,hm] at k;refine k.mono ?_;rintro e w' ⟨rfl,F',hA,hu,hf⟩;exact ⟨rfl,F',⟨_,_,hA⟩,hu,hf⟩
 lQ:=fun {w p F A} y k s hk hB h=>by
  obtain ⟨st,G,hL⟩:=h;refine aN 218 (fun _ _=>by kernel_rfl) (AA _) (fun W hW=>?_)
  have hLW:=uD hL hW σ;have hin:=pK hB;have hi:=(af _ _).1 hin;obtain ⟨hh,hxh⟩:∃hh:Nat,(A.c y).i=hh:=⟨(A.c y).i.toNat,ω⟩
  refine (JJ hLW y k s hk hB hxh).mono ?_;rintro e w' ⟨rfl,F',hA,hu,hf⟩;exact ⟨rfl,F',⟨_,_,hA⟩,hu,hf⟩
 has:=fun x h=>by
  obtain ⟨st,G,hL⟩:=h;obtain ⟨c,F1,h0,hC⟩:=NK hL;exact fK 139 (fun _ _=>by kernel_rfl) h0 (Dc _ _) (fun W hW=>iq (hC.aj hW) x)
 entry:=fun {w p F A} x h=>by
  obtain ⟨st,G,hL⟩:=h;obtain ⟨c,F1,h0,hC⟩:=NK hL;refine fK 137 (fun _ _=>by kernel_rfl) h0 (yt _ _) (fun W hW=>?_)
  cases hin:bD A x with
  | false=>simpa using jB (hC.aj hW) x hin
  | true=>
   obtain ⟨y,rfl⟩:=nJ hin;simpa using iI (hC.aj hW) y hin
theorem Dl (p:Nat) (w:World):Calls Tryz.prog 97 #[.pointer (some ⟨p,0,none⟩),.int .i64 0] w fun e w'=>e=.returned (.tuple #[.iface 182 (.pointer (some ⟨p,0,none⟩)),.int .i64 0])∧w'=w:=by
 go_enter Tryz.func97,Tryz.ntmps97
 go_wp2;go_ret2;exact ⟨rfl,rfl⟩
theorem KT (n:Nat) (hn:n≤65536):jX vJ 5 0 n:=by
 intro w;have kn:=fun W=>JR n W hn
 have km:=Dl;have hty:vJ.ty=182:=rfl;have hat:∀w' p FF,tN w' p FF (NS.new n) 0 FG.none→vJ.at_ w' p FF (NS.new n):=fun w' p FF h=>⟨_,_,h⟩
 generalize vJ=K at *
 rw [hty]
 go_enter Tryz.func81,Tryz.ntmps81
 go_wp2_with (first
  | ((go_at_call 98;(with_reducible refine (kn _).mono ?_));rintro e w1 ⟨pn,FF,rfl,hS,hu1,hf⟩)
  | ((go_at_call 97;(with_reducible refine (km _ _).mono ?_));rintro e w2 ⟨rfl,rfl⟩)
  | fail)
 go_ret2;exact ⟨pn,FF,rfl,hat _ _ _ hS,aa.trans β hu1,fun x hx=>by have:=hf x hx;simp at this;omega⟩
end Go.Proofs.YtklibcncmbofpaaGreat
