/-
  Lemmas for RankSorts: Lf15, Lf16, LfQ, TOps. Conditions: those of each lemma.
-/
import Derived.Test.YtklibcncmbofpaaGreatP07
import Derived.Test.YtklibcncmbofpaaGreatP15
set_option maxHeartbeats 8000000
set_option maxRecDepth 10000
set_option linter.unusedVariables false
set_option linter.unusedSimpArgs false
namespace Go.Proofs.YtklibcncmbofpaaGreat
open Go Go.RowKit
theorem Bf {A:NS} {P:List Fr} {x:Nat} {l r:BT} {k s:Int} (hB:iy A x k s=true) (hx:x<A.cs.length) (hn:(ae P (.node x l r)).nodes.Nodup) (hH:Heap A (ae P (.node x l r))) :
  Heap (ak A x k s) (ae P .nil)∧Heap (ak A x k s) (.node x l r):=by
 have h1:=nH hn;have hs:=pF hH;refine ⟨(qi (t':=.nil) hH trivial (fun y hy=>by cases hy)).frame (fun y hy=>?_),KO hB hx hs ?_⟩
 ·rw [pO hB hx,if_neg];intro e;rw [e,aA] at hy;rcases hy with hy|hy
  ·cases hy
  ·exact h1.1.2.2 hy
 ·have:=(aJ P (.node x l r)).nodup_iff.1 hn;rw [List.nodup_append] at this;exact this.1
section
variable {w:World} {B:LB} {F:List Nat} {gt ct:Nat} {A:NS} {st:Nat} {tr:Nat→BT} {S:TS} {rk:Nat→Nat} {ah:List Int}
def EF (w':World) (B:LB) (F:List Nat) (gt ct:Nat) (A':NS) (st:Nat) (S:TS) (rk:Nat→Nat) (ah:List Int) (g:Nat) (X:List Nat) (T:BT):Prop:=
 ∃S' rk' tops',jh w' B F gt ct A' st S' rk' tops'∧bG S' (-1) T.root T∧dV rk' T∧(∀y,y∉X→S.at S' y∧rk' y=rk y)∧
  ∀q,q<A'.hs.length→tops'.getD q 0=if q=g then T.root else ah.getD q 0
theorem KE (hM:jh w B F gt ct A st S rk ah) {g x:Nat} {l r:BT} {k s:Int} (hk:-9223372036854775808≤k∧k≤9223372036854775807∧0≤s∧s≤18446744073709551615) (hB:iy A x k s=true)
  (hg:(A.c x).i=g) (hg0:0<g) (htop:ah.getD g 0=x) (hxl:x<A.cs.length) (hT:bG S (-1) (BT.node x l r).root (.node x l r)) (hR:dV rk (.node x l r)) :
  Calls Tryz.prog 237 #[.pointer (some ⟨B.n0,0,none⟩),.int .i64 (x:Int),.agg #[.int .i64 k,.int .u64 s]] w fun e w'=>e=.returned (.bool true)∧aa (B.blk F gt) w w'∧
   EF w' B F gt ct (ak A x k s) st S rk ah g (BT.node x l r).nodes (.node x l r):=by
 have hcs:=eB A x k s;have hhs:=jm A x k s;have hin':bD (ak A x k s) (x:Int)=true:=(af _ x).2 ⟨by rw [hcs];exact hxl,by rw [fP hB hxl,hg];omega⟩
 have hi':((ak A x k s).c x).i=g:=by rw [fP hB hxl,hg]
 have hux:S.u x=-1:=hT.2.1;have u1:aa [] w (w.alloc (.cells #[.int .i64 k,.int .u64 s] 129)):=(aa.refl _ _).alloc _;have kp:=fun W (hW:aa [] (w.alloc (.cells #[.int .i64 k,.int .u64 s] 129)) W)=>fE (hM.cells.aj (u1.trans hW)) x k s hk hB
 have h0:=hM.h0;have hbF:B.n0∉F:=hM.aZ.1;have hlt:=hM.lt;have hsz:w.heap.size∉F:=fun hm=>by have:=hlt w.heap.size (by simp [LB.blk,hm]);omega
 have r0:∀W,aa F (w.alloc (.cells #[.int .i64 k,.int .u64 s] 129)) W→W.cell? ⟨B.n0,0,none⟩=some (.pointer (some ⟨B.c,0,none⟩)):=fun W hW=>hW.kept (u1.was h0) hbF
 have r1:∀W,aa F (w.alloc (.cells #[.int .i64 k,.int .u64 s] 129)) W→W.cell? ⟨w.heap.size,0,none⟩=some (.int .i64 k):=fun W h=>h.kept σ hsz
 have r2:∀W,aa F (w.alloc (.cells #[.int .i64 k,.int .u64 s] 129)) W→W.cell? ⟨w.heap.size,1,none⟩=some (.int .u64 s):=fun W h=>h.kept σ hsz
 have HM:=χ hM;have HG:=χ (ψ htop (ψ hT hR));clear hM hT hR htop hlt h0 hg;generalize hA':ak A x k s=A' at *
 go_enter Tryz.func237,Tryz.ntmps237
 go_wp2
 go_region_held3 (aa F (w.alloc (.cells #[.int .i64 k,.int .u64 s] 129))) (repeat (first|assumption|exact aa.refl _ _|refine aa.drew ?_|refine aa.alloc ?_ _|refine aa.setCell ?_ ?_ _|focus (left;simp;done)|focus (right;simp;done)|focus (right;simp;omega)|(apply aa.trans;rotate_left;assumption)))
  ((go_at_call 147;(with_reducible refine (kp _ β).mono ?_);rintro e w1 ⟨rfl,hC1,hu1⟩;(have hu2:aa F (w.alloc (.cells #[.int .i64 k,.int .u64 s] 129)) w1:=by (repeat (first|assumption|exact aa.refl _ _|refine aa.drew ?_|refine aa.alloc ?_ _|refine aa.setCell ?_ ?_ _|focus (left;simp;done)|focus (right;simp;done)|focus (right;simp;omega)|(apply aa.trans;rotate_left;assumption))))))
 have uF:aa F w (w.alloc (.cells #[.int .i64 k,.int .u64 s] 129)):=u1.mono σ;have hM1:=HM.out.bI (uF.trans hu2) hC1 (fun y hy=>Or.inl hy) hcs (by rw [hhs])
 have kh:=bZ hM1.cells x hin';rw [hi'] at kh;have g10:=hM1.h0;have HM1:=χ hM1;have u01:=χ (uF.trans hu2);clear r0 r1 r2 kp hu1 hu2 hC1 hM1 uF
 go_wp2_with (first
  | ((go_at_call 140;(with_reducible refine (kh).mono ?_));rintro e w2 ⟨rfl,hC2,hu2⟩;(have g21:=(HM1.out.bI hu2 hC2 (fun y hy=>Or.inl hy) rfl rfl).h1);(have kc:=zS B.bt B.ba A'.cs.length S (x:Int) w2 (HM1.out.bI hu2 hC2 (fun y hy=>Or.inl hy) rfl rfl).trees (by unfold mF;rw [if_pos ω,π];exact hux)))
  | (go_at_call 244;(with_reducible refine (kc).mono ?_);rintro e w9 ⟨rfl,hw9⟩;rw [hw9];clear hw9 w9)
  | fail)
 go_ret;refine ⟨rfl,(u01.out.trans hu2).mono (fun y hy=>by simp only [LB.blk,List.mem_cons];simp [hy]),S,rk,ah,HM1.out.bI hu2 hC2 (fun y hy=>Or.inl hy) rfl rfl,HG.out.2.1,HG.out.2.2,fun y _=>⟨⟨rfl,rfl,rfl⟩,rfl⟩,fun q hq=>?_⟩
 by_cases e:q=g
 ·rw [if_pos e,e,HG.out.1];rfl
 ·rw [if_neg e]
theorem MF (hM:jh w B F gt ct A st S rk ah) {g x:Nat} {f:Fr} {P:List Fr} {l r:BT} {k s:Int} (hk:-9223372036854775808≤k∧k≤9223372036854775807∧0≤s∧s≤18446744073709551615) (hB:iy A x k s=true)
  (hg:(A.c x).i=g) (hg0:0<g) (hgt:g<ah.length) (htop:ah.getD g 0=(ae (f::P) (.node x l r)).root) (hT:bG S (-1) (ae (f::P) (.node x l r)).root (ae (f::P) (.node x l r))) (hn:(ae (f::P) (.node x l r)).nodes.Nodup)
  (hR:dV rk (ae (f::P) (.node x l r))) (hall:∀y,y∈(ae (f::P) (.node x l r)).nodes→bD A (y:Int)=true) :
  Calls Tryz.prog 237 #[.pointer (some ⟨B.n0,0,none⟩),.int .i64 (x:Int),.agg #[.int .i64 k,.int .u64 s]] w fun e w'=>e=.returned (.bool true)∧aa (B.blk F gt) w w'∧
   EF w' B F gt ct (ak A x k s) (bC st (aF au (ak A x k s) (lL (f::P) (.node x l r) .nil) (.node x l r)).2) S rk ah g (ae (f::P) (.node x l r)).nodes (aF au (ak A x k s) (lL (f::P) (.node x l r) .nil) (.node x l r)).1:=by
 have hcs:=eB A x k s;have hhs:=jm A x k s;have hxl:x<A.cs.length:=by
  have:=hall x (aA.2 (Or.inl (by simp [BT.nodes])))
  exact ((af A x).1 this).1
 have hin':bD (ak A x k s) (x:Int)=true:=(af _ x).2 ⟨by rw [hcs];exact hxl,by rw [fP hB hxl,hg];omega⟩
 have hi':((ak A x k s).c x).i=g:=by rw [fP hB hxl,hg]
 have hall':∀y,y∈(ae (f::P) (.node x l r)).nodes→bD (ak A x k s) (y:Int)=true:=fun y hy=>by
  have:=(af A y).1 (hall y hy);exact (af _ y).2 ⟨by rw [hcs];exact this.1,by rw [fP hB hxl];exact this.2⟩
 have hlt':∀y,y∈(ae (f::P) (.node x l r)).nodes→y<(ak A x k s).cs.length:=fun y hy=>((af _ y).1 (hall' y hy)).1
 have hpn:=(aJ (f::P) (.node x l r)).nodup_iff.1 hn;have hrr:=(vR _ _).1 hR;rw [List.nodup_append] at hpn;have hn0:(ae (f::P) .nil).nodes.Nodup:=(aJ (f::P) .nil).nodup_iff.2 (by simpa [BT.nodes] using hpn.2.1)
 have hmem0:∀y,y∈(ae (f::P) .nil).nodes↔y∈bV (f::P):=fun y=>by rw [aA];simp [BT.nodes]
 have hfm:∀y,y∈(lL (f::P) (.node x l r) .nil).nodes↔y∈bV (f::P):=fun y=>by rw [(qc _ _ _).mem_iff];exact hmem0 y
 have hfn:(lL (f::P) (.node x l r) .nil).nodes.Nodup:=(qc _ _ _).nodup_iff.2 hn0;have hXn:((lL (f::P) (.node x l r) .nil).nodes++(BT.node x l r).nodes).Nodup:=by
  rw [List.nodup_append];exact ⟨hfn,hpn.1,fun a ha b hb e=>hpn.2.2 b hb a ((hfm a).1 ha) e.symm⟩
 have hXm:∀y,y∈(lL (f::P) (.node x l r) .nil).nodes++(BT.node x l r).nodes→y∈(ae (f::P) (.node x l r)).nodes:=fun y hy=>by
  rw [List.mem_append,hfm] at hy;rw [aA];exact hy.symm
 have hrt:(ae (f::P) (.node x l r)).root=(lL (f::P) (.node x l r) .nil).root:=by rw [Bp];exact iO _ _ _ _
 rw [hrt] at htop;have u1:aa [] w (w.alloc (.cells #[.int .i64 k,.int .u64 s] 129)):=(aa.refl _ _).alloc _;have kp:=fun W (hW:aa [] (w.alloc (.cells #[.int .i64 k,.int .u64 s] 129)) W)=>fE (hM.cells.aj (u1.trans hW)) x k s hk hB
 have h0:=hM.h0;have hbF:B.n0∉F:=hM.aZ.1;have hlt:=hM.lt;have hsz:w.heap.size∉F:=fun hm=>by have:=hlt w.heap.size (by simp [LB.blk,hm]);omega
 have r0:∀W,aa F (w.alloc (.cells #[.int .i64 k,.int .u64 s] 129)) W→W.cell? ⟨B.n0,0,none⟩=some (.pointer (some ⟨B.c,0,none⟩)):=fun W hW=>hW.kept (u1.was h0) hbF
 have r1:∀W,aa F (w.alloc (.cells #[.int .i64 k,.int .u64 s] 129)) W→W.cell? ⟨w.heap.size,0,none⟩=some (.int .i64 k):=fun W h=>h.kept σ hsz
 have r2:∀W,aa F (w.alloc (.cells #[.int .i64 k,.int .u64 s] 129)) W→W.cell? ⟨w.heap.size,1,none⟩=some (.int .u64 s):=fun W h=>h.kept σ hsz
 have HM:=χ hM;have HSE:=χ (ψ hM.sep hM.aZ);have HG:=χ (ψ hT (ψ hn (ψ hrr (ψ hall' hlt'))));have HX:=χ (ψ hXn hXm);have H0:=χ (ψ hn0 (ψ hmem0 hfm));have hAh:=hM.cells.ok.h1;have hA:=hM.cells.ok.c1;clear hM hT hR hn hall hall' hlt' hpn hrr hlt h0 hg hXn hXm hn0 hmem0 hfm hfn hrt hbF hsz;generalize hA':ak A x k s=A' at *
 go_enter Tryz.func237,Tryz.ntmps237
 go_wp2
 go_region_held3 (aa F (w.alloc (.cells #[.int .i64 k,.int .u64 s] 129))) (repeat (first|assumption|exact aa.refl _ _|refine aa.drew ?_|refine aa.alloc ?_ _|refine aa.setCell ?_ ?_ _|focus (left;simp;done)|focus (right;simp;done)|focus (right;simp;omega)|(apply aa.trans;rotate_left;assumption)))
  ((go_at_call 147;(with_reducible refine (kp _ β).mono ?_);rintro e w1 ⟨rfl,hC1,hu1⟩;(have hu2:aa F (w.alloc (.cells #[.int .i64 k,.int .u64 s] 129)) w1:=by (repeat (first|assumption|exact aa.refl _ _|refine aa.drew ?_|refine aa.alloc ?_ _|refine aa.setCell ?_ ?_ _|focus (left;simp;done)|focus (right;simp;done)|focus (right;simp;omega)|(apply aa.trans;rotate_left;assumption))))))
 have uF:aa F w (w.alloc (.cells #[.int .i64 k,.int .u64 s] 129)):=u1.mono σ;have hM1:=HM.out.bI (uF.trans hu2) hC1 (fun y hy=>Or.inl hy) hcs (by rw [hhs])
 have kh:=bZ hM1.cells x hin';rw [hi'] at kh;have g10:=hM1.h0;have HM1:=χ hM1;have u01:=χ (uF.trans hu2);clear r0 r1 r2 kp hu1 hu2 hC1 hM1 uF;have kcw:∀w2,aa F w1 w2→az w2 B.c F A' st→_:=fun w2 hu2 hC2=>lG (HM1.out.bI hu2 hC2 (fun y hy=>Or.inl hy) rfl rfl).trees (f:=f) (P:=P) (t:=.node x l r) HG.out.1 HG.out.2.1 HG.out.2.2.2.2
 rw [show BT.root (.node x l r)=(x:Int) from rfl,show cutV f (.node x l r)=(f.1:Int) by unfold cutV;rw [if_neg (by show ¬ (x:Int)=-1;omega)],Ab] at kcw
 go_wp2_with (first
  | ((go_at_call 140;(with_reducible refine (kh).mono ?_));rintro e w2 ⟨rfl,hC2,hu2⟩;(have g21:=(HM1.out.bI hu2 hC2 (fun y hy=>Or.inl hy) rfl rfl).h1);(have kc:=kcw w2 hu2 hC2))
  | ((go_at_call 244;(with_reducible refine (kc).mono ?_));rintro e w3 ⟨rfl,hu3,S3,hT3,hx3,hp3,hs3⟩;(have kmd:=wJ ((HM1.out.bI hu2 hC2 (fun y hy=>Or.inl hy) rfl rfl).fM hu3 hT3) (old:=.node x l r) (m:=.nil) hp3 trivial HG.out.2.2.1.2 H0.out.1 (fun y hy=>HG.out.2.2.2.2 y (aA.2 (Or.inr ((H0.out.2.1 y).1 hy))))))
  | ((go_at_call 245;(with_reducible refine (kmd).mono ?_));rintro e w4 ⟨rfl,hu4,S4,rk4,hM4,hE4⟩)
  | fail)
 have hx4:bG S4 (-1) (x:Int) (.node x l r):=bG.frame hx3 (fun y hy=>(hE4.far y (fun hm=>by
  have h1:=(H0.out.2.1 y).1 hm;have h2:=(aJ (f::P) (.node x l r)).nodup_iff.1 HG.out.2.1;rw [List.nodup_append] at h2
  exact h2.2.2 y hy y h1 rfl)).1)
 have hr4:dV rk4 (.node x l r):=HG.out.2.2.1.1.frame (fun y hy=>(hE4.far y (fun hm=>by
  have h1:=(H0.out.2.1 y).1 hm;have h2:=(aJ (f::P) (.node x l r)).nodup_iff.1 HG.out.2.1;rw [List.nodup_append] at h2
  exact h2.2.2 y hy y h1 rfl)).2)
 have f4:∀y,y∉(ae (f::P) (.node x l r)).nodes→S.at S4 y∧rk4 y=rk y:=fun y hy=>by
  have a1:=hs3 y hy;have a2:=hE4.far y (fun hm=>hy (aA.2 (Or.inr ((H0.out.2.1 y).1 hm))))
  exact ⟨dY a1 a2.1,a2.2⟩
 have u4:aa (B.blk F gt) w w4:=(((u01.out.trans hu2).mono (fun y hy=>by simp only [LB.blk,List.mem_cons];simp [hy])).trans (hu3.mono (by simp [LB.blk]))).trans (hu4.mono (by simp [LB.blk]))
 have hE:=χ (ψ hE4 f4);have hcF:=HM.out.cF;have km:=fun W (hW:aa [] w4 W)=>qZ (hM4.aj hW) (tb:=.node x l r) hE4.Aw hx4 HX.out.1 (fun y hy=>HG.out.2.2.2.1 y (HX.out.2 y hy)) hE4.P5 hr4
 rw [show BT.root (.node x l r)=(x:Int) from rfl] at km
 have d4:=hM4.ic.cell g hgt;rw [htop] at d4;have f4':=hM4.ic.free g;have h3:=hM4.h3;have hgl:=hM4.lt gt (by simp [LB.blk])
 have hn0g:B.n0∉[B.c,B.ba,B.br,gt]:=by
  have a1:=HSE.out;have a2:B.n0≠B.c:=fun e=>a1.2.1 (by rw [e];exact hcF)
  simp;omega
 have hgc:gt∉[B.c,B.ba,B.br]:=by
  have a1:=HSE.out;have a2:gt≠B.c:=fun e=>a1.2.2.2.2.2 (by rw [e];exact hcF)
  simp;omega
 have r3:∀W,aa [B.c,B.ba,B.br,gt] w4 W→W.cell? ⟨B.n0,3,none⟩=some (.slice (some ⟨gt,0,none⟩) ah.length ct):=fun W hW=>hW.kept h3 hn0g
 have r4:∀W,aa [B.c,B.ba,B.br] w4 W→W.cell? ⟨gt,g,none⟩=some (.int .i64 (lL (f::P) (.node x l r) .nil).root)∧W.frozen? ⟨gt,g,none⟩=false:=fun W hW=>⟨hW.kept d4 hgc,hW.aO d4 hgc f4'⟩
 have hib1:(0:Int)≤(g:Int):=ω;have hib2:(g:Int)<(ah.length:Int):=ω;have HF:Hid (∀ (W:World) (S':TS) (rk':Nat→Nat) (st':Nat),(∀y,y∉(lL (f::P) (.node x l r) .nil).nodes++(BT.node x l r).nodes→S4.at S' y∧rk' y=rk4 y)→∀y,y∉(ae (f::P) (.node x l r)).nodes→S.at S' y∧rk' y=rk y):=fun W S' rk' st' a y hy=>by
  have b1:=hE.out.2 y hy;have b2:=a y (fun hm=>hy (HX.out.2 y hm))
  exact ⟨dY b1.1 b2.1,b2.2.trans b1.2⟩
 clear hE f4 hE4 hx4 hr4 hs3 hp3 hx3 hT3;generalize hmt:(aF au A' (lL (f::P) (.node x l r) .nil) (.node x l r)).1=mt at *
 generalize hmk:(aF au A' (lL (f::P) (.node x l r) .nil) (.node x l r)).2=mk at *
 generalize hth:lL (f::P) (.node x l r) .nil=th at *
 clear hM4 f4' h3;have q3:=r3 _ (aa.refl _ _);have q4:=(r4 _ (aa.refl _ _)).1
 go_region_law
  (first
   | (go_simp;go_at_call 246;(with_reducible refine (km _ β).mono ?_);rintro e w5 ⟨rfl,hu5a,S5,rk5,hM5,hT5,hr5,hs5⟩;(have hu5:aa [B.c,B.ba,B.br] w4 w5:=aa.trans β hu5a);(have hu6:aa [B.c,B.ba,B.br,gt] w4 w5:=hu5.mono σ);obtain ⟨d5,f5⟩:=r4 _ hu5;(have q5:=r3 _ hu6)))
 all_goals
  go_wp2;go_ret
  have v3:aa (B.blk F gt) w w5:=u4.trans (hu5.mono (fun y hy=>by
   simp only [List.mem_cons,List.not_mem_nil,or_false] at hy;simp only [LB.blk,List.mem_cons];rcases hy with rfl|rfl|rfl
   ·simp [hcF]
   ·simp
   ·simp))
  subst hth hmt hmk;refine ⟨rfl,v3.setCell (Or.inl (by simp [LB.blk])) _,S5,rk5,_,hM5.nT g _,hT5,hr5,HF.out w5 S5 rk5 0 hs5,fun q hq=>?_⟩
  by_cases e:q=g
  ·rw [if_pos e,e,φ,List.getElem?_set,if_pos rfl,if_pos hgt];rfl
  ·rw [if_neg e,φ,List.getElem?_set,if_neg (fun h=>e h.symm),←φ]
theorem Lr (h:jO w B F gt ct A st tr) (g x:Nat) (hx:x∈(tr g).nodes) (k s:Int) (hk:-9223372036854775808≤k∧k≤9223372036854775807∧0≤s∧s≤18446744073709551615) (hB:iy A x k s=true) :
  Calls Tryz.prog 237 #[.pointer (some ⟨B.n0,0,none⟩),.int .i64 (x:Int),.agg #[.int .i64 k,.int .u64 s]] w fun e w'=>e=.returned (.bool true)∧aa (B.blk F gt) w w'∧
   jO w' B F gt ct (ak A x k s) (bC st (K8 (ak A x k s) (tr g) x).2) (fun q=>if q=g then (K8 (ak A x k s) (tr g) x).1 else tr q):=by
 obtain ⟨S,rk,ah,hM,hI,hL,hR⟩:=h;have hm:=(hI.mem g x).1 hx;have e:=kK hx;unfold K8;generalize (pathOf (tr g) x).1=P at *
 generalize (pathOf (tr g) x).2.1=l at *
 generalize (pathOf (tr g) x).2.2=r at *
 have hgt:g<ah.length:=by rw [hM.gP];have:=(hM.cells.ok.nat x hm.2.1);omega
 have hgh:g<A.hs.length:=by rw [←hM.gP];exact hgt
 have hT:=hI.Aw g;have hn:=hI.nd g;have hH:=hI.heap g;have hRg:=hR g;have hLg:=hL g;have htp:=hI.top g hgh;rw [e] at hT hn hH hRg hLg htp;obtain ⟨d1,d2⟩:=Bf hB hm.2.1 hn hH;obtain ⟨l1,l2⟩:=(qJ _ _).1 hLg;have fin:∀w' T st',EF w' B F gt ct (ak A x k s) st' S rk ah g (tr g).nodes T→T.nodes.Perm (tr g).nodes→Heap (ak A x k s) T→Lean T→jO w' B F gt ct (ak A x k s) st' (fun q=>if q=g then T else tr q):=fun w' T st' hE hp hh hl=>by
  obtain ⟨S',rk',tops',q1,q2,q3,q4,q6⟩:=hE;refine ⟨S',rk',tops',q1,hI.low hB hx q2 hp hh (fun y hy=>(q4 y hy).1) (fun q hq=>q6 q (by rw [jm];exact hq)),fun q=>?_,fun q=>?_⟩
  ·show Lean (if q=g then _ else _)
   split
   ·exact hl
   ·exact hL q
  ·show dV rk' (if q=g then _ else _)
   split
   ·exact q3
   ·rename_i hq
    refine (hR q).frame (fun y hy=>(q4 y (fun hm'=>?_)).2)
    have c1:=(hI.mem g y).1 hm';have c2:=(hI.mem q y).1 hy;omega
 cases P with
 | nil=>
  refine (KE hM hk hB hm.2.2 hm.1 htp hm.2.1 hT hRg).mono ?_;rintro e' w' ⟨rfl,hu,hE⟩;have e2:tr g=.node x l r:=e;refine ⟨rfl,hu,?_⟩
  show jO w' B F gt ct (ak A x k s) (bC st 0) (fun q=>if q=g then tr g else tr q)
  rw [dW hM.cells.mE];refine fin w' _ st (by rw [e2];exact hE) (List.Perm.refl _) (by rw [e2];exact d2) (hL g)
 | cons f P2=>
  refine (MF hM hk hB hm.2.2 hm.1 hgt htp hT hn hRg (fun y hy=>?_)).mono ?_
  ·rw [←e] at hy;have:=(hI.mem g y).1 hy;exact (af A y).2 ⟨this.2.1,ω⟩
  ·rintro e' w' ⟨rfl,hu,hE⟩;refine ⟨rfl,hu,?_⟩;have hpn:=(aJ (f::P2) (.node x l r)).nodup_iff.1 hn;obtain ⟨mp,mh⟩:=jJ kP (ak A x k s) _ (lL (f::P2) (.node x l r) .nil) (.node x l r) (Nat.le_refl _);have pn:((lL (f::P2) (.node x l r) .nil).nodes++(BT.node x l r).nodes).Perm (tr g).nodes:=by
    rw [e];refine (((qc _ _ _).trans (aJ (f::P2) .nil)).append_right _).trans ?_;refine List.perm_append_comm.trans ?_;simp only [BT.nodes,List.nil_append];exact (aJ (f::P2) (.node x l r)).symm
   refine fin w' _ _ (by rw [e];exact hE) (mp.trans pn) (mh (Cn _ _ _ d1) d2 (pn.nodup_iff.2 (hI.nd g))) (rA _ _ _ _ (Nat.le_refl _) (CP _ _ _ trivial l2) l1)
end
section
variable {w:World} {B:LB} {F:List Nat} {gt ct:Nat} {A:NS} {st:Nat} {tr:Nat→BT} {S:TS} {rk:Nat→Nat} {ah:List Int}
theorem yh (h:jO w B F gt ct A st tr) (g:Nat) (hn:0<cu A g) :
  Calls Tryz.prog 239 #[.pointer (some ⟨B.n0,0,none⟩),.int .i64 (g:Int)] w fun e w'=>∃m:Nat,bL A g=some m∧e=.returned (.tuple #[.int .i64 (m:Int),.bool true])∧aa (B.blk F gt) w w'∧
   jO w' B F gt ct (aL A m) (bC st (Ct A (tr g) m).2) (fun q=>if q=g then (Ct A (tr g) m).1 else tr q):=by
 have k:=yF h g hn;have h':=h;obtain ⟨S,rk,ah,hM,hI,hL,hR⟩:=h';have kd:=fun m hm=>BR h g m hm
 have hroot:∀m:Nat,(tr g).root=m→m∈(tr g).nodes:=fun m hm=>by
  have hne:tr g≠.nil:=fun e=>by rw [e] at hm;have:(-1:Int)=m:=hm;omega
  have:=(bg hne).1;rw [hm] at this;simpa using this
 clear hM hI hL hR h
 go_enter Tryz.func239,Tryz.ntmps239
 go_wp2_with (first
  | ((go_at_call 243;(with_reducible refine (k).mono ?_));rintro e w1 ⟨m,hm1,hm2,rfl,rfl⟩;(have kd2:=kd m (hroot m hm2)))
  | ((go_at_call 238;(with_reducible refine (kd2).mono ?_));rintro e w2 ⟨rfl,hu2,hL2⟩)
  | fail)
 go_ret2;exact ⟨m,hm1,rfl,hu2,hL2⟩
end
theorem DR (p c:Nat):∀W:World,W.cell? ⟨p,0,none⟩=some (.pointer (some ⟨c,0,none⟩))→(method 429 186 (.pointer (some ⟨p,0,none⟩)) "Has").run Tryz.prog W=.ok (139,.pointer (some ⟨c,0,none⟩)) W:=(by intro W h;unfold method;have hm:∃m,(Array.find? (fun x=>x.name == "Has") Tryz.t186.methods)=some m∧m.path.toList=[⟨231,0,true⟩]∧m.func=some (139,true)∧m.path.isEmpty=false:=⟨(Array.find? (fun x=>x.name == "Has") Tryz.t186.methods).get!,by kernel_rfl,by kernel_rfl,by kernel_rfl,by kernel_rfl⟩;obtain ⟨m,h1,h2,h3,h4⟩:=hm;go_simp;simp only [follow,Place.get];go_simp;(try unfold receiverAt);(try simp only [Place.get]);(try go_simp))
theorem AX (p c:Nat):∀W:World,W.cell? ⟨p,0,none⟩=some (.pointer (some ⟨c,0,none⟩))→(method 429 186 (.pointer (some ⟨p,0,none⟩)) "Entry").run Tryz.prog W=.ok (137,.pointer (some ⟨c,0,none⟩)) W:=(by intro W h;unfold method;have hm:∃m,(Array.find? (fun x=>x.name == "Entry") Tryz.t186.methods)=some m∧m.path.toList=[⟨231,0,true⟩]∧m.func=some (137,true)∧m.path.isEmpty=false:=⟨(Array.find? (fun x=>x.name == "Entry") Tryz.t186.methods).get!,by kernel_rfl,by kernel_rfl,by kernel_rfl,by kernel_rfl⟩;obtain ⟨m,h1,h2,h3,h4⟩:=hm;go_simp;simp only [follow,Place.get];go_simp;(try unfold receiverAt);(try simp only [Place.get]);(try go_simp))
theorem Mc (p:Nat):∀W:World,(method 429 186 (.pointer (some ⟨p,0,none⟩)) "Make").run Tryz.prog W=.ok (241,.pointer (some ⟨p,0,none⟩)) W:=fun _=>by kernel_rfl
theorem Iz (p:Nat):∀W:World,(method 429 186 (.pointer (some ⟨p,0,none⟩)) "Insert").run Tryz.prog W=.ok (240,.pointer (some ⟨p,0,none⟩)) W:=fun _=>by kernel_rfl
theorem NU (p:Nat):∀W:World,(method 429 186 (.pointer (some ⟨p,0,none⟩)) "Min").run Tryz.prog W=.ok (243,.pointer (some ⟨p,0,none⟩)) W:=fun _=>by kernel_rfl
theorem EM (p:Nat):∀W:World,(method 429 186 (.pointer (some ⟨p,0,none⟩)) "Extract").run Tryz.prog W=.ok (239,.pointer (some ⟨p,0,none⟩)) W:=fun _=>by kernel_rfl
theorem Bo (p:Nat):∀W:World,(method 429 186 (.pointer (some ⟨p,0,none⟩)) "Decrease").run Tryz.prog W=.ok (237,.pointer (some ⟨p,0,none⟩)) W:=fun _=>by kernel_rfl
def LfQ (w:World) (p:Nat) (F:List Nat) (A:NS):Prop:=∃B F1 gt ct st tr,p=B.n0∧F=B.blk F1 gt∧jO w B F1 gt ct A st tr
def vQ:fJ where
 ty:=186
 at_:=LfQ
 upd:=fun h hu hS=>by
  obtain ⟨B,F1,gt,ct,st,tr,rfl,rfl,hL⟩:=h;exact ⟨B,F1,gt,ct,st,tr,rfl,rfl,hL.upd hu hS⟩
 lt:=fun h=>by
  obtain ⟨B,F1,gt,ct,st,tr,rfl,rfl,S,rk,ah,hM, -⟩:=h;exact hM.lt
 ok:=fun h=>by
  obtain ⟨B,F1,gt,ct,st,tr,rfl,rfl,S,rk,ah,hM, -⟩:=h;exact hM.cells.ok
 make:=fun {w p F A} h=>by
  obtain ⟨B,F1,gt,ct,st,tr,rfl,rfl,hL⟩:=h;refine aN 241 (fun _ _=>by kernel_rfl) (Mc _) (fun W hW=>?_)
  have hLW:=hL.aj hW
  by_cases hl:65536<A.hs.length
  ·have e1:bS A=0:=by unfold bS;rw [if_pos hl]
   have e2:aG A=A:=by unfold aG;rw [if_pos hl]
   rw [e1,e2];refine (JN hLW hl).mono ?_;rintro e w' ⟨rfl,F',⟨F2,rfl,hA⟩,hu,hf⟩;exact ⟨rfl,_,⟨B,F2,gt,ct,st,tr,rfl,rfl,hA⟩,hu,hf⟩
  ·have e1:bS A=A.hs.length:=by unfold bS;rw [if_neg hl]
   rw [e1];refine (GG hLW hl).mono ?_;rintro e w' ⟨rfl,F',⟨F2,gt2,ct2,rfl,hA⟩,hu,hf⟩;exact ⟨rfl,_,⟨B,F2,gt2,ct2,st,tr,rfl,rfl,hA⟩,hu,hf⟩
 insert:=fun {w p F A} g y k s hk hB h=>by
  obtain ⟨B,F1,gt,ct,st,tr,rfl,rfl,hL⟩:=h;refine aN 240 (fun _ _=>by kernel_rfl) (Iz _) (fun W hW=>?_)
  refine (CL (hL.aj hW) g y k s hk hB).mono ?_;rintro e w' ⟨rfl,hu,hL2⟩;exact ⟨rfl,Goes.stay ⟨B,F1,gt,ct,_,_,rfl,rfl,hL2⟩ hu⟩
 min:=fun {w p F A} y hB h=>by
  obtain ⟨B,F1,gt,ct,st,tr,rfl,rfl,hL⟩:=h;refine aN 243 (fun _ _=>by kernel_rfl) (NU _) (fun W hW=>?_)
  have hLW:=hL.aj hW;have hok:A.Ok:=by obtain ⟨S,rk,ah,hM, -⟩:=hL;exact hM.cells.ok
  by_cases hl:cu A (y:Int)=0
  ·rw [fH.2 hl];have h4:=(aK _ _).1 hB;have h5:=hok.h1;refine (Gt hLW y ω hl).mono ?_;rintro e w' ⟨rfl,rfl⟩;exact ⟨rfl,Goes.stay ⟨B,F1,gt,ct,st,tr,rfl,rfl,hLW⟩ (aa.refl _ _)⟩
  ·refine (yF hLW y ω).mono ?_;rintro e w' ⟨m,hm, -,rfl,rfl⟩;rw [hm];exact ⟨rfl,Goes.stay ⟨B,F1,gt,ct,st,tr,rfl,rfl,hLW⟩ (aa.refl _ _)⟩
 extract:=fun {w p F A} y m hm h=>by
  obtain ⟨B,F1,gt,ct,st,tr,rfl,rfl,hL⟩:=h;refine aN 239 (fun _ _=>by kernel_rfl) (EM _) (fun W hW=>?_)
  have hl:¬cu A (y:Int)=0:=fun e=>by rw [fH.2 e] at hm;cases hm
  refine (yh (hL.aj hW) y ω).mono ?_;rintro e w' ⟨m',hm',rfl,hu,hL2⟩;rw [hm] at hm';cases hm';exact ⟨rfl,Goes.stay ⟨B,F1,gt,ct,_,_,rfl,rfl,hL2⟩ hu⟩
 lQ:=fun {w p F A} y k s hk hB h=>by
  obtain ⟨B,F1,gt,ct,st,tr,rfl,rfl,hL⟩:=h;refine aN 237 (fun _ _=>by kernel_rfl) (Bo _) (fun W hW=>?_)
  have hLW:=hL.aj hW;have hin:=pK hB;have hx:y∈(tr (A.c y).i.toNat).nodes:=by
   obtain ⟨S,rk,ah,hM,hI, -⟩:=hLW;have:=(af _ _).1 hin;exact (hI.mem _ y).2 ⟨ω,this.1,ω⟩
  refine (Lr hLW _ y hx k s hk hB).mono ?_;rintro e w' ⟨rfl,hu,hL2⟩;exact ⟨rfl,Goes.stay ⟨B,F1,gt,ct,_,_,rfl,rfl,hL2⟩ hu⟩
 has:=fun x h=>by
  obtain ⟨B,F1,gt,ct,st,tr,rfl,rfl,S,rk,ah,hM, -⟩:=h;exact fK 139 (fun _ _=>by kernel_rfl) hM.h0 (DR _ _) (fun W hW=>iq (hM.aj hW).cells x)
 entry:=fun {w p F A} x h=>by
  obtain ⟨B,F1,gt,ct,st,tr,rfl,rfl,S,rk,ah,hM, -⟩:=h;refine fK 137 (fun _ _=>by kernel_rfl) hM.h0 (AX _ _) (fun W hW=>?_)
  cases hin:bD A x with
  | false=>simpa using jB (hM.aj hW).cells x hin
  | true=>
   obtain ⟨y,rfl⟩:=nJ hin;simpa using iI (hM.aj hW).cells y hin
theorem Du (p:Nat) (w:World):Calls Tryz.prog 99 #[.pointer (some ⟨p,0,none⟩),.int .i64 0] w fun e w'=>e=.returned (.tuple #[.iface 186 (.pointer (some ⟨p,0,none⟩)),.int .i64 0])∧w'=w:=by
 go_enter Tryz.func99,Tryz.ntmps99
 go_wp2;go_ret2;exact ⟨rfl,rfl⟩
theorem xL (n:Nat) (hn:n≤65536):jX vQ 6 0 n:=by
 intro w;have kn:=fun W=>LM n W hn
 have km:=Du;have hty:vQ.ty=186:=rfl;have hat:∀w' B F gt,jO w' B F gt 1 (NS.new n) 0 (fun _=>.nil)→vQ.at_ w' B.n0 (B.blk F gt) (NS.new n):=fun w' B F gt h=>⟨B,F,gt,_,_,_,rfl,rfl,h⟩
 generalize vQ=K at *
 rw [hty]
 go_enter Tryz.func81,Tryz.ntmps81
 go_wp2_with (first
  | ((go_at_call 100;(with_reducible refine (kn _).mono ?_));rintro e w1 ⟨B,F,gt,rfl,hS,hu1,hf⟩)
  | ((go_at_call 99;(with_reducible refine (km _ _).mono ?_));rintro e w2 ⟨rfl,rfl⟩)
  | fail)
 go_ret2;exact ⟨B.n0,B.blk F gt,rfl,hat _ _ _ _ hS,aa.trans β hu1,fun x hx=>by have:=hf x hx;simp at this;omega⟩
def fM (tr:Nat→BT) (h:Nat) (t:BT):Nat→BT:=fun q=>if q=h then t else tr q
end Go.Proofs.YtklibcncmbofpaaGreat
