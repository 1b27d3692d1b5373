/-
  Lemmas for RankSorts: Pa11, Pa12, PaQ. Conditions: those of each lemma.
-/
import Derived.Test.YtklibcncmbofpaaGreatP07
import Derived.Test.YtklibcncmbofpaaGreatP09
import Derived.Test.YtklibcncmbofpaaGreatP39
set_option maxHeartbeats 8000000
set_option maxRecDepth 10000
set_option linter.unusedVariables false
set_option linter.unusedSimpArgs false
namespace Go.Proofs.YtklibcncmbofpaaGreat
open Go Go.RowKit
section
variable {w:World} {B:PB} {F:List Nat} {gt ct:Nat} {A:NS} {st:Nat} {S:TS} {ah:List Int}
theorem GM (hM:eZ w B F gt ct A st S ah) {g x:Nat} {l:BT} (hg:(A.c x).i=g) (hg0:0<g) (hgt:g<ah.length) (htop:ah.getD g 0=x) (hT:bG S (-1) x (.node x l .nil)) (hn:(BT.node x l .nil).nodes.Nodup) (hall:∀y,y∈(BT.node x l .nil).nodes→bD A (y:Int)=true) :
  Calls Tryz.prog 208 #[.pointer (some ⟨B.n0,0,none⟩),.int .i64 (x:Int)] w fun e w'=>e=.returned (.bool true)∧aa (B.blk F gt) w w'∧∃st' S',eZ w' B F gt ct (aL A x) st' S' (ah.set g (dU A (bB A (aX l))).root)∧bG S' (-1) (dU A (bB A (aX l))).root (dU A (bB A (aX l)))∧(S'.l x=-1∧S'.r x=-1∧S'.u x=-1)∧∀y,y∉(BT.node x l .nil).nodes→S.at S' y:=by
 have hin:bD A (x:Int)=true:=hall x (by simp [BT.nodes])
 have hn':(x::l.nodes).Nodup:=by simpa [BT.nodes] using hn
 have hl':∀z,z∈l.nodes→bD A (z:Int)=true:=fun z hz=>hall z (by simp [BT.nodes,hz])
 have hsz:l.size≤65536:=by
  rw [←BT.jA];have:=zh (n:=A.cs.length) (List.nodup_cons.1 hn').2 (fun y hy=>((af _ _).1 (hl' y hy)).1)
  have:=hM.cells.ok.c1;omega
 have kh:=bZ hM.cells x hin;rw [hg] at kh;have h0:=hM.h0;have HM:=χ hM;have HT:=χ (ψ hT (ψ hn' (ψ hl' (ψ hsz hin))));have HTOP:=χ htop;have hAh:=hM.cells.ok.h1;have htn:ah.length=A.hs.length:=hM.gP;have hgI:(g:Int)<(ah.length:Int):=ω;have hA:=hM.cells.ok.c1;have hxl:x<A.cs.length:=((af _ _).1 hin).1;clear hM hT hn hn' hl' hsz hin hall htop htn hg;generalize hR:dU A (bB A (aX l))=R at *
 have hxx:((x:Int) == (x:Int))=true:=σ
 go_enter Tryz.func208,Tryz.ntmps208
 go_wp2_with (first
  | ((go_at_call 140;(with_reducible refine (kh).mono ?_));rintro e w1 ⟨rfl,hC1,hu1⟩;(have hM1:=HM.out.bI hu1 hC1 (fun y hy=>Or.inl hy) rfl rfl);(have g21:=hM1.h2);(have g22:=hM1.ic.cell g hgt);rw [HTOP.out] at g22)
  | fail)
 have ks:=fun W (hW:aa [] w1 W)=>wS (hM1.aj hW) x HT.out.2.2.2.2 l HT.out.1.2.2.1 HT.out.2.1 HT.out.2.2.1 HT.out.2.2.2.1
 rw [hR] at ks;have f4:=hM1.ic.free g;have hnn:B.n0∉B.ba::F∧gt∉B.ba::F:=by
  have a1:=hM1.sep;have a2:=hM1.aZ;exact ⟨by simp only [List.mem_cons,not_or];exact ⟨a1.1,a2.1⟩,by simp only [List.mem_cons,not_or];exact ⟨fun e=>a1.2.2 e.symm,a2.2.2⟩⟩
 obtain ⟨hnn1,uz⟩:=hnn;have HS1:=χ hM1.sep;have h3:=hM1.h2;have h00:=hM1.h0;have r3:∀W,aa (B.ba::F) w1 W→W.cell? ⟨B.n0,2,none⟩=some (.slice (some ⟨gt,0,none⟩) ah.length ct):=fun W hW=>hW.kept h3 hnn1
 have r4:∀W,aa (B.ba::F) w1 W→W.cell? ⟨gt,g,none⟩=some (.int .i64 (x:Int))∧W.frozen? ⟨gt,g,none⟩=false:=fun W hW=>⟨hW.kept g22 uz,hW.aO g22 uz f4⟩
 have hib1:(0:Int)≤(g:Int):=ω;have u01:aa (B.blk F gt) w w1:=hu1.mono (fun y hy=>by simp only [PB.blk,List.mem_cons];simp [hy])
 have HU:=χ u01;clear hM1 f4 h3 hnn1 uz hC1 hu1 kh u01;have q3:=r3 _ (aa.refl _ _);have q4:=(r4 _ (aa.refl _ _)).1
 go_upto_region 5 with (fail)
 go_region_law
  (first
   | (go_simp;go_at_call 216;(with_reducible refine (ks _ β).mono ?_);rintro e w5 ⟨rfl,hu5a,st5,S5,hM5,hT5,hl5,hr5,hp5,hs5⟩;(have hu5:aa (B.ba::F) w1 w5:=aa.trans β hu5a);obtain ⟨d5,f5⟩:=r4 _ hu5;(have q5:=r3 _ hu5)))
 all_goals
  have hM6:=hM5.nT g R.root;have kd:=fw hM6.cells x HT.out.2.2.2.2;have h06:=hM6.h0
  go_wp2_with (first
   | ((go_at_call 151;(with_reducible refine (kd).mono ?_));rintro e w7 ⟨rfl,hC7,hu7⟩)
   | fail)
  go_ret;have hbn:∀y,y∉(BT.node x l .nil).nodes→y∉x::l.nodes:=fun y hy hm=>hy (by simpa [BT.nodes] using hm)
  have v5:aa (B.blk F gt) w w5:=HU.out.trans (hu5.mono (fun y hy=>by simp only [PB.blk,List.mem_cons] at hy ⊢;rcases hy with h|h<;>simp [h]))
  refine ⟨rfl,(v5.setCell (Or.inl (by simp [PB.blk])) _).trans (hu7.mono (fun y hy=>by simp only [PB.blk,List.mem_cons];simp [hy])),st5,S5,hM6.bI hu7 hC7 (fun y hy=>Or.inl hy) (dw _ _) (by rw [fA]),hT5,⟨hl5,?_,?_⟩,fun y hy=>hs5 y (hbn y hy)⟩
  ·rw [hr5];exact HT.out.1.2.2.2
  ·rw [hp5];exact HT.out.1.2.1
theorem Jw (hM:eZ w B F gt ct A st S ah) {g x:Nat} {f:Fr} {P:List Fr} {l r:BT} (hg:(A.c x).i=g) (hg0:0<g) (hgt:g<ah.length) (htop:ah.getD g 0=(ae (f::P) (.node x l r)).root) (hT:bG S (-1) (ae (f::P) (.node x l r)).root (ae (f::P) (.node x l r))) (hn:(ae (f::P) (.node x l r)).nodes.Nodup)
  (hL:Lone (ae (f::P) (.node x l r))) (hH:cO A (ae (f::P) (.node x l r))) (hall:∀y,y∈(ae (f::P) (.node x l r)).nodes→bD A (y:Int)=true) :
  Calls Tryz.prog 208 #[.pointer (some ⟨B.n0,0,none⟩),.int .i64 (x:Int)] w fun e w'=>e=.returned (.bool true)∧aa (B.blk F gt) w w'∧∃st' S',eZ w' B F gt ct (aL A x) st' S' (ah.set g (bN A (ae (f::P) r) (dU A (bB A (aX l)))).root)∧bG S' (-1) (bN A (ae (f::P) r) (dU A (bB A (aX l)))).root (bN A (ae (f::P) r) (dU A (bB A (aX l))))∧(S'.l x=-1∧S'.r x=-1∧S'.u x=-1)∧∀y,y∉(ae (f::P) (.node x l r)).nodes→S.at S' y:=by
 have hin:bD A (x:Int)=true:=hall x (ny.2 (Or.inl (by simp [BT.nodes])))
 obtain ⟨o1,o2,o3, -⟩:=xy hT hn;obtain ⟨oh1, -⟩:=wW (P:=f::P) hH;have hpm:=sD (f::P) x l r;have hXn:((ae (f::P) r).nodes++(BT.node x l .nil).nodes).Nodup:=uz (hpm.nodup_iff.1 hn);have hXm:∀y,y∈(ae (f::P) r).nodes++(BT.node x l .nil).nodes→y∈(ae (f::P) (.node x l r)).nodes:=fun y hy=>by
  rw [hpm.mem_iff,List.mem_append];rw [List.mem_append] at hy;exact hy.symm
 have hLr:Lone (ae (f::P) r):=nD (t:=.node x l r) σ hL;have hrt:(ae (f::P) (.node x l r)).root=(ae (f::P) r).root:=iO _ _ _ _;have hroot:(ae (f::P) r).root≠(x:Int):=fun e=>by
  have h6:ae (f::P) r≠.nil:=fun e'=>by rw [e'] at e;simp [BT.root] at e
  have h7:=(bg h6).1;rw [e,π] at h7;rw [List.nodup_append] at hXn;exact hXn.2.2 x h7 x (by simp [BT.nodes]) rfl
 rw [hrt] at htop;have hn':(x::l.nodes).Nodup:=by
  rw [List.nodup_append] at hXn;simpa [BT.nodes] using hXn.2.1
 have hl':∀z,z∈l.nodes→bD A (z:Int)=true:=fun z hz=>hall z (hXm z (by simp [BT.nodes,hz]))
 have hsz:l.size≤65536:=by
  rw [←BT.jA];have:=zh (n:=A.cs.length) (List.nodup_cons.1 hn').2 (fun y hy=>((af _ _).1 (hl' y hy)).1)
  have:=hM.cells.ok.c1;omega
 obtain ⟨t1,t2,t3⟩:=tO oh1.2.1 (List.nodup_cons.1 hn').2;have hXR:((ae (f::P) r).nodes++(dU A (bB A (aX l))).nodes).Nodup:=by
  have h1:((ae (f::P) r).nodes++l.nodes).Nodup:=by
   rw [List.nodup_append] at hXn ⊢;exact ⟨hXn.1,(List.nodup_cons.1 hn').2,fun a ha b hb=>hXn.2.2 a ha b (by simp [BT.nodes,hb])⟩
  exact (t1.append_left _).nodup_iff.2 h1
 have hXRm:∀y,y∈(ae (f::P) r).nodes++(dU A (bB A (aX l))).nodes→y∈(ae (f::P) (.node x l r)).nodes∧y≠x:=fun y hy=>by
  rw [List.mem_append,t1.mem_iff] at hy;refine ⟨hXm y (by simp only [List.mem_append,BT.nodes,List.append_nil,List.mem_cons];rcases hy with h|h<;>simp [h]),fun e=>?_⟩
  subst e;rw [List.nodup_append] at hXn;rcases hy with h|h
  ·exact hXn.2.2 y h y (by simp [BT.nodes]) rfl
  ·exact (List.nodup_cons.1 hn').1 h
 have hra:∀y,y∈(ae (f::P) r).nodes→y∉x::l.nodes:=fun y hy hm=>by
  rw [List.nodup_append] at hXn;exact hXn.2.2 y hy y (by simpa [BT.nodes] using hm) rfl
 have hsub:∀y,y∈x::l.nodes→y∈(ae (f::P) (.node x l r)).nodes:=fun y hy=>hXm y (by rw [List.mem_append];right;simpa [BT.nodes] using hy)
 have ko:=fun (w1:World) (hM1:eZ w1 B F gt ct A st S ah)=>NN hM1 hT hn (fun y hy=>((af _ _).1 (hall y hy)).1)
 have kh:=bZ hM.cells x hin;rw [hg] at kh;have h0:=hM.h0;have HM:=χ hM;have HT:=χ (ψ o1 (ψ o2 (ψ o3 (ψ hn' (ψ hl' (ψ hsz hin))))));have HX:=χ (ψ hXR (ψ hXRm (ψ hLr (ψ t2 (ψ hra (ψ hsub hall))))));have HTOP:=χ htop;have hAh:=hM.cells.ok.h1;have htn:ah.length=A.hs.length:=hM.gP;have hgI:(g:Int)<(ah.length:Int):=ω;have hA:=hM.cells.ok.c1;have hxl:x<A.cs.length:=((af _ _).1 hin).1;have hr0:(ae (f::P) r).root=-1∨0≤(ae (f::P) r).root:=by
  have:=kW (n:=A.cs.length) o2 (fun z hz=>((af _ _).1 (hall z (hXm z (by simp [hz])))).1)
  omega
 clear hM hT hn hn' hl' hsz hin hall htop htn hg o1 o2 o3 oh1 hpm hXn hXm hLr hrt t1 t2 t3 hXR hXRm hra hsub hL hH;generalize hR:dU A (bB A (aX l))=R at *
 generalize hta:ae (f::P) r=ta at *
 have hxx:(ta.root == (x:Int))=false:=by simpa using hroot
 go_enter Tryz.func208,Tryz.ntmps208
 go_wp2_with (first
  | ((go_at_call 140;(with_reducible refine (kh).mono ?_));rintro e w1 ⟨rfl,hC1,hu1⟩;(have hM1:=HM.out.bI hu1 hC1 (fun y hy=>Or.inl hy) rfl rfl);(have g21:=hM1.h2);(have g22:=hM1.ic.cell g hgt);rw [HTOP.out] at g22;(have ko1:=ko w1 hM1))
  | ((go_at_call 214;(with_reducible refine (ko1).mono ?_));rintro e w3 ⟨rfl,hM3,hu3⟩)
  | fail)
 have ks:=fun W (hW:aa [] w3 W)=>wS (hM3.aj hW) x HT.out.2.2.2.2.2.2 l HT.out.1.2.2.1 HT.out.2.2.2.1 HT.out.2.2.2.2.1 HT.out.2.2.2.2.2.1
 rw [hR] at ks;have kl:Hid (∀W st4 S4,eZ W B F gt ct A st4 S4 ah→bG S4 (-1) R.root R→(∀z,z∉x::l.nodes→(iJ S f.1 f.2.1 x).at S4 z)→_):=fun W st4 S4 hM4 hT4 hs4=>sH hM4 ta R (HT.out.2.1.frame (fun y hy=>hs4 y (HX.out.2.2.2.2.1 y hy))) hT4 HX.out.2.2.1 HX.out.2.2.2.1 HX.out.1 (fun y hy=>HX.out.2.2.2.2.2.2 y (HX.out.2.1 y hy).1)
 have d4:=hM3.ic.cell g hgt;rw [HTOP.out] at d4;have f4:=hM3.ic.free g;have hnn:B.n0∉B.ba::F∧gt∉B.ba::F:=by
  have a1:=hM3.sep;have a2:=hM3.aZ;exact ⟨by simp only [List.mem_cons,not_or];exact ⟨a1.1,a2.1⟩,by simp only [List.mem_cons,not_or];exact ⟨fun e=>a1.2.2 e.symm,a2.2.2⟩⟩
 obtain ⟨hnn1,uz⟩:=hnn;have HS1:=χ hM3.sep;have hcF:=hM3.cF;have h3:=hM3.h2;have r3:∀W,aa (B.ba::F) w3 W→W.cell? ⟨B.n0,2,none⟩=some (.slice (some ⟨gt,0,none⟩) ah.length ct):=fun W hW=>hW.kept h3 hnn1
 have r4:∀W,aa (B.ba::F) w3 W→W.cell? ⟨gt,g,none⟩=some (.int .i64 ta.root)∧W.frozen? ⟨gt,g,none⟩=false:=fun W hW=>⟨hW.kept d4 uz,hW.aO d4 uz f4⟩
 have hib1:(0:Int)≤(g:Int):=ω;have u01:aa (B.blk F gt) w w1:=hu1.mono (fun y hy=>by simp only [PB.blk,List.mem_cons];simp [hy])
 have HU:=χ (u01.trans (hu3.mono (fun y hy=>by simp at hy;simp [PB.blk,hy])))
 clear hM1 hM3 f4 h3 hnn1 uz hC1 hu1 kh u01 hu3 ko ko1 g21 g22;have q3:=r3 _ (aa.refl _ _);have q4:=(r4 _ (aa.refl _ _)).1;generalize hmt:bN A ta R=mt at *
 go_upto_region 8 with (fail)
 go_region_law
  (first
   | (go_simp;go_at_call 216;(with_reducible refine (ks _ β).mono ?_);rintro e w5 ⟨rfl,hu5a,st5,S5,hM5,hT5,hl5,hr5,hp5,hs5⟩;(have hu5:aa (B.ba::F) w3 w5:=aa.trans β hu5a);obtain ⟨d5,f5⟩:=r4 _ hu5;(have q5:=r3 _ hu5);(have km:=fun W (hW:aa [] w5 W)=>kl W st5 S5 (hM5.aj hW) hT5 hs5))
   | (go_simp;go_at_call 215;(with_reducible refine (km _ β).mono ?_);rintro e w6 ⟨rfl,hu6a,st6,S6,hM6,hT6,hs6⟩;(have hu6b:aa [B.ba,B.c] w5 w6:=aa.trans β hu6a);(have hu6:aa (B.ba::F) w3 w6:=hu5.trans (hu6b.mono (fun y hy=>by simp at hy;rcases hy with h|h<;>simp [h,hcF])));obtain ⟨d6,f6⟩:=r4 _ hu6;(have q6:=r3 _ hu6)))
 all_goals
  subst hmt;have hM7:=hM6.nT g (bN A ta R).root;have kd:=fw hM7.cells x HT.out.2.2.2.2.2.2;have h06:=hM7.h0
  go_wp2_with (first
   | ((go_at_call 151;(with_reducible refine (kd).mono ?_));rintro e w8 ⟨rfl,hC8,hu8⟩)
   | fail)
  go_ret;have hxa:x∉ta.nodes++R.nodes:=fun hm=>(HX.out.2.1 x hm).2 rfl
  have a6:=hs6 x hxa;have v5:aa (B.blk F gt) w w6:=HU.out.trans (hu6.mono (fun y hy=>by simp only [PB.blk,List.mem_cons] at hy ⊢;rcases hy with h|h<;>simp [h]))
  refine ⟨rfl,(v5.setCell (Or.inl (by simp [PB.blk])) _).trans (hu8.mono (fun y hy=>by simp only [PB.blk,List.mem_cons];simp [hy])),st6,S6,hM7.bI hu8 hC8 (fun y hy=>Or.inl hy) (dw _ _) (by rw [fA]),hT6,⟨?_,?_,?_⟩,fun y hy=>?_⟩
  ·rw [a6.1];exact hl5
  ·rw [a6.2.1,hr5];exact HT.out.1.2.2.2
  ·rw [a6.2.2,hp5];exact HT.out.1.2.1
  ·exact Lg (Lg (HT.out.2.2.1 y hy) (hs5 y (fun hm=>hy (HX.out.2.2.2.2.2.1 y hm)))) (hs6 y (fun hm=>hy (HX.out.2.1 y hm).1))
end
section
variable {w:World} {B:PB} {F:List Nat} {gt ct:Nat} {A:NS} {st:Nat} {tr:Nat→BT}
theorem zL {ah:List Int} {g:Nat} {v:Int} (hgt:g<ah.length):∀q,(ah.set g v).getD q 0=if q=g then v else ah.getD q 0:=fun q=>by
 by_cases e:q=g
 ·rw [if_pos e,e,φ,List.getElem?_set,if_pos rfl,if_pos hgt];rfl
 ·rw [if_neg e,φ,List.getElem?_set,if_neg (fun h=>e h.symm),←φ]
theorem GD (h:j4 w B F gt ct A st tr) (g x:Nat) (hx:x∈(tr g).nodes) (k s:Int) (hk:-9223372036854775808≤k∧k≤9223372036854775807∧0≤s∧s≤18446744073709551615) (hB:iy A x k s=true) :
  Calls Tryz.prog 207 #[.pointer (some ⟨B.n0,0,none⟩),.int .i64 (x:Int),.agg #[.int .i64 k,.int .u64 s]] w fun e w'=>e=.returned (.bool true)∧aa (B.blk F gt) w w'∧∃st' tr',j4 w' B F gt ct (ak A x k s) st' tr':=by
 obtain ⟨S,ah,hM,hI,hL⟩:=h;have hm:=(hI.mem g x).1 hx;have e:=kK hx;generalize (pathOf (tr g) x).1=P at *
 generalize (pathOf (tr g) x).2.1=l at *
 generalize (pathOf (tr g) x).2.2=r at *
 have hgt:g<ah.length:=by rw [hM.gP];have:=(hM.cells.ok.nat x hm.2.1);omega
 have hgh:g<A.hs.length:=by rw [←hM.gP];exact hgt
 have hT:=hI.Aw g;have hn:=hI.nd g;have hH:cO A (tr g):=hI.heap g;have hLg:=hL g;have htp:=hI.top g hgh;have hall:∀y,y∈(tr g).nodes→bD A (y:Int)=true:=fun y hy=>by
  have:=(hI.mem g y).1 hy;exact (af A y).2 ⟨this.2.1,ω⟩
 rw [e] at hT hn hH hLg htp hall;cases P with
 | nil=>
  have hr:r=.nil:=hLg;subst hr;refine (G7 hM hk hB hm.2.2 hm.1 hgt htp hm.2.1).mono ?_;rintro e' w' ⟨rfl,hu,hE⟩;have e2:tr g=.node x l .nil:=e
  have h2:=hI.low hB hx (t':=tr g) (tops':=ah) (hI.Aw g) (List.Perm.refl _) (by rw [e2];exact yC hB hm.2.1 hH hn) (fun y _=>⟨rfl,rfl,rfl⟩) (fun q hq=>by
   split
   ·rename_i e3;rw [e3];exact hI.top g hgh
   ·rfl)
  refine ⟨rfl,hu,st,_,S,ah,hE,h2,fun q=>?_⟩
  show Lone (if q=g then tr g else tr q)
  split<;>exact hL _
 | cons f P2=>
  refine (Kb hM hk hB hm.2.2 hm.1 hgt htp hT hn hLg hall).mono ?_;rintro e' w' ⟨rfl,hu,st',S',q1,q2,q3⟩;have hpm:=sD (f::P2) x l r;obtain ⟨oh1,oh2⟩:=wW (P:=f::P2) hH;have hXn:((ae (f::P2) r).nodes++(BT.node x l .nil).nodes).Nodup:=uz (hpm.nodup_iff.1 hn);have hLr:Lone (ae (f::P2) r):=nD (t:=.node x l r) σ hLg;have hxr:x∉(ae (f::P2) r).nodes:=fun hm'=>by
   rw [List.nodup_append] at hXn;exact hXn.2.2 x hm' x (by simp [BT.nodes]) rfl
  have hc:=pO hB hm.2.1;have hH2:cO (ak A x k s) (ae (f::P2) r):=cO.frame oh2 (fun y hy=>by rw [hc,if_neg (fun e=>hxr (by rw [←e];exact hy))])
  have hH1:=yC hB hm.2.1 oh1 (by rw [List.nodup_append] at hXn;exact hXn.2.1)
  have hLx:Lone (BT.node x l .nil):=rfl;have hp:(bN (ak A x k s) (ae (f::P2) r) (.node x l .nil)).nodes.Perm (tr g).nodes:=by
   rw [e];exact (jD _ hLr hLx).trans (List.perm_append_comm.trans hpm.symm)
  have h2:=hI.low hB hx (t':=bN (ak A x k s) (ae (f::P2) r) (.node x l .nil)) (tops':=ah.set g (bN (ak A x k s) (ae (f::P2) r) (.node x l .nil)).root) q2 hp (nA hLr hLx hH2 hH1 hXn) (fun y hy=>q3 y (by rw [←e];exact hy)) (fun q _=>zL hgt q)
  refine ⟨rfl,hu,st',_,S',_,q1,h2,fun q=>?_⟩
  show Lone (if q=g then _ else tr q)
  split
  ·exact kQ _ hLr hLx
  ·exact hL q
theorem Ia (h:j4 w B F gt ct A st tr) (g x:Nat) (hx:x∈(tr g).nodes) :
  Calls Tryz.prog 208 #[.pointer (some ⟨B.n0,0,none⟩),.int .i64 (x:Int)] w fun e w'=>e=.returned (.bool true)∧aa (B.blk F gt) w w'∧∃st' tr',j4 w' B F gt ct (aL A x) st' tr':=by
 obtain ⟨S,ah,hM,hI,hL⟩:=h;have hm:=(hI.mem g x).1 hx;have e:=kK hx;generalize (pathOf (tr g) x).1=P at *
 generalize (pathOf (tr g) x).2.1=l at *
 generalize (pathOf (tr g) x).2.2=r at *
 have hgt:g<ah.length:=by rw [hM.gP];have:=(hM.cells.ok.nat x hm.2.1);omega
 have hgh:g<A.hs.length:=by rw [←hM.gP];exact hgt
 have hT:=hI.Aw g;have hn:=hI.nd g;have hH:cO A (tr g):=hI.heap g;have hLg:=hL g;have htp:=hI.top g hgh;have hall:∀y,y∈(tr g).nodes→bD A (y:Int)=true:=fun y hy=>by
  have:=(hI.mem g y).1 hy;exact (af A y).2 ⟨this.2.1,ω⟩
 rw [e] at hT hn hH hLg htp hall;cases P with
 | nil=>
  have hr:r=.nil:=hLg;subst hr;have e2:tr g=.node x l .nil:=e;refine (GM hM hm.2.2 hm.1 hgt htp hT hn hall).mono ?_;rintro e' w' ⟨rfl,hu,st',S',q1,q2,q3,q4⟩;have hn':(x::l.nodes).Nodup:=by
   have h9:(BT.node x l .nil).nodes.Nodup:=hn;simpa [BT.nodes] using h9
  have hH':cO A (.node x l .nil):=hH;obtain ⟨t1,t2,t3⟩:=tO hH'.2.1 (List.nodup_cons.1 hn').2;have hp:(x::(dU A (bB A (aX l))).nodes).Perm (tr g).nodes:=by
   rw [e2];simp only [BT.nodes,List.append_nil];exact List.Perm.cons x t1
  have h2:=hI.del hx (t':=dU A (bB A (aX l))) (tops':=ah.set g (dU A (bB A (aX l))).root) q2 hp t3 (fun y hy=>q4 y (by rw [←e2];exact hy)) q3 (fun q _=>zL hgt q)
  refine ⟨rfl,hu,st',_,S',_,q1,h2,fun q=>?_⟩
  show Lone (if q=g then _ else tr q)
  split
  ·exact t2
  ·exact hL q
 | cons f P2=>
  refine (Jw hM hm.2.2 hm.1 hgt htp hT hn hLg hH hall).mono ?_;rintro e' w' ⟨rfl,hu,st',S',q1,q2,q3,q4⟩;have hpm:=sD (f::P2) x l r;obtain ⟨oh1,oh2⟩:=wW (P:=f::P2) hH;have hXn:((ae (f::P2) r).nodes++(BT.node x l .nil).nodes).Nodup:=uz (hpm.nodup_iff.1 hn);have hLr:Lone (ae (f::P2) r):=nD (t:=.node x l r) σ hLg;have hn':(x::l.nodes).Nodup:=by
   rw [List.nodup_append] at hXn;simpa [BT.nodes] using hXn.2.1
  obtain ⟨t1,t2,t3⟩:=tO oh1.2.1 (List.nodup_cons.1 hn').2;have hXR:((ae (f::P2) r).nodes++(dU A (bB A (aX l))).nodes).Nodup:=by
   have h1:((ae (f::P2) r).nodes++l.nodes).Nodup:=by
    rw [List.nodup_append] at hXn ⊢;exact ⟨hXn.1,(List.nodup_cons.1 hn').2,fun a ha b hb=>hXn.2.2 a ha b (by simp [BT.nodes,hb])⟩
   exact (t1.append_left _).nodup_iff.2 h1
  have hp:(x::(bN A (ae (f::P2) r) (dU A (bB A (aX l)))).nodes).Perm (tr g).nodes:=by
   rw [e];refine ((jD A hLr t2).cons x).trans ?_;refine ((t1.append_left _).cons x).trans ?_;refine List.Perm.trans ?_ hpm.symm;simp only [BT.nodes,List.append_nil,List.cons_append];exact List.perm_append_comm.cons x
  have h2:=hI.del hx (t':=bN A (ae (f::P2) r) (dU A (bB A (aX l)))) (tops':=ah.set g (bN A (ae (f::P2) r) (dU A (bB A (aX l)))).root) q2 hp (nA hLr t2 oh2 t3 hXR) (fun y hy=>q4 y (by rw [←e];exact hy)) q3 (fun q _=>zL hgt q)
  refine ⟨rfl,hu,st',_,S',_,q1,h2,fun q=>?_⟩
  show Lone (if q=g then _ else tr q)
  split
  ·exact kQ _ hLr t2
  ·exact hL q
theorem wY (h:j4 w B F gt ct A st tr) (g:Nat) (hn:0<cu A g) :
  Calls Tryz.prog 209 #[.pointer (some ⟨B.n0,0,none⟩),.int .i64 (g:Int)] w fun e w'=>∃m:Nat,bL A g=some m∧e=.returned (.tuple #[.int .i64 (m:Int),.bool true])∧aa (B.blk F gt) w w'∧∃st' tr',j4 w' B F gt ct (aL A m) st' tr':=by
 have k:=xH h g hn;have kd:=fun m hm=>Ia h g m hm
 have hroot:∀m:Nat,(tr g).root=m→m∈(tr g).nodes:=fun m hm=>by
  have hne:tr g≠.nil:=fun e=>by rw [e] at hm;have:(-1:Int)=m:=hm;omega
  have:=(bg hne).1;rw [hm] at this;simpa using this
 clear h
 go_enter Tryz.func209,Tryz.ntmps209
 go_wp2_with (first
  | ((go_at_call 213;(with_reducible refine (k).mono ?_));rintro e w1 ⟨m,hm1,hm2,rfl,rfl⟩;(have kd2:=kd m (hroot m hm2)))
  | ((go_at_call 208;(with_reducible refine (kd2).mono ?_));rintro e w2 ⟨rfl,hu2,hL2⟩)
  | fail)
 go_ret2;exact ⟨m,hm1,rfl,hu2,hL2⟩
end
theorem E8 (p c:Nat):∀W:World,W.cell? ⟨p,0,none⟩=some (.pointer (some ⟨c,0,none⟩))→(method 429 178 (.pointer (some ⟨p,0,none⟩)) "Has").run Tryz.prog W=.ok (139,.pointer (some ⟨c,0,none⟩)) W:=(by intro W h;unfold method;have hm:∃m,(Array.find? (fun x=>x.name == "Has") Tryz.t178.methods)=some m∧m.path.toList=[⟨215,0,true⟩]∧m.func=some (139,true)∧m.path.isEmpty=false:=⟨(Array.find? (fun x=>x.name == "Has") Tryz.t178.methods).get!,by kernel_rfl,by kernel_rfl,by kernel_rfl,by kernel_rfl⟩;obtain ⟨m,h1,h2,h3,h4⟩:=hm;go_simp;simp only [follow,Place.get];go_simp;(try unfold receiverAt);(try simp only [Place.get]);(try go_simp))
theorem A9 (p c:Nat):∀W:World,W.cell? ⟨p,0,none⟩=some (.pointer (some ⟨c,0,none⟩))→(method 429 178 (.pointer (some ⟨p,0,none⟩)) "Entry").run Tryz.prog W=.ok (137,.pointer (some ⟨c,0,none⟩)) W:=(by intro W h;unfold method;have hm:∃m,(Array.find? (fun x=>x.name == "Entry") Tryz.t178.methods)=some m∧m.path.toList=[⟨215,0,true⟩]∧m.func=some (137,true)∧m.path.isEmpty=false:=⟨(Array.find? (fun x=>x.name == "Entry") Tryz.t178.methods).get!,by kernel_rfl,by kernel_rfl,by kernel_rfl,by kernel_rfl⟩;obtain ⟨m,h1,h2,h3,h4⟩:=hm;go_simp;simp only [follow,Place.get];go_simp;(try unfold receiverAt);(try simp only [Place.get]);(try go_simp))
theorem Nr (p:Nat):∀W:World,(method 429 178 (.pointer (some ⟨p,0,none⟩)) "Make").run Tryz.prog W=.ok (211,.pointer (some ⟨p,0,none⟩)) W:=fun _=>by kernel_rfl
theorem Gj (p:Nat):∀W:World,(method 429 178 (.pointer (some ⟨p,0,none⟩)) "Insert").run Tryz.prog W=.ok (210,.pointer (some ⟨p,0,none⟩)) W:=fun _=>by kernel_rfl
theorem OB (p:Nat):∀W:World,(method 429 178 (.pointer (some ⟨p,0,none⟩)) "Min").run Tryz.prog W=.ok (213,.pointer (some ⟨p,0,none⟩)) W:=fun _=>by kernel_rfl
theorem EP (p:Nat):∀W:World,(method 429 178 (.pointer (some ⟨p,0,none⟩)) "Extract").run Tryz.prog W=.ok (209,.pointer (some ⟨p,0,none⟩)) W:=fun _=>by kernel_rfl
theorem CZ (p:Nat):∀W:World,(method 429 178 (.pointer (some ⟨p,0,none⟩)) "Decrease").run Tryz.prog W=.ok (207,.pointer (some ⟨p,0,none⟩)) W:=fun _=>by kernel_rfl
def PaQ (w:World) (p:Nat) (F:List Nat) (A:NS):Prop:=∃B F1 gt ct st tr,p=B.n0∧F=B.blk F1 gt∧j4 w B F1 gt ct A st tr
def vS:fJ where
 ty:=178
 at_:=PaQ
 upd:=fun h hu hS=>by
  obtain ⟨B,F1,gt,ct,st,tr,rfl,rfl,hL⟩:=h;exact ⟨B,F1,gt,ct,st,tr,rfl,rfl,hL.upd hu hS⟩
 lt:=fun h=>by
  obtain ⟨B,F1,gt,ct,st,tr,rfl,rfl,S,ah,hM, -⟩:=h;exact hM.lt
 ok:=fun h=>by
  obtain ⟨B,F1,gt,ct,st,tr,rfl,rfl,S,ah,hM, -⟩:=h;exact hM.cells.ok
 make:=fun {w p F A} h=>by
  obtain ⟨B,F1,gt,ct,st,tr,rfl,rfl,hL⟩:=h;refine aN 211 (fun _ _=>by kernel_rfl) (Nr _) (fun W hW=>?_)
  have hLW:=hL.aj hW
  by_cases hl:65536<A.hs.length
  ·have e1:bS A=0:=by unfold bS;rw [if_pos hl]
   have e2:aG A=A:=by unfold aG;rw [if_pos hl]
   rw [e1,e2];refine (Gp hLW hl).mono ?_;rintro e w' ⟨rfl,F',⟨F2,rfl,hA⟩,hu,hf⟩;exact ⟨rfl,_,⟨B,F2,gt,ct,st,tr,rfl,rfl,hA⟩,hu,hf⟩
  ·have e1:bS A=A.hs.length:=by unfold bS;rw [if_neg hl]
   rw [e1];refine (Ex hLW hl).mono ?_;rintro e w' ⟨rfl,F',⟨F2,gt2,ct2,rfl,hA⟩,hu,hf⟩;exact ⟨rfl,_,⟨B,F2,gt2,ct2,st,tr,rfl,rfl,hA⟩,hu,hf⟩
 insert:=fun {w p F A} g y k s hk hB h=>by
  obtain ⟨B,F1,gt,ct,st,tr,rfl,rfl,hL⟩:=h;refine aN 210 (fun _ _=>by kernel_rfl) (Gj _) (fun W hW=>?_)
  refine (AO (hL.aj hW) g y k s hk hB).mono ?_;rintro e w' ⟨rfl,hu,st',hL2⟩;exact ⟨rfl,Goes.stay ⟨B,F1,gt,ct,_,_,rfl,rfl,hL2⟩ hu⟩
 min:=fun {w p F A} y hB h=>by
  obtain ⟨B,F1,gt,ct,st,tr,rfl,rfl,hL⟩:=h;refine aN 213 (fun _ _=>by kernel_rfl) (OB _) (fun W hW=>?_)
  have hLW:=hL.aj hW;have hok:A.Ok:=by obtain ⟨S,ah,hM, -⟩:=hL;exact hM.cells.ok
  by_cases hl:cu A (y:Int)=0
  ·rw [fH.2 hl];have h4:=(aK _ _).1 hB;have h5:=hok.h1;refine (Dn hLW y ω hl).mono ?_;rintro e w' ⟨rfl,rfl⟩;exact ⟨rfl,Goes.stay ⟨B,F1,gt,ct,st,tr,rfl,rfl,hLW⟩ (aa.refl _ _)⟩
  ·refine (xH hLW y ω).mono ?_;rintro e w' ⟨m,hm, -,rfl,rfl⟩;rw [hm];exact ⟨rfl,Goes.stay ⟨B,F1,gt,ct,st,tr,rfl,rfl,hLW⟩ (aa.refl _ _)⟩
 extract:=fun {w p F A} y m hm h=>by
  obtain ⟨B,F1,gt,ct,st,tr,rfl,rfl,hL⟩:=h;refine aN 209 (fun _ _=>by kernel_rfl) (EP _) (fun W hW=>?_)
  have hl:¬cu A (y:Int)=0:=fun e=>by rw [fH.2 e] at hm;cases hm
  refine (wY (hL.aj hW) y ω).mono ?_;rintro e w' ⟨m',hm',rfl,hu,st',tr',hL2⟩;rw [hm] at hm';cases hm';exact ⟨rfl,Goes.stay ⟨B,F1,gt,ct,_,_,rfl,rfl,hL2⟩ hu⟩
 lQ:=fun {w p F A} y k s hk hB h=>by
  obtain ⟨B,F1,gt,ct,st,tr,rfl,rfl,hL⟩:=h;refine aN 207 (fun _ _=>by kernel_rfl) (CZ _) (fun W hW=>?_)
  have hLW:=hL.aj hW;have hin:=pK hB;have hx:y∈(tr (A.c y).i.toNat).nodes:=by
   obtain ⟨S,ah,hM,hI, -⟩:=hLW;have:=(af _ _).1 hin;exact (hI.mem _ y).2 ⟨ω,this.1,ω⟩
  refine (GD hLW _ y hx k s hk hB).mono ?_;rintro e w' ⟨rfl,hu,st',tr',hL2⟩;exact ⟨rfl,Goes.stay ⟨B,F1,gt,ct,_,_,rfl,rfl,hL2⟩ hu⟩
 has:=fun x h=>by
  obtain ⟨B,F1,gt,ct,st,tr,rfl,rfl,S,ah,hM, -⟩:=h;exact fK 139 (fun _ _=>by kernel_rfl) hM.h0 (E8 _ _) (fun W hW=>iq (hM.aj hW).cells x)
 entry:=fun {w p F A} x h=>by
  obtain ⟨B,F1,gt,ct,st,tr,rfl,rfl,S,ah,hM, -⟩:=h;refine fK 137 (fun _ _=>by kernel_rfl) hM.h0 (A9 _ _) (fun W hW=>?_)
  cases hin:bD A x with
  | false=>simpa using jB (hM.aj hW).cells x hin
  | true=>
   obtain ⟨y,rfl⟩:=nJ hin;simpa using iI (hM.aj hW).cells y hin
theorem Ec (p:Nat) (w:World):Calls Tryz.prog 95 #[.pointer (some ⟨p,0,none⟩),.int .i64 0] w fun e w'=>e=.returned (.tuple #[.iface 178 (.pointer (some ⟨p,0,none⟩)),.int .i64 0])∧w'=w:=by
 go_enter Tryz.func95,Tryz.ntmps95
 go_wp2;go_ret2;exact ⟨rfl,rfl⟩
theorem JC (n:Nat) (hn:n≤65536):jX vS 4 0 n:=by
 intro w;have kn:=fun W=>Ho n W hn
 have km:=Ec;have hty:vS.ty=178:=rfl;have hat:∀w' B F gt,j4 w' B F gt 1 (NS.new n) 0 (fun _=>.nil)→vS.at_ w' B.n0 (B.blk F gt) (NS.new n):=fun w' B F gt h=>⟨B,F,gt,_,_,_,rfl,rfl,h⟩
 generalize vS=K at *
 rw [hty]
 go_enter Tryz.func81,Tryz.ntmps81
 go_wp2_with (first
  | ((go_at_call 96;(with_reducible refine (kn _).mono ?_));rintro e w1 ⟨B,F,gt,rfl,hS,hu1,hf⟩)
  | ((go_at_call 95;(with_reducible refine (km _ _).mono ?_));rintro e w2 ⟨rfl,rfl⟩)
  | fail)
 go_ret2;exact ⟨B.n0,B.blk F gt,rfl,hat _ _ _ _ hS,aa.trans β hu1,fun x hx=>by have:=hf x hx;simp at this;omega⟩
end Go.Proofs.YtklibcncmbofpaaGreat
