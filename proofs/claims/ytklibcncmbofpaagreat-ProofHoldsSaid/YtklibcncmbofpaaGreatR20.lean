/-
  Lemmas for ProofHolds: Pa11, Pa12, PaQ. Conditions: those of each lemma.
-/
import Derived.Test.YtklibcncmbofpaaGreatR05
import Derived.Test.YtklibcncmbofpaaGreatR07
import Derived.Test.YtklibcncmbofpaaGreatR19
set_option linter.all false
set_option maxHeartbeats 8000000
set_option maxRecDepth 10000
namespace Go.Proofs.YtklibcncmbofpaaGreat
open Go Go.RowKit
section
variable {w:World}{B:PB}{F:List Nat}{gt ct:Nat}{A:NS}{st:Nat}{S:TS}{aj:List Int}
theorem OW(hM:ic w B F gt ct A st S aj){g x:Nat}{l:BT}(hg:(A.c x).i=g)(hg0:0<g)(hgt:g<aj.length)(htop:aj.getD g 0=x)(hT:bY S (-1) x (.node x l .nil))(hn:(BT.node x l .nil).nodes.Nodup)(hall:∀y,y∈(BT.node x l .nil).nodes->bS A (y:Int)=true) :
  Calls Tryz.prog 208 #[.pointer (some ⟨B.n0,0,none⟩),.int .i64 (x:Int)] w fun e w'=>e=.returned (.bool true)/\aa (B.blk F gt) w w'/\∃st' S',ic w' B F gt ct (bz A x) st' S' (aj.set g (gF A (bU A (bD l))).root)/\bY S' (-1) (gF A (bU A (bD l))).root (gF A (bU A (bD l)))/\(S'.l x=-1/\S'.r x=-1/\S'.u x=-1)/\∀y,y∉(BT.node x l .nil).nodes->S.at S' y:=by
 have hin:bS A (x:Int)=true:=hall x (by simp[BT.nodes]);have hn':(x::l.nodes).Nodup:=by simpa[BT.nodes]using hn
 have hl':∀z,z∈l.nodes->bS A (z:Int)=true:=fun z hz=>hall z (by simp[BT.nodes,hz]);have hsz:l.size<=65536:=by
  rw[←BT.mf];have:=CZ (n:=A.cs.length) (List.nodup_cons.1 hn').2 (fun y hy=>((ah _ _).1 (hl' y hy)).1);have:=hM.cells.ok.c1;omega
 have kh:=dQ hM.cells x hin;rw[hg]at kh;have h0:=hM.h0;have HM:=χ hM;have HT:=χ (ψ hT (ψ hn' (ψ hl' (ψ hsz hin))));have Wp:=χ htop;have XZ:=hM.cells.ok.h1;have htn:aj.length=A.hs.length:=hM.jw;have TB:(g:Int)<(aj.length:Int):=ω;have hA:=hM.cells.ok.c1;have hxl:x<A.cs.length:=((ah _ _).1 hin).1;clear hM hT hn hn' hl' hsz hin hall htop htn hg;generalize hR:gF A (bU A (bD l))=R at *;have Dv:((x:Int) == (x:Int))=true:=σ
 go_enter Tryz.func208,Tryz.ntmps208
 go_wp2_with (first
  | ((go_at_call 140;(with_reducible refine(kh).mono ?_));rintro e w1 ⟨rfl,jr,hu1⟩;(have hM1:=HM.out.cB hu1 jr (fun y hy=>Or.inl hy) rfl rfl);(have g21:=hM1.h2);(have g22:=hM1.jH.cell g hgt);rw[Wp.out]at g22)
  | fail)
 have ks:=fun W (hW:aa [] w1 W)=>Ae (hM1.au hW) x HT.out.2.2.2.2 l HT.out.1.2.2.1 HT.out.2.1 HT.out.2.2.1 HT.out.2.2.2.1;rw[hR]at ks;have f4:=hM1.jH.free g;have hnn:B.n0∉B.ba::F/\gt∉B.ba::F:=by
  have a1:=hM1.sep;have a2:=hM1.bG;exact⟨by simp only[ρ,not_or];exact⟨a1.1,a2.1⟩,by simp only[ρ,not_or];exact⟨fun e=>a1.2.2 e.symm,a2.2.2⟩⟩
 obtain⟨Qt,xP⟩:=hnn;have HS1:=χ hM1.sep;have h3:=hM1.h2;have h00:=hM1.h0;have r3:∀W,aa (B.ba::F) w1 W->W.cell? ⟨B.n0,2,none⟩=some (.slice (some ⟨gt,0,none⟩) aj.length ct):=fun W hW=>hW.kept h3 Qt;have r4:∀W,aa (B.ba::F) w1 W->W.cell? ⟨gt,g,none⟩=some (.int .i64 (x:Int))/\W.frozen? ⟨gt,g,none⟩=false:=fun W hW=>⟨hW.kept g22 xP,hW.aS g22 xP f4⟩
 have BP:(0:Int)<=(g:Int):=ω;have Ho:aa (B.blk F gt) w w1:=hu1.mono (fun y hy=>by simp only[PB.blk,ρ];simp[hy]);have HU:=χ Ho;clear hM1 f4 h3 Qt xP jr hu1 kh Ho;have q3:=r3 _ (aa.refl _ _);have q4:=(r4 _ (aa.refl _ _)).1
 go_upto_region 5 with(fail)
 go_region_law
  (first
   | (go_simp;go_at_call 216;(with_reducible refine(ks _ β).mono ?_);rintro e w5 ⟨rfl,xK,X3,S5,wL,I1,hl5,Nl,UG,hs5⟩;(have bW:aa (B.ba::F) w1 w5:=aa.trans β xK);obtain⟨d5,f5⟩:=r4 _ bW;(have q5:=r3 _ bW)))
 all_goals
  have uG:=wL.qQ g R.root;have kd:=iq uG.cells x HT.out.2.2.2.2;have h06:=uG.h0
  go_wp2_with (first
   | ((go_at_call 151;(with_reducible refine(kd).mono ?_));rintro e w7 ⟨rfl,hC7,kE⟩)
   | fail)
  go_ret;have hbn:∀y,y∉(BT.node x l .nil).nodes->y∉x::l.nodes:=fun y hy hm=>hy (by simpa[BT.nodes]using hm);have v5:aa (B.blk F gt) w w5:=HU.out.trans (bW.mono (fun y hy=>by simp only[PB.blk,ρ]at hy⊢;rcases hy with h|h<;>simp[h]));refine⟨rfl,(v5.setCell (Or.inl (by simp[PB.blk])) _).trans (kE.mono (fun y hy=>by simp only[PB.blk,ρ];simp[hy])),X3,S5,uG.cB kE hC7 (fun y hy=>Or.inl hy) (fG _ _) (by rw[iW]),I1,⟨hl5,?_,?_⟩,fun y hy=>hs5 y (hbn y hy)⟩
  ·rw[Nl];exact HT.out.1.2.2.2
  ·rw[UG];exact HT.out.1.2.1
theorem Sl(hM:ic w B F gt ct A st S aj){g x:Nat}{f:Fr}{P:List Fr}{l r:BT}(hg:(A.c x).i=g)(hg0:0<g)(hgt:g<aj.length)(htop:aj.getD g 0=(ai (f::P) (.node x l r)).root)(hT:bY S (-1) (ai (f::P) (.node x l r)).root (ai (f::P) (.node x l r)))(hn:(ai (f::P) (.node x l r)).nodes.Nodup)
  (hL:Lone (ai (f::P) (.node x l r))) (hH:eU A (ai (f::P) (.node x l r))) (hall:∀y,y∈(ai (f::P) (.node x l r)).nodes->bS A (y:Int)=true) :
  Calls Tryz.prog 208 #[.pointer (some ⟨B.n0,0,none⟩),.int .i64 (x:Int)] w fun e w'=>e=.returned (.bool true)/\aa (B.blk F gt) w w'/\∃st' S',ic w' B F gt ct (bz A x) st' S' (aj.set g (dD A (ai (f::P) r) (gF A (bU A (bD l)))).root)/\bY S' (-1) (dD A (ai (f::P) r) (gF A (bU A (bD l)))).root (dD A (ai (f::P) r) (gF A (bU A (bD l))))/\(S'.l x=-1/\S'.r x=-1/\S'.u x=-1)/\∀y,y∉(ai (f::P) (.node x l r)).nodes->S.at S' y:=by
 have hin:bS A (x:Int)=true:=hall x (qo.2 (Or.inl (by simp[BT.nodes])));obtain⟨o1,o2,o3, -⟩:=Bo hT hn;obtain⟨oh1, -⟩:=Aj (P:=f::P) hH;have hpm:=wo (f::P) x l r;have tC:((ai (f::P) r).nodes++(BT.node x l .nil).nodes).Nodup:=xP (hpm.nodup_iff.1 hn);have I5:∀y,y∈(ai (f::P) r).nodes++(BT.node x l .nil).nodes->y∈(ai (f::P) (.node x l r)).nodes:=fun y hy=>by
  rw[hpm.mem_iff,τ];rw[τ]at hy;exact hy.symm
 have Nh:Lone (ai (f::P) r):=qw (t:=.node x l r) σ hL;have hrt:(ai (f::P) (.node x l r)).root=(ai (f::P) r).root:=kQ _ _ _ _;have hroot:(ai (f::P) r).root≠(x:Int):=fun e=>by
  have h6:ai (f::P) r≠.nil:=fun e'=>by rw[e']at e;simp[BT.root]at e
  have h7:=(bL h6).1;rw[e,π]at h7;rw[θ]at tC;exact tC.2.2 x h7 x (by simp[BT.nodes]) rfl
 rw[hrt]at htop;have hn':(x::l.nodes).Nodup:=by
  rw[θ]at tC;simpa[BT.nodes]using tC.2.1
 have hl':∀z,z∈l.nodes->bS A (z:Int)=true:=fun z hz=>hall z (I5 z (by simp[BT.nodes,hz]));have hsz:l.size<=65536:=by
  rw[←BT.mf];have:=CZ (n:=A.cs.length) (List.nodup_cons.1 hn').2 (fun y hy=>((ah _ _).1 (hl' y hy)).1);have:=hM.cells.ok.c1;omega
 obtain⟨t1,t2,t3⟩:=xM oh1.2.1 (List.nodup_cons.1 hn').2;have hXR:((ai (f::P) r).nodes++(gF A (bU A (bD l))).nodes).Nodup:=by
  have h1:((ai (f::P) r).nodes++l.nodes).Nodup:=by
   rw[θ]at tC⊢;exact⟨tC.1,(List.nodup_cons.1 hn').2,fun a ha b hb=>tC.2.2 a ha b (by simp[BT.nodes,hb])⟩
  exact(t1.append_left _).nodup_iff.2 h1
 have hXRm:∀y,y∈(ai (f::P) r).nodes++(gF A (bU A (bD l))).nodes->y∈(ai (f::P) (.node x l r)).nodes/\y≠x:=fun y hy=>by
  rw[τ,t1.mem_iff]at hy;refine⟨I5 y (by simp only[τ,BT.nodes,List.append_nil,ρ];rcases hy with h|h<;>simp[h]),fun e=>?_⟩;subst e;rw[θ]at tC;rcases hy with h|h
  ·exact tC.2.2 y h y (by simp[BT.nodes]) rfl
  ·exact(List.nodup_cons.1 hn').1 h
 have hra:∀y,y∈(ai (f::P) r).nodes->y∉x::l.nodes:=fun y hy hm=>by
  rw[θ]at tC;exact tC.2.2 y hy y (by simpa[BT.nodes]using hm) rfl
 have hsub:∀y,y∈x::l.nodes->y∈(ai (f::P) (.node x l r)).nodes:=fun y hy=>I5 y (by rw[τ];right;simpa[BT.nodes]using hy);have ko:=fun(w1:World) (hM1:ic w1 B F gt ct A st S aj)=>XN hM1 hT hn (fun y hy=>((ah _ _).1 (hall y hy)).1);have kh:=dQ hM.cells x hin;rw[hg]at kh;have h0:=hM.h0;have HM:=χ hM;have HT:=χ (ψ o1 (ψ o2 (ψ o3 (ψ hn' (ψ hl' (ψ hsz hin))))));have HX:=χ (ψ hXR (ψ hXRm (ψ Nh (ψ t2 (ψ hra (ψ hsub hall))))));have Wp:=χ htop;have XZ:=hM.cells.ok.h1;have htn:aj.length=A.hs.length:=hM.jw;have TB:(g:Int)<(aj.length:Int):=ω;have hA:=hM.cells.ok.c1;have hxl:x<A.cs.length:=((ah _ _).1 hin).1
 have hr0:(ai (f::P) r).root=-1\/0<=(ai (f::P) r).root:=by
  have:=nU (n:=A.cs.length) o2 (fun z hz=>((ah _ _).1 (hall z (I5 z (by simp[hz])))).1);omega
 clear hM hT hn hn' hl' hsz hin hall htop htn hg o1 o2 o3 oh1 hpm tC I5 Nh hrt t1 t2 t3 hXR hXRm hra hsub hL hH;generalize hR:gF A (bU A (bD l))=R at *;generalize Fu:ai (f::P) r=ta at *;have Dv:(ta.root == (x:Int))=false:=by simpa using hroot
 go_enter Tryz.func208,Tryz.ntmps208
 go_wp2_with (first
  | ((go_at_call 140;(with_reducible refine(kh).mono ?_));rintro e w1 ⟨rfl,jr,hu1⟩;(have hM1:=HM.out.cB hu1 jr (fun y hy=>Or.inl hy) rfl rfl);(have g21:=hM1.h2);(have g22:=hM1.jH.cell g hgt);rw[Wp.out]at g22;(have ko1:=ko w1 hM1))
  | ((go_at_call 214;(with_reducible refine(ko1).mono ?_));rintro e w3 ⟨rfl,jR,hu3⟩)
  | fail)
 have ks:=fun W (hW:aa [] w3 W)=>Ae (jR.au hW) x HT.out.2.2.2.2.2.2 l HT.out.1.2.2.1 HT.out.2.2.2.1 HT.out.2.2.2.2.1 HT.out.2.2.2.2.2.1;rw[hR]at ks;have kl:Hid (∀W Xr S4,ic W B F gt ct A Xr S4 aj->bY S4 (-1) R.root R->(∀z,z∉x::l.nodes->(kK S f.1 f.2.1 x).at S4 z)->_):=fun W Xr S4 rW PU hs4=>wZ rW ta R (HT.out.2.1.frame (fun y hy=>hs4 y (HX.out.2.2.2.2.1 y hy))) PU HX.out.2.2.1 HX.out.2.2.2.1 HX.out.1 (fun y hy=>HX.out.2.2.2.2.2.2 y (HX.out.2.1 y hy).1);have d4:=jR.jH.cell g hgt;rw[Wp.out]at d4;have f4:=jR.jH.free g;have hnn:B.n0∉B.ba::F/\gt∉B.ba::F:=by
  have a1:=jR.sep;have a2:=jR.bG;exact⟨by simp only[ρ,not_or];exact⟨a1.1,a2.1⟩,by simp only[ρ,not_or];exact⟨fun e=>a1.2.2 e.symm,a2.2.2⟩⟩
 obtain⟨Qt,xP⟩:=hnn;have HS1:=χ jR.sep;have qz:=jR.cF;have h3:=jR.h2;have r3:∀W,aa (B.ba::F) w3 W->W.cell? ⟨B.n0,2,none⟩=some (.slice (some ⟨gt,0,none⟩) aj.length ct):=fun W hW=>hW.kept h3 Qt;have r4:∀W,aa (B.ba::F) w3 W->W.cell? ⟨gt,g,none⟩=some (.int .i64 ta.root)/\W.frozen? ⟨gt,g,none⟩=false:=fun W hW=>⟨hW.kept d4 xP,hW.aS d4 xP f4⟩
 have BP:(0:Int)<=(g:Int):=ω;have Ho:aa (B.blk F gt) w w1:=hu1.mono (fun y hy=>by simp only[PB.blk,ρ];simp[hy]);have HU:=χ (Ho.trans (hu3.mono (fun y hy=>by simp at hy;simp[PB.blk,hy])));clear hM1 jR f4 h3 Qt xP jr hu1 kh Ho hu3 ko ko1 g21 g22;have q3:=r3 _ (aa.refl _ _);have q4:=(r4 _ (aa.refl _ _)).1;generalize hmt:dD A ta R=mt at *
 go_upto_region 8 with(fail)
 go_region_law
  (first
   | (go_simp;go_at_call 216;(with_reducible refine(ks _ β).mono ?_);rintro e w5 ⟨rfl,xK,X3,S5,wL,I1,hl5,Nl,UG,hs5⟩;(have bW:aa (B.ba::F) w3 w5:=aa.trans β xK);obtain⟨d5,f5⟩:=r4 _ bW;(have q5:=r3 _ bW);(have km:=fun W (hW:aa [] w5 W)=>kl W X3 S5 (wL.au hW) I1 hs5))
   | (go_simp;go_at_call 215;(with_reducible refine(km _ β).mono ?_);rintro e w6 ⟨rfl,hu6a,st6,S6,uG,Nk,hs6⟩;(have hu6b:aa [B.ba,B.c] w5 w6:=aa.trans β hu6a);(have ik:aa (B.ba::F) w3 w6:=bW.trans (hu6b.mono (fun y hy=>by simp at hy;rcases hy with h|h<;>simp[h,qz])));obtain⟨d6,f6⟩:=r4 _ ik;(have q6:=r3 _ ik)))
 all_goals
  subst hmt;have I9:=uG.qQ g (dD A ta R).root;have kd:=iq I9.cells x HT.out.2.2.2.2.2.2;have h06:=I9.h0
  go_wp2_with (first
   | ((go_at_call 151;(with_reducible refine(kd).mono ?_));rintro e w8 ⟨rfl,hC8,Jv⟩)
   | fail)
  go_ret;have hxa:x∉ta.nodes++R.nodes:=fun hm=>(HX.out.2.1 x hm).2 rfl;have a6:=hs6 x hxa;have v5:aa (B.blk F gt) w w6:=HU.out.trans (ik.mono (fun y hy=>by simp only[PB.blk,ρ]at hy⊢;rcases hy with h|h<;>simp[h]));refine⟨rfl,(v5.setCell (Or.inl (by simp[PB.blk])) _).trans (Jv.mono (fun y hy=>by simp only[PB.blk,ρ];simp[hy])),st6,S6,I9.cB Jv hC8 (fun y hy=>Or.inl hy) (fG _ _) (by rw[iW]),Nk,⟨?_,?_,?_⟩,fun y hy=>?_⟩
  ·rw[a6.1];exact hl5
  ·rw[a6.2.1,Nl];exact HT.out.1.2.2.2
  ·rw[a6.2.2,UG];exact HT.out.1.2.1
  ·exact Rt (Rt (HT.out.2.2.1 y hy) (hs5 y (fun hm=>hy (HX.out.2.2.2.2.2.1 y hm)))) (hs6 y (fun hm=>hy (HX.out.2.1 y hm).1))
end
section
variable {w:World}{B:PB}{F:List Nat}{gt ct:Nat}{A:NS}{st:Nat}{tr:Nat->BT}
theorem DX{aj:List Int}{g:Nat}{v:Int}(hgt:g<aj.length):∀q,(aj.set g v).getD q 0=if q=g then v else aj.getD q 0:=fun q=>by
 by_cases e:q=g
 ·rw[if_pos e,e,φ,List.getElem?_set,if_pos rfl,if_pos hgt];rfl
 ·rw[if_neg e,φ,List.getElem?_set,if_neg (fun h=>e h.symm),←φ]
theorem PG(h:nA w B F gt ct A st tr)(g x:Nat)(hx:x∈(tr g).nodes)(k s:Int)(hk:-9223372036854775808<=k/\k<=9223372036854775807/\0<=s/\s<=18446744073709551615)(hB:jg A x k s=true) :
  Calls Tryz.prog 207 #[.pointer (some ⟨B.n0,0,none⟩),.int .i64 (x:Int),.agg #[.int .i64 k,.int .u64 s]] w fun e w'=>e=.returned (.bool true)/\aa (B.blk F gt) w w'/\∃st' I6,nA w' B F gt ct (ay A x k s) st' I6:=by
 obtain⟨S,aj,hM,hI,hL⟩:=h;have hm:=(hI.mem g x).1 hx;have e:=nM hx;generalize (pathOf (tr g) x).1=P at *;generalize (pathOf (tr g) x).2.1=l at *;generalize (pathOf (tr g) x).2.2=r at *;have hgt:g<aj.length:=by rw[hM.jw];have:=(hM.cells.ok.nat x hm.2.1);omega
 have hgh:g<A.hs.length:=by rw[←hM.jw];exact hgt
 have hT:=hI.Ec g;have hn:=hI.nd g;have hH:eU A (tr g):=hI.heap g;have Jo:=hL g;have htp:=hI.top g hgh;have hall:∀y,y∈(tr g).nodes->bS A (y:Int)=true:=fun y hy=>by
  have:=(hI.mem g y).1 hy;exact(ah A y).2 ⟨this.2.1,ω⟩
 rw[e]at hT hn hH Jo htp hall;cases P with
 | nil=>
  have hr:r=.nil:=Jo;subst hr;refine(Pb hM hk hB hm.2.2 hm.1 hgt htp hm.2.1).mono ?_;rintro e' w' ⟨rfl,hu,hE⟩;have e2:tr g=.node x l .nil:=e
  have h2:=hI.low hB hx (t':=tr g) (ji:=aj) (hI.Ec g) (List.Perm.refl _) (by rw[e2];exact Dj hB hm.2.1 hH hn) (fun y _=>⟨rfl,rfl,rfl⟩) (fun q hq=>by
   split
   ·rename_i e3;rw[e3];exact hI.top g hgh
   ·rfl)
  refine⟨rfl,hu,st,_,S,aj,hE,h2,fun q=>?_⟩
  show Lone (if q=g then tr g else tr q)
  split<;>exact hL _
 | cons f P2=>
  refine(Sa hM hk hB hm.2.2 hm.1 hgt htp hT hn Jo hall).mono ?_;rintro e' w' ⟨rfl,hu,st',S',q1,q2,q3⟩;have hpm:=wo (f::P2) x l r;obtain⟨oh1,oh2⟩:=Aj (P:=f::P2) hH;have tC:((ai (f::P2) r).nodes++(BT.node x l .nil).nodes).Nodup:=xP (hpm.nodup_iff.1 hn);have Nh:Lone (ai (f::P2) r):=qw (t:=.node x l r) σ Jo;have BD:x∉(ai (f::P2) r).nodes:=fun hm'=>by
   rw[θ]at tC;exact tC.2.2 x hm' x (by simp[BT.nodes]) rfl
  have hc:=rD hB hm.2.1;have hH2:eU (ay A x k s) (ai (f::P2) r):=eU.frame oh2 (fun y hy=>by rw[hc,if_neg (fun e=>BD (by rw[←e];exact hy))]);have hH1:=Dj hB hm.2.1 oh1 (by rw[θ]at tC;exact tC.2.1);have hLx:Lone (BT.node x l .nil):=rfl;have hp:(dD (ay A x k s) (ai (f::P2) r) (.node x l .nil)).nodes.Perm (tr g).nodes:=by
   rw[e];exact(lX _ Nh hLx).trans (List.perm_append_comm.trans hpm.symm)
  have h2:=hI.low hB hx (t':=dD (ay A x k s) (ai (f::P2) r) (.node x l .nil)) (ji:=aj.set g (dD (ay A x k s) (ai (f::P2) r) (.node x l .nil)).root) q2 hp (pR Nh hLx hH2 hH1 tC) (fun y hy=>q3 y (by rw[←e];exact hy)) (fun q _=>DX hgt q);refine⟨rfl,hu,st',_,S',_,q1,h2,fun q=>?_⟩
  show Lone (if q=g then _ else tr q)
  split
  ·exact nL _ Nh hLx
  ·exact hL q
theorem OI(h:nA w B F gt ct A st tr)(g x:Nat)(hx:x∈(tr g).nodes) :
  Calls Tryz.prog 208 #[.pointer (some ⟨B.n0,0,none⟩),.int .i64 (x:Int)] w fun e w'=>e=.returned (.bool true)/\aa (B.blk F gt) w w'/\∃st' I6,nA w' B F gt ct (bz A x) st' I6:=by
 obtain⟨S,aj,hM,hI,hL⟩:=h;have hm:=(hI.mem g x).1 hx;have e:=nM hx;generalize (pathOf (tr g) x).1=P at *;generalize (pathOf (tr g) x).2.1=l at *;generalize (pathOf (tr g) x).2.2=r at *;have hgt:g<aj.length:=by rw[hM.jw];have:=(hM.cells.ok.nat x hm.2.1);omega
 have hgh:g<A.hs.length:=by rw[←hM.jw];exact hgt
 have hT:=hI.Ec g;have hn:=hI.nd g;have hH:eU A (tr g):=hI.heap g;have Jo:=hL g;have htp:=hI.top g hgh;have hall:∀y,y∈(tr g).nodes->bS A (y:Int)=true:=fun y hy=>by
  have:=(hI.mem g y).1 hy;exact(ah A y).2 ⟨this.2.1,ω⟩
 rw[e]at hT hn hH Jo htp hall;cases P with
 | nil=>
  have hr:r=.nil:=Jo;subst hr;have e2:tr g=.node x l .nil:=e;refine(OW hM hm.2.2 hm.1 hgt htp hT hn hall).mono ?_;rintro e' w' ⟨rfl,hu,st',S',q1,q2,q3,q4⟩;have hn':(x::l.nodes).Nodup:=by
   have h9:(BT.node x l .nil).nodes.Nodup:=hn;simpa[BT.nodes]using h9
  have hH':eU A (.node x l .nil):=hH;obtain⟨t1,t2,t3⟩:=xM hH'.2.1 (List.nodup_cons.1 hn').2;have hp:(x::(gF A (bU A (bD l))).nodes).Perm (tr g).nodes:=by
   rw[e2];simp only[BT.nodes,List.append_nil];exact List.Perm.cons x t1
  have h2:=hI.del hx (t':=gF A (bU A (bD l))) (ji:=aj.set g (gF A (bU A (bD l))).root) q2 hp t3 (fun y hy=>q4 y (by rw[←e2];exact hy)) q3 (fun q _=>DX hgt q);refine⟨rfl,hu,st',_,S',_,q1,h2,fun q=>?_⟩
  show Lone (if q=g then _ else tr q)
  split
  ·exact t2
  ·exact hL q
 | cons f P2=>
  refine(Sl hM hm.2.2 hm.1 hgt htp hT hn Jo hH hall).mono ?_;rintro e' w' ⟨rfl,hu,st',S',q1,q2,q3,q4⟩;have hpm:=wo (f::P2) x l r;obtain⟨oh1,oh2⟩:=Aj (P:=f::P2) hH;have tC:((ai (f::P2) r).nodes++(BT.node x l .nil).nodes).Nodup:=xP (hpm.nodup_iff.1 hn);have Nh:Lone (ai (f::P2) r):=qw (t:=.node x l r) σ Jo;have hn':(x::l.nodes).Nodup:=by
   rw[θ]at tC;simpa[BT.nodes]using tC.2.1
  obtain⟨t1,t2,t3⟩:=xM oh1.2.1 (List.nodup_cons.1 hn').2;have hXR:((ai (f::P2) r).nodes++(gF A (bU A (bD l))).nodes).Nodup:=by
   have h1:((ai (f::P2) r).nodes++l.nodes).Nodup:=by
    rw[θ]at tC⊢;exact⟨tC.1,(List.nodup_cons.1 hn').2,fun a ha b hb=>tC.2.2 a ha b (by simp[BT.nodes,hb])⟩
   exact(t1.append_left _).nodup_iff.2 h1
  have hp:(x::(dD A (ai (f::P2) r) (gF A (bU A (bD l)))).nodes).Perm (tr g).nodes:=by
   rw[e];refine((lX A Nh t2).cons x).trans ?_;refine((t1.append_left _).cons x).trans ?_;refine List.Perm.trans ?_ hpm.symm;simp only[BT.nodes,List.append_nil,List.cons_append];exact List.perm_append_comm.cons x
  have h2:=hI.del hx (t':=dD A (ai (f::P2) r) (gF A (bU A (bD l)))) (ji:=aj.set g (dD A (ai (f::P2) r) (gF A (bU A (bD l)))).root) q2 hp (pR Nh t2 oh2 t3 hXR) (fun y hy=>q4 y (by rw[←e];exact hy)) q3 (fun q _=>DX hgt q);refine⟨rfl,hu,st',_,S',_,q1,h2,fun q=>?_⟩
  show Lone (if q=g then _ else tr q)
  split
  ·exact nL _ Nh t2
  ·exact hL q
theorem Bh(h:nA w B F gt ct A st tr)(g:Nat)(hn:0<dO A g) :
  Calls Tryz.prog 209 #[.pointer (some ⟨B.n0,0,none⟩),.int .i64 (g:Int)] w fun e w'=>∃m:Nat,dL A g=some m/\e=.returned (.tuple #[.int .i64 (m:Int),.bool true])/\aa (B.blk F gt) w w'/\∃st' I6,nA w' B F gt ct (bz A m) st' I6:=by
 have k:=zS h g hn;have kd:=fun m hm=>OI h g m hm;have hroot:∀m:Nat,(tr g).root=m->m∈(tr g).nodes:=fun m hm=>by
  have hne:tr g≠.nil:=fun e=>by rw[e]at hm;have:(-1:Int)=m:=hm;omega
  have:=(bL hne).1;rw[hm]at this;simpa using this
 clear h
 go_enter Tryz.func209,Tryz.ntmps209
 go_wp2_with (first
  | ((go_at_call 213;(with_reducible refine(k).mono ?_));rintro e w1 ⟨m,hm1,hm2,rfl,rfl⟩;(have Zr:=kd m (hroot m hm2)))
  | ((go_at_call 208;(with_reducible refine(Zr).mono ?_));rintro e w2 ⟨rfl,hu2,hL2⟩)
  | fail)
 go_ret2;exact⟨m,hm1,rfl,hu2,hL2⟩
end
theorem KR(p c:Nat):∀W:World,W.cell? ⟨p,0,none⟩=some (.pointer (some ⟨c,0,none⟩))->(method 429 178 (.pointer (some ⟨p,0,none⟩)) "Has").run Tryz.prog W=.ok (139,.pointer (some ⟨c,0,none⟩)) W:=(by intro W h;unfold method;have hm:∃m,(Array.find? (fun x=>x.name == "Has") Tryz.t178.methods)=some m/\m.path.toList=[⟨215,0,true⟩]/\m.func=some (139,true)/\m.path.isEmpty=false:=⟨(Array.find? (fun x=>x.name == "Has") Tryz.t178.methods).get!,by kernel_rfl,by kernel_rfl,by kernel_rfl,by kernel_rfl⟩;obtain⟨m,h1,h2,h3,h4⟩:=hm;go_simp;simp only[follow,Place.get];go_simp;(try unfold receiverAt);(try simp only[Place.get]);(try go_simp))
theorem EA(p c:Nat):∀W:World,W.cell? ⟨p,0,none⟩=some (.pointer (some ⟨c,0,none⟩))->(method 429 178 (.pointer (some ⟨p,0,none⟩)) "Entry").run Tryz.prog W=.ok (137,.pointer (some ⟨c,0,none⟩)) W:=(by intro W h;unfold method;have hm:∃m,(Array.find? (fun x=>x.name == "Entry") Tryz.t178.methods)=some m/\m.path.toList=[⟨215,0,true⟩]/\m.func=some (137,true)/\m.path.isEmpty=false:=⟨(Array.find? (fun x=>x.name == "Entry") Tryz.t178.methods).get!,by kernel_rfl,by kernel_rfl,by kernel_rfl,by kernel_rfl⟩;obtain⟨m,h1,h2,h3,h4⟩:=hm;go_simp;simp only[follow,Place.get];go_simp;(try unfold receiverAt);(try simp only[Place.get]);(try go_simp))
theorem Xc(p:Nat):∀W:World,(method 429 178 (.pointer (some ⟨p,0,none⟩)) "Make").run Tryz.prog W=.ok (211,.pointer (some ⟨p,0,none⟩)) W:=fun _=>by kernel_rfl
theorem NU(p:Nat):∀W:World,(method 429 178 (.pointer (some ⟨p,0,none⟩)) "Insert").run Tryz.prog W=.ok (210,.pointer (some ⟨p,0,none⟩)) W:=fun _=>by kernel_rfl
theorem Zh(p:Nat):∀W:World,(method 429 178 (.pointer (some ⟨p,0,none⟩)) "Min").run Tryz.prog W=.ok (213,.pointer (some ⟨p,0,none⟩)) W:=fun _=>by kernel_rfl
theorem K9(p:Nat):∀W:World,(method 429 178 (.pointer (some ⟨p,0,none⟩)) "Extract").run Tryz.prog W=.ok (209,.pointer (some ⟨p,0,none⟩)) W:=fun _=>by kernel_rfl
theorem Gz(p:Nat):∀W:World,(method 429 178 (.pointer (some ⟨p,0,none⟩)) "Decrease").run Tryz.prog W=.ok (207,.pointer (some ⟨p,0,none⟩)) W:=fun _=>by kernel_rfl
def PaQ(w:World)(p:Nat)(F:List Nat)(A:NS):Prop:=∃B F1 gt ct st tr,p=B.n0/\F=B.blk F1 gt/\nA w B F1 gt ct A st tr
def zn:gW where
 ty:=178
 at_:=PaQ
 upd:=fun h hu hS=>by
  obtain⟨B,F1,gt,ct,st,tr,rfl,rfl,hL⟩:=h;exact⟨B,F1,gt,ct,st,tr,rfl,rfl,hL.upd hu hS⟩
 lt:=fun h=>by
  obtain⟨B,F1,gt,ct,st,tr,rfl,rfl,S,aj,hM, -⟩:=h;exact hM.lt
 ok:=fun h=>by
  obtain⟨B,F1,gt,ct,st,tr,rfl,rfl,S,aj,hM, -⟩:=h;exact hM.cells.ok
 make:=fun {w p F A} h=>by
  obtain⟨B,F1,gt,ct,st,tr,rfl,rfl,hL⟩:=h;refine aZ 211 (fun _ _=>by kernel_rfl) (Xc _) (fun W hW=>?_);have mq:=hL.au hW
  by_cases hl:65536<A.hs.length
  ·have e1:dm A=0:=by unfold dm;rw[if_pos hl]
   have e2:aR A=A:=by unfold aR;rw[if_pos hl]
   rw[e1,e2];refine(NZ mq hl).mono ?_;rintro e w' ⟨rfl,F',⟨F2,rfl,hA⟩,hu,hf⟩;exact⟨rfl,_,⟨B,F2,gt,ct,st,tr,rfl,rfl,hA⟩,hu,hf⟩
  ·have e1:dm A=A.hs.length:=by unfold dm;rw[if_neg hl]
   rw[e1];refine(Ko mq hl).mono ?_;rintro e w' ⟨rfl,F',⟨F2,gt2,ct2,rfl,hA⟩,hu,hf⟩;exact⟨rfl,_,⟨B,F2,gt2,ct2,st,tr,rfl,rfl,hA⟩,hu,hf⟩
 insert:=fun {w p F A} g y k s hk hB h=>by
  obtain⟨B,F1,gt,ct,st,tr,rfl,rfl,hL⟩:=h;refine aZ 210 (fun _ _=>by kernel_rfl) (NU _) (fun W hW=>?_);refine(EK (hL.au hW) g y k s hk hB).mono ?_;rintro e w' ⟨rfl,hu,st',hL2⟩;exact⟨rfl,Goes.stay ⟨B,F1,gt,ct,_,_,rfl,rfl,hL2⟩ hu⟩
 min:=fun {w p F A} y hB h=>by
  obtain⟨B,F1,gt,ct,st,tr,rfl,rfl,hL⟩:=h;refine aZ 213 (fun _ _=>by kernel_rfl) (Zh _) (fun W hW=>?_);have mq:=hL.au hW;have hok:A.Ok:=by obtain⟨S,aj,hM, -⟩:=hL;exact hM.cells.ok
  by_cases hl:dO A (y:Int)=0
  ·rw[iI.2 hl];have h4:=(aV _ _).1 hB;have h5:=hok.h1;refine(KI mq y ω hl).mono ?_;rintro e w' ⟨rfl,rfl⟩;exact⟨rfl,Goes.stay ⟨B,F1,gt,ct,st,tr,rfl,rfl,mq⟩ (aa.refl _ _)⟩
  ·refine(zS mq y ω).mono ?_;rintro e w' ⟨m,hm, -,rfl,rfl⟩;rw[hm];exact⟨rfl,Goes.stay ⟨B,F1,gt,ct,st,tr,rfl,rfl,mq⟩ (aa.refl _ _)⟩
 extract:=fun {w p F A} y m hm h=>by
  obtain⟨B,F1,gt,ct,st,tr,rfl,rfl,hL⟩:=h;refine aZ 209 (fun _ _=>by kernel_rfl) (K9 _) (fun W hW=>?_);have hl:¬dO A (y:Int)=0:=fun e=>by rw[iI.2 e]at hm;cases hm
  refine(Bh (hL.au hW) y ω).mono ?_;rintro e w' ⟨m',hm',rfl,hu,st',I6,hL2⟩;rw[hm]at hm';cases hm';exact⟨rfl,Goes.stay ⟨B,F1,gt,ct,_,_,rfl,rfl,hL2⟩ hu⟩
 mD:=fun {w p F A} y k s hk hB h=>by
  obtain⟨B,F1,gt,ct,st,tr,rfl,rfl,hL⟩:=h;refine aZ 207 (fun _ _=>by kernel_rfl) (Gz _) (fun W hW=>?_);have mq:=hL.au hW;have hin:=rq hB;have hx:y∈(tr (A.c y).i.toNat).nodes:=by
   obtain⟨S,aj,hM,hI, -⟩:=mq;have:=(ah _ _).1 hin;exact(hI.mem _ y).2 ⟨ω,this.1,ω⟩
  refine(PG mq _ y hx k s hk hB).mono ?_;rintro e w' ⟨rfl,hu,st',I6,hL2⟩;exact⟨rfl,Goes.stay ⟨B,F1,gt,ct,_,_,rfl,rfl,hL2⟩ hu⟩
 has:=fun x h=>by
  obtain⟨B,F1,gt,ct,st,tr,rfl,rfl,S,aj,hM, -⟩:=h;exact iN 139 (fun _ _=>by kernel_rfl) hM.h0 (KR _ _) (fun W hW=>jN (hM.au hW).cells x)
 entry:=fun {w p F A} x h=>by
  obtain⟨B,F1,gt,ct,st,tr,rfl,rfl,S,aj,hM, -⟩:=h;refine iN 137 (fun _ _=>by kernel_rfl) hM.h0 (EA _ _) (fun W hW=>?_);cases hin:bS A x with
  | false=>simpa using l8 (hM.au hW).cells x hin
  | true=>
   obtain⟨y,rfl⟩:=qC hin;simpa using j5 (hM.au hW).cells y hin
theorem JW(p:Nat)(w:World):Calls Tryz.prog 95 #[.pointer (some ⟨p,0,none⟩),.int .i64 0] w fun e w'=>e=.returned (.tuple #[.iface 178 (.pointer (some ⟨p,0,none⟩)),.int .i64 0])/\w'=w:=by
 go_enter Tryz.func95,Tryz.ntmps95
 go_wp2;go_ret2;exact⟨rfl,rfl⟩
theorem QH(n:Nat)(hn:n<=65536):pJ zn 4 0 n:=by
 intro w;have kn:=fun W=>NI n W hn;have km:=JW;have hty:zn.ty=178:=rfl;have hat:∀w' B F gt,nA w' B F gt 1 (NS.new n) 0 (fun _=>.nil)->zn.at_ w' B.n0 (B.blk F gt) (NS.new n):=fun w' B F gt h=>⟨B,F,gt,_,_,_,rfl,rfl,h⟩
 generalize zn=K at *;rw[hty]
 go_enter Tryz.func81,Tryz.ntmps81
 go_wp2_with (first
  | ((go_at_call 96;(with_reducible refine(kn _).mono ?_));rintro e w1 ⟨B,F,gt,rfl,hS,hu1,hf⟩)
  | ((go_at_call 95;(with_reducible refine(km _ _).mono ?_));rintro e w2 ⟨rfl,rfl⟩)
  | fail)
 go_ret2;exact⟨B.n0,B.blk F gt,rfl,hat _ _ _ _ hS,aa.trans β hu1,fun x hx=>by have:=hf x hx;simp at this;omega⟩
end Go.Proofs.YtklibcncmbofpaaGreat
