/-
  Lemmas for PathBest: Bn3, Bn4, Bn5, BnT, Bn6. Conditions: those of each lemma.
-/
import Derived.Deep.LoopGhost
import Derived.Test.YtklibcncmbofpaaGreatB17
set_option linter.all false
set_option maxHeartbeats 8000000
set_option maxRecDepth 10000
namespace Go.Proofs.YtklibcncmbofpaaGreat
open Go Go.RowKit
def BnAt (w:World) (p:Nat) (FF:List Nat) (A:NS) (st:Nat) (G:BG):Prop:=∃B F gr cr lo S vs,p=B.n0/\FF=B.blk F gr A.cs.length S vs/\jc w B F gr cr lo A st S vs G.R/\S.f=G.F
theorem TH {l:List Int} {x:Int} (hn:l.Nodup) (hx:x∈l):∃l1 l2,l=l1++x::l2/\x∉l1/\x∉l2/\l.filter (fun z=>z != x)=l1++l2:=by
 obtain ⟨l1,l2,rfl⟩:=List.append_of_mem hx;rw [θ,List.nodup_cons] at hn;have h1:x∉l1:=fun h=>hn.2.2 x h x σ rfl;have h2:x∉l2:=hn.2.1.1;refine ⟨l1,l2,rfl,h1,h2,?_⟩;have f:∀l:List Int,x∉l->l.filter (fun z=>z != x)=l:=fun l hl=>by
  rw [List.filter_eq_self];intro a ha;simp;intro e;subst e;exact hl ha
 rw [List.filter_append,List.filter_cons_of_neg σ,f l1 h1,f l2 h2]
section
variable {w:World} {B:BB} {F:List Nat} {gr cr lo:Nat} {A:NS} {st:Nat} {S:CS} {vs:List Value} {G:BG}
theorem NC (M:jc w B F gr cr lo A st S vs G.R) (eF:S.f=G.F) {x h:Nat} (X:EX A G x) (hx:x<A.cs.length) (hr:G.F.u x=-1) (hin:0<(A.c x).i) (hh:(A.c x).i=h) (hq:h<vs.length) :
  Calls Tryz.prog 185 #[.pointer (some ⟨B.n0,0,none⟩),.int .i64 (h:Int),.int .i64 (x:Int)] w fun e w'=>e=.returned (.bool true)/\
   Goes (B.blk F gr A.cs.length S vs) w w' (fun FF=>BnAt w' B.n0 FF (bz A x) (bZ st (yf A h x G)) (rD A h x G)):=by
 have ok:=M.cells.ok;obtain ⟨T1,T2,mx,t1,t2,t3,t4,t5⟩:=LK X ok hx hr hin hh;have nd:=(X.rh.row h).nodup;obtain ⟨l1,l2,eR,n1,n2,eL⟩:=TH nd mx;have hrl:(G.R h).length<=65536:=Nat.le_trans (rV A.cs.length _ nd (fun z hz=>⟨((X.rh.row h).1 z hz).1,((X.rh.row h).1 z hz).2.1⟩)) ok.c1;obtain ⟨w0,hw0⟩:∃w0,w0=w.alloc (.cells #[.int .i64 (x:Int)] 3):=⟨_,rfl⟩;have hs0:w.heap.size<w0.heap.size:=by rw [hw0];simp
 have u0:aa [] w w0:=by rw [hw0];exact (aa.refl _ _).alloc _
 have hb0:w0.cell? ⟨w.heap.size,0,none⟩=some (.int .i64 (x:Int)):=by rw [hw0];simp
 have hlt:=M.lt;have hbx:∀g,(vs.getD h undef).ownBlock=some g->g≠w.heap.size:=fun g hg e=>by have:=M.xI hq hg;omega
 have kd:=fun W (hW:aa [] w0 W)=>Qz W w.heap.size 0 (vs.getD h undef) l1 l2 x (by rw [←eR];exact (M.each h hq).upd (u0.trans hW) σ) n1 n2 (hW.was hb0) (fun e=>hbx _ e rfl) (by rw [←eR];omega);obtain ⟨a,cap,hv,_⟩:=M.shape hq;have h2:=M.h2;have d:=M.VS hq;rw [hv] at d;have df:=M.rowf h;have n0:B.n0∉(vs.getD h undef).ownBlock.toList:=fun hm=>(M.d4 h _ hq (by simpa using hm)).1 rfl;have ng:gr∉(vs.getD h undef).ownBlock.toList:=fun hm=>(M.d4 h _ hq (by simpa using hm)).2.2.2.1 rfl;have nb:w.heap.size∉(vs.getD h undef).ownBlock.toList:=fun hm=>hbx _ (by simpa using hm) rfl
 have r2:∀W,aa (vs.getD h undef).ownBlock.toList w0 W->W.cell? ⟨B.n0,2,none⟩=some (.slice (some ⟨gr,0,none⟩) vs.length cr):=fun W hW=>hW.kept (u0.was h2) n0;have r3:∀W,aa (vs.getD h undef).ownBlock.toList w0 W->W.cell? ⟨gr,h,none⟩=some (.slice a (G.R h).length cap)/\W.frozen? ⟨gr,h,none⟩=false:=fun W hW=>⟨hW.kept (u0.was d) ng,hW.aR (u0.was d) ng (u0.aR d σ df)⟩
 have r4:∀W,aa (vs.getD h undef).ownBlock.toList w0 W->W.cell? ⟨w.heap.size,0,none⟩=some (.int .i64 (x:Int)):=fun W hW=>hW.kept hb0 nb;have BP:(0:Int)<=(h:Int):=ω;have Gs:(h:Int)<(vs.length:Int):=ω;have hgl:=M.E8;have hn0l:=hlt B.n0 (by simp [BB.blk]);have HM:=χ M;have HX:=χ (ψ T1 (ψ t1 (ψ t2 (ψ t3 (ψ t4 (ψ t5 (ψ eL (ψ eF X))))))));have hvl2:=M.YS;rw [hv] at kd r2 r3 r4;clear M X T1 T2 mx t1 t2 t3 t4 t5 nd eL hbx ok h2 d df n0 ng nb n1 n2 eF hlt;have HV:=χ hv;clear eR hrl;generalize (G.R h).length=rl at *
 go_enter Tryz.func185,Tryz.ntmps185
 go_wp2;rw [←hw0];clear hw0 hb0
 go_cut [20] (fun s20 wx=>∃v1,jc wx B F gr cr lo A st S (vs.set h v1) (dG G.R h (l1++l2))/\wx.cell? ⟨w.heap.size,0,none⟩=some (.int .i64 (x:Int))/\aa (gr::(Value.slice a rl cap).ownBlock.toList) w wx/\v1.ownBlock=(Value.slice a rl cap).ownBlock)
 case first=>
  have p2:=r2 _ (aa.refl _ _);obtain ⟨p3,p4⟩:=r3 _ (aa.refl _ _)
  go_region_law
   (first
    | (go_simp;go_at_call 191;(with_reducible refine (kd _ β).mono ?_);rintro e w1 ⟨v1,rfl,tL,hb1,hu1a,a1,n1,c1,rfl⟩;(have hu1:aa (Value.slice a rl cap).ownBlock.toList w0 w1:=aa.trans β hu1a);(have q2:=r2 _ hu1);obtain ⟨q3,q4⟩:=r3 _ hu1;(have q5:=r4 _ hu1)))
  all_goals
   go_wp2
   go_meet
   have hu2:aa (Value.slice a rl cap).ownBlock.toList w w1:=(u0.mono σ).trans hu1;exact ⟨_,HM.out.abY h hq (by rw [hv];exact hu2) _ _ tL (by rw [hv];exact hb1),γ,(hu2.mono (by simp +contextual)).setCell (Or.inl σ) _,hb1⟩
 case rest=>
  obtain ⟨v1,hM2,hb2,hu2,ho2⟩:=hcut;obtain ⟨T1,t1,t2,t3,t4,t5,eL,eF,X⟩:=HX.out;have hvs2:(vs.set h v1).length=vs.length:=List.length_set;have hfs:oO A.cs.length S.f:=by rw [eF];exact X.fh.f
  have hSk:S.k x=G.F.k x:=by rw [←eF];rfl
  have ksp:=fun W (hW:aa [] wc W)=>MQ B.bt B.ba lo A.cs.length S x W (hM2.jw.aA hW) hx (by unfold oV;rw [decide_eq_true ω];have e:S.u x=-1:=(by rw [←hr,←eF];rfl);simp [e]) (fun k hk=>by have:=hfs.vU x hx k hk;omega);have h1:=hM2.h1;have hl2:=hM2.lt;have hbn:w.heap.size∉B.c::B.ba::gr::S.blk A.cs.length:=fun hm=>by
   have hl:=HM.out.lt;simp only [ρ] at hm;rcases hm with e|e|e|e
   ·have:=HM.out.cells.lt B.c HM.out.cells.mem;omega
   ·have:=hl B.ba (by simp [BB.blk]);omega
   ·omega
   ·have:=(HM.out.jw.nU e).2;omega
  have hn0:B.n0∉B.c::B.ba::gr::S.blk A.cs.length:=fun hm=>by
   have hcn:=HM.out.cn;simp only [ρ] at hm;rcases hm with e|e|e|e
   ·exact hcn.1 e
   ·exact HM.out.d2.2.1 e
   ·exact HM.out.d2.2.2.1 e
   ·exact (HM.out.d3 _ e).1 rfl
  have r1:∀W,aa (B.c::B.ba::gr::S.blk A.cs.length) wc W->W.cell? ⟨B.n0,1,none⟩=some (.pointer (some ⟨B.bt,0,none⟩)):=fun W hW=>hW.kept h1 hn0;have r0:∀W,aa (B.c::B.ba::gr::S.blk A.cs.length) wc W->W.cell? ⟨w.heap.size,0,none⟩=some (.int .i64 (x:Int)):=fun W hW=>hW.kept hb2 hbn
  have ka:=fun (W:World) (vl:Value) (hM:jc W B F gr cr lo A st (iA S x) (vs.set h v1) (dG G.R h (l1++l2))) (hvl:iw W (B.c::B.ba::(iA S x).blk A.cs.length) vl (G.F.k x))=>Gl hM (by rw [y8,eF];exact X.fh.f.Sn hx hr) h (by rw [hvs2];exact hq) hvl (by rw [y8,eF,show dG G.R h (l1++l2) h=l1++l2 by simp [dG],←eL];exact t1) (by rw [y8,eF];exact t2) (fun z hz=>by rw [show dG G.R h (l1++l2) h=l1++l2 by simp [dG],←eL] at hz;exact t3 z hz) (fun z hz=>by rw [show dG G.R h (l1++l2) h=l1++l2 by simp [dG],←eL] at hz;exact t5 z (by rcases hz with hz|hz;exact Or.inl (List.mem_filter.1 hz).1;exact Or.inr hz))
  have nI:=χ hM2;have HB:=χ (show ∀W:World,aa [B.ba] wc W->aX W B.bt B.ba lo A.cs.length (iA S x)->jc W B F gr cr lo A st (iA S x) (vs.set h v1) (dG G.R h (l1++l2)) from fun W hu hF=>nI.out.j3 (hu.mono σ) (nI.out.cells.upd hu (fun y hy hm=>by simp at hy;subst hy;exact nI.out.d1.2.2.1 hm)) hF (fun g hg=>Or.inl (qN S x _ g hg)))
  have HSUB:=χ (show ∀y,y∈B.c::B.ba::gr::(iA S x).blk A.cs.length->y∈B.c::B.ba::gr::S.blk A.cs.length from fun y hy=>by
   simp only [ρ] at hy ⊢;rcases hy with e|e|e|e
   ·exact Or.inl e
   ·exact Or.inr (Or.inl e)
   ·exact Or.inr (Or.inr (Or.inl e))
   ·exact Or.inr (Or.inr (Or.inr (qN S x _ y e))))
  have WT:=χ (show ∀y,y∈B.c::B.ba::(iA S x).blk A.cs.length->y<wc.heap.size from fun y hy=>by
   simp only [ρ] at hy;rcases hy with e|e|e
   ·subst e;exact hM2.cells.lt _ hM2.cells.mem
   ·subst e;exact hM2.jw.row.lt
   ·exact (hM2.jw.nU (qN S x _ y e)).2)
  clear hM2 T1 t1 t2 t3 t4 t5 eL hfs X h1 hb2 eF;rw [hSk] at ksp;go_wp2
  go_region_held3 (aa (B.c::B.ba::gr::S.blk A.cs.length) wc) (exact ν)
   (first
    | ((go_at_call 193;(with_reducible refine (ksp _ β).mono ?_));rintro e w3 ⟨v3,rfl,hL3,WM,hu3⟩;(have Wj:aa [B.ba] wc w3:=aa.trans β hu3);(have hu3b:aa (B.c::B.ba::gr::S.blk A.cs.length) wc w3:=Wj.mono σ);(have jV:=HB.out _ Wj WM);obtain ⟨a3,c3,hv3,hl3,hc3⟩:=(show ∃a c,v3=.slice a (G.F.k x).length c/\True/\True from (by obtain ⟨a,c,e,_⟩:=hL3.open;exact ⟨a,c,e,trivial,trivial⟩));subst hv3;(have ka3:=fun W (hW:aa [] w3 W)=>ka W _ (jV.aA hW) (iw.upd (iw.YV (F:=B.c::B.ba::(iA S x).blk A.cs.length) hL3 (fun g hg=>Nat.lt_of_lt_of_le (WT.out g hg) (aa.size (S:=[]) (w:=wc) β))) hW σ)))
    | ((go_at_call 186;(with_reducible refine (ka3 _ β).mono ?_));rintro e w4 ⟨S4,vo,rfl,hS4,sG,iC,hb4,hx4⟩;(have YZ:aa (B.c::B.ba::gr::S.blk A.cs.length) wc w4:=aa.trans ν (iC.mono HSUB.out))))
  have h04:=sG.h0;have hnF:=HM.out.d1.1;have uQ:w.heap.size∉F:=fun hm=>by have:=HM.out.cells.lt _ hm;omega
  have r5:∀W,aa F w4 W->W.cell? ⟨B.n0,0,none⟩=some (.pointer (some ⟨B.c,0,none⟩)):=fun W hW=>hW.kept h04 hnF;have r6:∀W,aa F w4 W->W.cell? ⟨w.heap.size,0,none⟩=some (.int .i64 (x:Int)):=fun W hW=>hW.kept (r0 _ YZ) uQ;have XG:=fun W (hW:aa [] w4 W)=>iD (sG.cells.aA hW) x ((ai _ _).2 ⟨hx,hin⟩);have Ps:=χ sG;clear sG h04 r0 r1 ka ksp ka3 jV hL3 WM;go_wp2
  go_region_held3 (aa F w4) (exact ν)
   (first
    | ((go_at_call 151;(with_reducible refine (XG _ β).mono ?_));rintro e w5 ⟨rfl,Uq,cu⟩;(have Kh:aa F w4 w5:=aa.trans ν cu)))
  go_wp2;go_ret;obtain ⟨T1,t1,t2,t3,t4,t5,eL,eF,X⟩:=HX.out;have dl:=fT A (x:Int);have dh:=je A (x:Int);have wZ:=Ps.out.dB Kh Uq (fun y hy=>Or.inl hy) dl (by rw [dh]);have eR1:dG G.R h (l1++l2) h=l1++l2:=by simp [dG]
  have eT:(iK G h x).R=dG G.R h (l1++l2):=by unfold iK;rw [eL]
  have eTF:(iK G h x).F=(iA S x).f:=by rw [y8,eF];rfl
  have e1:(rD A h x G).R=dG (dG G.R h (l1++l2)) h (lG (cB A) A.cs.length (iA S x).f (dG G.R h (l1++l2) h) (G.F.k x)).O:=by unfold rD yB;rw [eT,eTF]
  have e2:(rD A h x G).F=S4.f:=by rw [hS4];unfold rD yB;rw [eT,eTF]
  have e3:yf A h x G=(lG (cB A) A.cs.length (iA S x).f (dG G.R h (l1++l2) h) (G.F.k x)).q:=by unfold yf;rw [eT,eTF]
  have uw:aa (B.blk F gr A.cs.length S vs) w w5:=by
   have m1:∀y,y∈gr::(Value.slice a rl cap).ownBlock.toList->y∈B.blk F gr A.cs.length S vs:=fun y hy=>by
    simp only [BB.blk,ρ,τ] at hy ⊢;rcases hy with e|e
    ·exact Or.inr (Or.inr (Or.inr (Or.inl e)))
    ·exact Or.inr (Or.inr (Or.inr (Or.inr (Or.inr (Or.inr (jJ.2 ⟨h,hq,by rw [HV.out];simpa using e⟩))))))
   have m2:∀y,y∈B.c::B.ba::gr::S.blk A.cs.length->y∈B.blk F gr A.cs.length S vs:=fun y hy=>by
    simp only [BB.blk,ρ,τ] at hy ⊢;rcases hy with e|e|e|e
    ·exact Or.inr (Or.inr (Or.inr (Or.inr (Or.inl (by rw [e];exact HM.out.cells.mem)))))
    ·exact Or.inr (Or.inr (Or.inl e))
    ·exact Or.inr (Or.inr (Or.inr (Or.inl e)))
    ·exact Or.inr (Or.inr (Or.inr (Or.inr (Or.inr (Or.inl e)))))
   have m3:∀y,y∈F->y∈B.blk F gr A.cs.length S vs:=fun y hy=>by simp [BB.blk,hy]
   exact ((hu2.mono m1).trans (YZ.mono m2)).trans (Kh.mono m3)
  refine ⟨rfl,B.blk F gr (bz A x).cs.length S4 ((vs.set h v1).set h vo),⟨B,F,gr,cr,lo,S4,(vs.set h v1).set h vo,rfl,rfl,by rw [e1,e3];exact wZ,e2.symm⟩,uw,fun y hy=>?_⟩;have hsz:=hu2.size;rw [dl] at hy;simp only [BB.blk,ρ,τ] at hy ⊢;rcases hy with e|e|e|e|e|e|e
  ·exact Or.inl (Or.inl e)
  ·exact Or.inl (Or.inr (Or.inl e))
  ·exact Or.inl (Or.inr (Or.inr (Or.inl e)))
  ·exact Or.inl (Or.inr (Or.inr (Or.inr (Or.inl e))))
  ·exact Or.inl (Or.inr (Or.inr (Or.inr (Or.inr (Or.inl e)))))
  ·rcases hb4 y e with h'|h'
   ·exact Or.inl (Or.inr (Or.inr (Or.inr (Or.inr (Or.inr (Or.inl (qN S x _ y h')))))))
   ·right;have:=hu3b.size;omega
  ·obtain ⟨k,hk,hk2⟩:=jJ.1 e;rw [List.length_set,List.length_set] at hk;rw [ug,ug] at hk2
   by_cases ek:k=h
   ·rw [if_pos ⟨ek,by rw [List.length_set];exact hq⟩] at hk2;right;have:=hx4 y hk2;have:=hu3b.size;omega
   ·rw [if_neg (fun h=>ek h.1),if_neg (fun h=>ek h.1)] at hk2;exact Or.inl (Or.inr (Or.inr (Or.inr (Or.inr (Or.inr (Or.inr (jJ.2 ⟨k,hk,hk2⟩)))))))
end
section
variable {w:World} {B:BB} {F:List Nat} {gr cr lo:Nat} {A:NS} {st:Nat} {S:CS} {vs:List Value} {G:BG} {R:Nat->List Int}
theorem jc.setSt {w':World} {st':Nat} (h:jc w B F gr cr lo A st S vs R) (hu:aa [B.c] w w') (hC:aG w' B.c F A st'):jc w' B F gr cr lo A st' S vs R:=
 h.dB (hu.mono (fun x hx=>by simp at hx;subst hx;exact h.cells.mem)) hC (fun x hx=>Or.inl hx) rfl rfl
def Du (A:NS) (G:BG) (h:Int):Nat:=if bK A h then (G.R h.toNat).length-1 else 0
theorem FM (M:jc w B F gr cr lo A st S vs G.R) (I:Db A G) (h:Int) :
  Calls Tryz.prog 181 #[.pointer (some ⟨B.n0,0,none⟩),.int .i64 h] w fun e w'=>e=.returned (.tuple #[.int .i64 (pK (dW A h)),.bool (dW A h).isSome])/\jc w' B F gr cr lo A (bZ st (Du A G h)) S vs G.R/\aa [B.c] w w':=by
 have hst:=M.cells.pI;cases hh:bK A h with
 | false=>
  have e:dW A h=none:=by
   by_cases h1:0<h
   ·exact (jT h1).2 (Mq M.cells.ok hh)
   ·exact qa h1
  have e2:Du A G h=0:=by unfold Du;rw [hh];rfl
  rw [e,e2,gL hst];have kr:=UC M h hh;have HM:=χ M;clear M I hh e e2
  go_enter Tryz.func181,Tryz.ntmps181
  go_wp2_with ((go_at_call 187;(with_reducible refine (kr).mono ?_);rintro e w9 ⟨rfl,aM⟩;rw [aM];clear aM w9))
  go_ret2;exact ⟨rfl,HM.out,aa.refl _ _⟩
 | true=>
  obtain ⟨q,rfl,hq1,hq⟩:=M.hq hh;have e2:Du A G (q:Int)=(G.R q).length-1:=by unfold Du;rw [hh];simp
  obtain ⟨a,cap,hv,hl1,hl2⟩:=M.shape hq;have kr:=QL M q hh hv;have hsl:iw w [B.c] (vs.getD q undef) (G.R q):=(M.each q hq).sl (fun g hg hm=>by simp at hm;subst hm;exact (M.d4 q _ hq hg).2.2.2.2.1 M.cells.mem);rw [hv] at hsl;rw [e2];cases hR:G.R q with
  | nil=>
   rw [LJ I hq1 hR];rw [hR] at kr hsl;simp only [List.length_nil] at kr ⊢;rw [gL hst];have HM:=χ M;clear M I hh hR e2 hv hsl
   go_enter Tryz.func181,Tryz.ntmps181
   go_wp2_with ((go_at_call 187;(with_reducible refine (kr).mono ?_);rintro e w9 ⟨rfl,aM⟩;rw [aM];clear aM w9))
   go_ret2;exact ⟨rfl,HM.out,aa.refl _ _⟩
  | cons x t=>
   obtain ⟨m,hb,hm,_⟩:=Qi I hq1 hR;rw [hm];rw [hR] at kr hsl hl1;simp only [List.length_cons] at kr hsl hl1 ⊢;have hin:∀z,z∈x::t->∃y:Nat,z=y/\bX A z=true:=fun z hz=>by
    obtain ⟨y,e,_,i,_⟩:=TI I (h:=q) (z:=z) (by rw [hR];exact hz);exact ⟨y,e,i⟩
   obtain ⟨g,off,rfl,hgl,EY,hc0⟩:=hsl.head;have ET:=(show iw w [B.c] (.slice (some ⟨g,off,none⟩) (t.length+1) cap) (x::t) from hsl).tail;have hsr:=fun W=>wy W (some ⟨g,off,none⟩) (t.length+1) cap ω ω;obtain ⟨a3,zW⟩:=qV (some ⟨g,off,none⟩) (t.length+1) cap;rw [zW] at hsr ET;simp only [Nat.add_sub_cancel] at hsr ET ⊢;have h0:=M.h0;have hn0:B.n0∉[B.c]:=by simp;exact M.cn.1
   have HM:=χ M;have HT:=χ ET;have HI:=χ (ψ hin hb);have hC:=M.cells;have hz:bZ st 0=st:=gL hst;clear M I hh hR e2 hv hsl ET hin hb hm zW;generalize htl:t.length=tl at *;have HTL:=χ htl;have hne0:((tl:Int)+1 == 0)=false:=beq_eq_false_iff_ne.2 ω;clear htl
   go_enter Tryz.func181,Tryz.ntmps181
   go_wp2_with ((go_at_call 187;(with_reducible refine (kr).mono ?_);rintro e w9 ⟨rfl,aM⟩;rw [aM];clear aM w9))
   go_loopw [7,22] (fun s7 s22 wr=>∃ (j:Nat) (b:Int),j<=tl/\s22=.int .i64 (j:Int)/\s7=.int .i64 b/\mI (cB A) b (t.drop j)=mI (cB A) x t/\(∃y:Nat,b=y/\bX A b=true)/\aG wr B.c F A (bZ st j)/\aa [B.c] w wr) (fun _ s22 _=>tl-(intOf s22).toNat)
   case atStart=>exact ⟨0,x,ω,rfl,rfl,σ,HI.out.1 x σ,by rw [hz];exact hC,aa.refl _ _⟩
   case round=>
    obtain ⟨j,b,hj,rfl,rfl,hbb,hib,hCj,hu⟩:=hrel;rename World=>wr
    by_cases hjt:j<tl
    ·obtain ⟨y,pY⟩:∃y,t[j]?=some y:=⟨t[j]'(by rw [HTL.out];exact hjt),σ⟩;have hd:t.drop j=y::t.drop (j+1):=by
      obtain ⟨hl,e⟩:=List.getElem?_eq_some_iff.1 pY;rw [List.drop_eq_getElem_cons hl,e]
     obtain ⟨a4,c4,e4,_,_,h4⟩:=HT.out;have ea:a3=a4:=by injection e4
     subst ea;obtain ⟨g4,o4,rfl,_,hg4,hc4⟩:=h4 j y pY;have hc5:=hu.kept hc4 hg4;obtain ⟨yn,rfl,hiy⟩:=HI.out.1 y (List.mem_cons_of_mem _ (List.mem_of_getElem? pY));obtain ⟨bn,rfl,hbn⟩:=hib;have ka:=fF hCj yn bn hiy hbn;have h05:=hu.kept h0 hn0;have Xi:(j:Int)<(tl:Int):=ω;have hw1:IntKind.i64.wrap ((j:Int)+1)=(j:Int)+1:=IntWalk.i64_in _ ω;have eah:cB A (yn:Int) (bn:Int)=decide (cZ A yn bn):=by rw [lY,hiy,hbn];simp
     have hnx:∀b':Int,b'=(if cB A (yn:Int) (bn:Int) then (yn:Int) else (bn:Int))->mI (cB A) b' (t.drop (j+1))=mI (cB A) x t:=fun b' e=>by rw [←hbb,hd,e];rfl
     have HN:=χ (ψ hnx (ψ hiy hbn));have hse:bZ (bZ st j) 1=bZ st (j+1):=jg st j 1;rw [←eah] at ka;clear hCj hbb hd h4 pY hc4 hiy hbn eah hnx e4;cases hab:cB A (yn:Int) (bn:Int) with
     | true=>
      rw [hab] at ka;have HAB:=χ hab;clear hab
      go_wp2_with ((go_at_call 174;(with_reducible refine (ka).mono ?_));rintro e w2 ⟨rfl,hC2,hu2⟩)
      go_roundw
      case rel=>exact ⟨j+1,yn,ω,by go_num,rfl,HN.out.1 _ (by rw [HAB.out];rfl),⟨yn,rfl,HN.out.2.1⟩,by rw [←hse];exact hC2,hu.trans hu2⟩
      case measure=>simp [intOf];omega
     | false=>
      rw [hab] at ka;have HAB:=χ hab;clear hab
      go_wp2_with ((go_at_call 174;(with_reducible refine (ka).mono ?_));rintro e w2 ⟨rfl,hC2,hu2⟩)
      go_roundw
      case rel=>exact ⟨j+1,bn,ω,by go_num,rfl,HN.out.1 _ (by rw [HAB.out];rfl),⟨bn,rfl,HN.out.2.2⟩,by rw [←hse];exact hC2,hu.trans hu2⟩
      case measure=>simp [intOf];omega
    ·obtain rfl:j=tl:=ω;have hbf:b=(m:Int):=by
      rw [List.drop_of_length_le (by rw [HTL.out];omega)] at hbb;have e:mI (cB A) b []=b:=rfl;rw [e,HI.out.2] at hbb;exact hbb
     have HB:=χ hbf;have HC:=χ hCj;clear hbb hib hbf hCj;go_wp2;go_ret2;exact ⟨by rw [HB.out];rfl,HM.out.setSt hu HC.out,hu⟩
end
def IB (w:World) (p:Nat) (FF:List Nat) (A:NS) (st:Nat) (G:BG):Prop:=BnAt w p FF A st G/\Db A G
theorem RD {A:NS} {G:BG} (I:Db A G) (ok:A.Ok) {q:Int} {m:Nat} (hm:dW A q=some m):∃k:Nat,q=k/\1<=k/\bK A q=true/\m<A.cs.length/\G.F.u m=-1/\(A.c m).i=k:=by
 have hq:0<q:=by
  apply Classical.byContradiction;intro h;rw [qa h] at hm;cases hm
 obtain ⟨k,rfl⟩:∃k:Nat,q=k:=⟨q.toNat,ω⟩;have hf:=(iZ hq).1 hm;have hh:bK A (k:Int)=true:=by
  have:=jf ok ((ai A m).2 ⟨hf.1,by rw [hf.2.1];omega⟩);rw [π,hf.2.1] at this;exact this
 cases hR:G.R k with
 | nil=>rw [LJ I ω hR] at hm;cases hm
 | cons x t=>
  obtain ⟨m',_,h2,h3,h4,h5⟩:=Qi I (show 1<=k by omega) hR;rw [hm] at h2;cases h2;exact ⟨k,rfl,ω,hh,h3,h4,h5⟩
def SH (A:NS) (q:Int) (G:BG):Nat:=Du A G q+(match dW A q with|some m=>yf A q.toNat m G|none=>0)
def Rv (A:NS) (q:Int) (G:BG):BG:=match dW A q with|some m=>rD A q.toNat m G|none=>G
section
variable {w:World} {p:Nat} {FF:List Nat} {A:NS} {st:Nat} {G:BG}
theorem EA (h:IB w p FF A st G) (q:Int) :
  Calls Tryz.prog 177 #[.pointer (some ⟨p,0,none⟩),.int .i64 q] w fun e w'=>e=.returned (.tuple #[.int .i64 (pK (dW A q)),.bool (dW A q).isSome])/\Goes FF w w' (fun Kw=>IB w' p Kw (uL A q) (bZ st (SH A q G)) (Rv A q G)):=by
 obtain ⟨⟨B,F,gr,cr,lo,S,vs,rfl,rfl,M,eF⟩,I⟩:=h;have km:=FM M I q;have qA:∀y,y∈[B.c]->y∈B.blk F gr A.cs.length S vs:=fun y hy=>by
  simp at hy;subst hy;simp [BB.blk,M.cells.mem]
 have hst:=M.cells.pI;cases hm:dW A q with
 | none=>
  rw [hm] at km;simp only [pK,Option.isSome_none] at km ⊢;have e1:SH A q G=Du A G q:=by unfold SH;rw [hm];rfl
  have e2:Rv A q G=G:=by unfold Rv;rw [hm]
  have e3:uL A q=A:=by unfold uL;rw [hm]
  rw [e1,e2,e3];have HI:=χ (ψ I (ψ eF qA));clear M I hm e1 e2 e3 eF qA
  go_enter Tryz.func177,Tryz.ntmps177
  go_wp2_with ((go_at_call 181;(with_reducible refine (km).mono ?_));rintro e w1 ⟨rfl,hM1,hu1⟩)
  go_ret2;exact ⟨rfl,Goes.stay ⟨⟨B,F,gr,cr,lo,S,vs,rfl,rfl,hM1,HI.out.2.1⟩,HI.out.1⟩ (hu1.mono HI.out.2.2)⟩
 | some m=>
  rw [hm] at km;simp only [pK,Option.isSome_some] at km ⊢;obtain ⟨k,rfl,hk1,hh,m1,m2,m3⟩:=RD I M.cells.ok hm;have e1:SH A (k:Int) G=Du A G (k:Int)+yf A k m G:=by unfold SH;rw [hm];simp
  have e2:Rv A (k:Int) G=rD A k m G:=by unfold Rv;rw [hm];simp
  have e3:uL A (k:Int)=bz A (m:Int):=by unfold uL;rw [hm]
  rw [e1,e2,e3];obtain ⟨k',hk',_,hkv⟩:=M.hq hh;obtain rfl:k=k':=ω;have X:=I.x m1;have kt:=fun W (hM:jc W B F gr cr lo A (bZ st (Du A G (k:Int))) S vs G.R)=>NC hM eF X m1 m2 (by rw [m3];omega) m3 hkv;have T:=(LK X M.cells.ok m1 m2 (by rw [m3];omega) m3).1;have HI:=χ (ψ T qA);clear M I hm e1 e2 e3 eF qA X T m1 m2 m3 hh hk'
  go_enter Tryz.func177,Tryz.ntmps177
  go_wp2_with (first
   | ((go_at_call 181;(with_reducible refine (km).mono ?_));rintro e w1 ⟨rfl,hM1,hu1⟩;(have kt1:=kt _ hM1);(have hs1:=hu1.size))
   | ((go_at_call 185;(with_reducible refine (kt1).mono ?_));rintro e w2 ⟨rfl,FF2,hK2,hu2,hf2⟩)
   | fail)
  go_ret2;rw [jg] at hK2;refine ⟨rfl,FF2,⟨hK2,HI.out.1⟩,(hu1.mono HI.out.2).trans hu2,fun y hy=>?_⟩;rcases hf2 y hy with h'|h'
  ·exact Or.inl h'
  ·exact Or.inr ω
theorem yu {B:BB} {F:List Nat} {gr n:Nat} {S:CS} {vs:List Value}:∀y,y∈F->y∈B.blk F gr n S vs:=fun y hy=>by simp [BB.blk,hy]
theorem Wq {w:World} {B:BB} {F F':List Nat} {gr n:Nat} {S S':CS} {vs:List Value} {q:Nat} {vo:Value} (hF:∀y,y∈F'->y∈F) (hb:∀g,g∈S'.blk n->g∈S.blk n\/w.heap.size<=g) (hv:∀g,vo.ownBlock=some g->w.heap.size<=g) :
  ∀y,y∈B.blk F' gr n S' (vs.set q vo)->y∈B.blk F gr n S vs\/w.heap.size<=y:=fun y hy=>by
 simp only [BB.blk,ρ,τ] at hy ⊢;rcases hy with e|e|e|e|e|e|e
 ·exact Or.inl (Or.inl e)
 ·exact Or.inl (Or.inr (Or.inl e))
 ·exact Or.inl (Or.inr (Or.inr (Or.inl e)))
 ·exact Or.inl (Or.inr (Or.inr (Or.inr (Or.inl e))))
 ·exact Or.inl (Or.inr (Or.inr (Or.inr (Or.inr (Or.inl (hF y e))))))
 ·rcases hb y e with h'|h'
  ·exact Or.inl (Or.inr (Or.inr (Or.inr (Or.inr (Or.inr (Or.inl h'))))))
  ·exact Or.inr h'
 ·obtain ⟨k,hk,hk2⟩:=jJ.1 e;rw [List.length_set] at hk;rw [ug] at hk2
  by_cases ek:k=q/\q<vs.length
  ·rw [if_pos ek] at hk2;exact Or.inr (hv y hk2)
  ·rw [if_neg ek] at hk2;exact Or.inl (Or.inr (Or.inr (Or.inr (Or.inr (Or.inr (Or.inr (jJ.2 ⟨k,hk,hk2⟩)))))))
theorem aaB {w:World} {B:BB} {F:List Nat} {gr cr lo:Nat} {S:CS} {vs:List Value} {R:Nat->List Int} (M:jc w B F gr cr lo A st S vs R):∀y,y∈B.c::B.ba::gr::S.blk A.cs.length->y∈B.blk F gr A.cs.length S vs:=fun y hy=>by
 simp only [BB.blk,ρ,τ] at hy ⊢;rcases hy with e|e|e|e
 ·exact Or.inr (Or.inr (Or.inr (Or.inr (Or.inl (by rw [e];exact M.cells.mem)))))
 ·exact Or.inr (Or.inr (Or.inl e))
 ·exact Or.inr (Or.inr (Or.inr (Or.inl e)))
 ·exact Or.inr (Or.inr (Or.inr (Or.inr (Or.inr (Or.inl e)))))
theorem Iw (h:IB w p FF A st G) (q x:Nat) (k s:Int) (hk:-9223372036854775808<=k/\k<=9223372036854775807/\0<=s/\s<=18446744073709551615) (hB:oF A q x=true) :
  Calls Tryz.prog 178 #[.pointer (some ⟨p,0,none⟩),.int .i64 (q:Int),.int .i64 (x:Int),.agg #[.int .i64 k,.int .u64 s]] w fun e w'=>e=.returned (.bool true)/\
   Goes FF w w' (fun Kw=>IB w' p Kw (aN A q x k s) (bZ st (VM (aN A q x k s) q x G)) (Tc (aN A q x k s) q x G)):=by
 obtain ⟨⟨B,F,gr,cr,lo,S,vs,rfl,rfl,M,eF⟩,I⟩:=h;have ok:=M.cells.ok;obtain ⟨I2,_,t2,t3,t4,hcs⟩:=XX (h:=q) (x:=x) k s I ok hB;have lX:(aN A q x k s).hs.length=A.hs.length:=by unfold aN;split;rfl;rfl
 have SE:=((fE _ _ _).1 hB).1;obtain ⟨q',e,hq1,hqv⟩:=M.hq SE;obtain rfl:q=q':=ω;have u1:aa [] w (w.alloc (.cells #[.int .i64 k,.int .u64 s] 129)):=(aa.refl _ _).alloc _;have kp:=fun W (hW:aa [] (w.alloc (.cells #[.int .i64 k,.int .u64 s] 129)) W)=>oC (M.cells.aA (u1.trans hW)) q x k s hk hB;have h0:=M.h0;have uQ:B.n0∉F:=M.d1.1;have hsz:w.heap.size∉F:=fun hm=>by have:=M.cells.lt _ hm;omega
 have r0:∀W,aa F (w.alloc (.cells #[.int .i64 k,.int .u64 s] 129)) W->W.cell? ⟨B.n0,0,none⟩=some (.pointer (some ⟨B.c,0,none⟩)):=fun W hW=>hW.kept (u1.was h0) uQ;have r1:∀W,aa F (w.alloc (.cells #[.int .i64 k,.int .u64 s] 129)) W->W.cell? ⟨w.heap.size,0,none⟩=some (.int .i64 k):=fun W h=>h.kept σ hsz;have r2:∀W,aa F (w.alloc (.cells #[.int .i64 k,.int .u64 s] 129)) W->W.cell? ⟨w.heap.size,1,none⟩=some (.int .u64 s):=fun W h=>h.kept σ hsz;have hrow:=I.rh.row q
 have ka:=fun (W:World) (hM:jc W B F gr cr lo (aN A q x k s) st S vs G.R) (vl:Value) (hvl:iw W (B.c::B.ba::S.blk (aN A q x k s).cs.length) vl [(x:Int)])=>Gl hM (by rw [hcs,eF];exact I.fh.f) q hqv hvl (by rw [hcs,eF];exact hrow) (by rw [hcs,eF];exact t2) t3 t4;have HM:=χ M;have HI:=χ (ψ I2 (ψ eF (ψ hcs lX)));clear M I ok I2 t2 t3 t4 hcs lX eF hrow h0 hB;generalize hA':aN A q x k s=A' at *
 go_enter Tryz.func178,Tryz.ntmps178
 go_wp2
 go_region_held3 (aa F (w.alloc (.cells #[.int .i64 k,.int .u64 s] 129))) (exact ν)
  (first
   | ((go_at_call 154;(with_reducible refine (kp _ β).mono ?_));rintro e w1 ⟨rfl,jD,hu1⟩;(have hu2:aa F (w.alloc (.cells #[.int .i64 k,.int .u64 s] 129)) w1:=ν)))
 have uF:aa F w w1:=(u1.mono σ).trans hu2;have hM1:=HM.out.dB uF jD (fun y hy=>Or.inl hy) HI.out.2.2.1 HI.out.2.2.2;have hsz1:=uF.size;have hlt1:∀y,y∈B.c::B.ba::S.blk A'.cs.length->y<w1.heap.size:=fun y hy=>by
  simp only [ρ] at hy;rcases hy with e|e|e
  ·subst e;exact hM1.cells.lt _ hM1.cells.mem
  ·subst e;exact hM1.jw.row.lt
  ·exact (hM1.jw.nU e).2
 have ZW:=fun (W:World) (hW:aa [] w1 W) (vl:Value)=>ka W (hM1.aA hW) vl;have HL:=χ hlt1;clear kp r0 r1 r2 hM1 hlt1 ka
 go_wp2_with (first
  | ((go_at_call 186;(with_reducible refine (ZW _ β _ ((bq.lit w1 0 (x:Int) (Nat.zero_le _)).sl (fun g hg hm=>by have:=HL.out g hm;simp [Value.ownBlock] at hg;omega))).mono ?_));rintro e w2 ⟨S2,vo,rfl,hS2,hM2,hu3,hb2,hx2⟩)
  | fail)
 go_ret;have eF:=HI.out.2.1;have hcs:=HI.out.2.2.1;have uw:aa (B.blk F gr A.cs.length S vs) w w2:=by
  refine ((uF.mono yu).alloc _).trans (hu3.mono (fun y hy=>?_));rw [hcs] at hy;exact aaB HM.out y hy
 refine ⟨rfl,B.blk F gr A'.cs.length S2 (vs.set q vo),⟨⟨B,F,gr,cr,lo,S2,_,rfl,rfl,by unfold VM Tc yB;rw [←eF];exact hM2,by rw [hS2,eF];rfl⟩,HI.out.1⟩,uw,fun y hy=>?_⟩;rw [hcs] at hy hb2;exact Wq (w:=w) (fun _ h=>h) (fun g hg=>(hb2 g hg).imp id (fun h=>by simp at h;omega)) (fun g hg=>by have:=hx2 g hg;simp at this;omega) y hy
end
end Go.Proofs.YtklibcncmbofpaaGreat
namespace Go.Proofs.YtklibcncmbofpaaGreat
def jd (hp:Nat->Bool) (ct x:Nat):Nat->BG->BG×Nat
 | 0,G=>(G,0)
 | f+1,G=>if G.F.u x=-1 then (G,0) else if hp (G.F.u x).toNat then ((jd hp ct x f (ry G x (G.F.u x).toNat)).1,(jd hp ct x f (ry G x (G.F.u x).toNat)).2+ct) else (G,ct)
theorem uZ {hp:Nat->Bool} {ct x f:Nat} {G:BG} (h:G.F.u x=-1):jd hp ct x f G=(G,0):=by
 cases f with
 | zero=>rfl
 | succ f=>rw [jd,if_pos h]
theorem Aa {hp:Nat->Bool} {ct x f p:Nat} {G:BG} (h:G.F.u x=p) (hh:hp p=false):jd hp ct x (f+1) G=(G,ct):=by
 rw [jd,if_neg ω,h,π,hh];rfl
theorem xD {hp:Nat->Bool} {ct x f p:Nat} {G:BG} (h:G.F.u x=p) (hh:hp p=true):jd hp ct x (f+1) G=((jd hp ct x f (ry G x p)).1,(jd hp ct x f (ry G x p)).2+ct):=by
 rw [jd,if_neg ω,h,π,hh];rfl
section
variable {A:NS} {G:BG} {x:Nat} {hp:Nat->Bool} {ct:Nat}
theorem Cs {p:Nat} (B:EX A G x) (hx:x<A.cs.length) (hu:G.F.u x=p):(G.F.k x).length<((ry G x p).F.k x).length:=by
 have:=B.fh.f.OD hx hu
 show _<((sQ G.F x p (G.F.u p)).k x).length
 rw [tV,if_pos rfl];exact this
theorem FK (hx:x<A.cs.length):∀ (f:Nat) {G:BG},EX A G x->A.cs.length<=f+(G.F.k x).length->EX A (jd hp ct x f G).1 x/\((jd hp ct x f G).1.F.u x=-1\/∃p:Nat,(jd hp ct x f G).1.F.u x=p/\hp p=false)
 | 0,G,B,hf=>by have:=B.fh.f.len hx;omega
 | f+1,G,B,hf=>by
  rcases B.fh.f.up x hx with h1|⟨p,hp1,h1,h2⟩
  ·rw [uZ h1];exact ⟨B,Or.inl h1⟩
  ·cases hh:hp p with
   | false=>rw [Aa h1 hh];exact ⟨B,Or.inr ⟨p,h1,hh⟩⟩
   | true=>
    rw [xD h1 hh];have:=Cs B hx h1;exact FK hx f (y9 B hx h1) ω
theorem zF (hx:x<A.cs.length) (hl:∀p:Nat,p<A.cs.length->hp p=true->cZ A x p):∀ (f:Nat) {G:BG},EX A G x->(∀c:Nat,c<A.cs.length->G.F.u c=x->cZ A x c)->∀c:Nat,c<A.cs.length->(jd hp ct x f G).1.F.u c=x->cZ A x c
 | 0,G,B,hk=>hk
 | f+1,G,B,hk=>by
  rcases B.fh.f.up x hx with h1|⟨p,hp1,h1,h2⟩
  ·rw [uZ h1];exact hk
  ·cases hh:hp p with
   | false=>rw [Aa h1 hh];exact hk
   | true=>
    rw [xD h1 hh];exact zF hx hl f (y9 B hx h1) (MB B hx h1 hk (hl p hp1 hh))
theorem Nf {p h:Nat} (B:EX A G x) (hx:x<A.cs.length) (hu:G.F.u x=p) (hh:(A.c x).i=h):(ry G x p).R=if G.F.u p=-1 then dG G.R h (setAt (G.R h) p x) else G.R:=by
 obtain ⟨hp1,hm⟩:=B.fh.f.above hx hu;have bO:(A.c x).i=(A.c p).i/\0<(A.c x).i:=B.fh.home x p hx hu
 funext k
 show (G.R k).map (J7 x p (G.F.u p))=_
 by_cases e:G.F.u p=-1
 ·rw [if_pos e];unfold dG
  by_cases ek:k=h
  ·rw [if_pos ek,ek];have hpR:(p:Int)∈G.R h:=(B.rh.mem h p).2 ⟨ω,hp1,e,by show (A.c p).i=_;omega⟩;rw [←y7 (B.rh.row h).nodup p x hpR];unfold MI J7
   exact List.map_congr_left (fun z _=>by
    by_cases ez:z=p
    ·rw [if_pos ⟨ez,e⟩,if_pos ez]
    ·rw [if_neg (fun h=>ez h.1),if_neg ez])
  ·rw [if_neg ek];have:∀z,z∈G.R k->J7 x p (G.F.u p) z=z:=fun z hz=>by
    unfold J7;rw [if_neg (fun h=>?_)];rw [h.1] at hz;have h4:(A.c p).i=(k:Int):=((B.rh.mem k p).1 hz).2.2.2;omega
   rw [List.map_congr_left this];simp
 ·rw [if_neg e];have:∀z,z∈G.R k->J7 x p (G.F.u p) z=z:=fun z hz=>by
   unfold J7;rw [if_neg (fun h=>e h.2)]
  rw [List.map_congr_left this];simp
end
end Go.Proofs.YtklibcncmbofpaaGreat
namespace Go.Proofs.YtklibcncmbofpaaGreat
open Go Go.RowKit
theorem bq.set {w:World} {base g off n cap:Nat} {xs:List Int} (h:bq w base (.slice (some ⟨g,off,none⟩) n cap) xs) (i:Nat) (hi:i<xs.length) (y:Int):bq (w.setCell ⟨g,off+i,none⟩ (.int .i64 y)) base (.slice (some ⟨g,off,none⟩) n cap) (xs.set i y):=by
 rcases h with ⟨e,_⟩|⟨g',off',cap',cur,e,hb,hg,h1,h2,h3,h4⟩
 ·cases e
 ·cases e;refine Or.inr ⟨g,off,cap,cur.setIfInBounds (off+i) (.int .i64 y),by rw [List.length_set],hb,?_,by rw [List.length_set];exact h1,h2,ζ,fun j u hj=>?_⟩
  ·simp [World.setCell,Array.getElem?_modify,hg]
  ·have hjl:j<xs.length:=by have:=(List.getElem?_eq_some_iff.1 hj).1;simpa using this
   rw [Array.getElem?_setIfInBounds]
   by_cases e:i=j
   ·subst e;rw [List.getElem?_set_self hi] at hj;cases hj;rw [if_pos rfl,if_pos ω]
   ·rw [if_neg ω];rw [List.getElem?_set_ne e] at hj;exact h4 j u hj
theorem bq.free {w:World} {base:Nat} {v:Value} {xs:List Int} (h:bq w base v xs) {g:Nat} (hg:v.ownBlock=some g) (j:Nat):w.frozen? ⟨g,j,none⟩=false:=by
 rcases h with ⟨rfl,_⟩|⟨g',off',cap',cur,rfl,hb,hh,h1,h2,h3,h4⟩
 ·cases hg
 ·simp [Value.ownBlock] at hg;subst hg;simp [World.frozen?,hh]
theorem NU {n:Nat} (S:CS) {x p:Nat} (above:Int) (hx:x<n) (hp:p<n):∀g,g∈(iG S x p above).blk n->g∈S.blk n:=fun g hg=>by
 obtain ⟨y,hy,e⟩:=(CS.j6 _ n g).1 hg;have e:(if y=x then S.v p else if y=p then S.v x else S.v y).ownBlock=some g:=e;rw [CS.j6]
 split at e
 ·exact ⟨p,hp,e⟩
 ·split at e
  ·exact ⟨x,hx,e⟩
  ·exact ⟨y,hy,e⟩
section
variable {w:World} {B:BB} {F:List Nat} {gr cr lo:Nat} {A:NS} {st:Nat} {S:CS} {vs:List Value} {R:Nat->List Int}
theorem jc.setX {w1:World} (h:jc w B F gr cr lo A st S vs R) (q:Nat) (hq:q<vs.length) (hu1:aa (vs.getD q undef).ownBlock.toList w w1) (X:List Int) (hv:bq w1 0 (vs.getD q undef) X):jc w1 B F gr cr lo A st S vs (dG R q X):=by
 have hK:∀g,g∈(vs.getD q undef).ownBlock.toList->(vs.getD q undef).ownBlock=some g:=fun g hg=>by simpa using hg
 have kk:∀g,g∈(vs.getD q undef).ownBlock.toList->g≠B.n0/\g≠B.bt/\g≠B.ba/\g≠gr/\g∉F/\g∉S.blk A.cs.length:=fun g hg=>h.d4 q g hq (hK g hg)
 refine ⟨h.head.upd hu1 (fun hm=>(kk _ hm).1 rfl),h.cells.upd hu1 (fun x hx=>(kk x hx).2.2.2.2.1),
  h.jw.upd hu1 (fun hm=>(kk _ hm).2.1 rfl) (fun hm=>(kk _ hm).2.2.1 rfl) (fun g hg hm=>(kk g hm).2.2.2.2.2 hg),
  aF h.rows hu1 (fun g hg hm=>by simp [Value.ownBlock] at hg;subst hg;exact (kk _ hm).2.2.2.1 rfl),h.len,fun k hk=>?_,h.d1,h.d2,h.d3,h.d4,h.d5⟩
 unfold dG
 by_cases ek:k=q
 ·rw [if_pos ek,ek];exact hv
 ·rw [if_neg ek];exact (h.each k hk).upd hu1 (fun g hg2 hm=>h.d5 k q g hk hq ek hg2 (hK g hm))
end
structure Xr (w:World) (K:List Nat) (B:BB) (F:List Nat) (A:NS) (ct:Nat) (hp:Nat->Bool) (f:FuncId) (Ba:Array Value):Prop where
 enters:Enters f
 calls:∀ (W:World) (st above:Nat),aa K w W->W.cell? ⟨B.n0,0,none⟩=some (.pointer (some ⟨B.c,0,none⟩))->B.n0≠B.c->aG W B.c F A st->bX A (above:Int)=true->
  Calls Tryz.prog f (#[.int .i64 (above:Int)]++Ba) W fun e w'=>e=.returned (.bool (hp above))/\aG w' B.c F A (bZ st ct)/\aa [B.c] W w'
section
variable {w:World} {B:BB} {F:List Nat} {gr cr lo:Nat} {A:NS} {st:Nat} {S:CS} {vs:List Value} {G:BG}
theorem OH (M:jc w B F gr cr lo A st S vs G.R) (eF:S.f=G.F) {x h ct:Nat} {hp:Nat->Bool} {f:FuncId} {Ba:Array Value} (X:EX A G x) (hx:x<A.cs.length) (hin:0<(A.c x).i) (hh:(A.c x).i=h) (hq:h<vs.length) (H:Xr w (B.blk F gr A.cs.length S vs) B F A ct hp f Ba) :
  Calls Tryz.prog 183 #[.pointer (some ⟨B.n0,0,none⟩),.int .i64 (h:Int),.int .i64 (x:Int),.func (Fn.func f) #[] Ba] w fun e w'=>e=.returned (.tuple #[])/\
   ∃S',jc w' B F gr cr lo A (bZ st (jd hp ct x A.cs.length G).2) S' vs (jd hp ct x A.cs.length G).1.R/\S'.f=(jd hp ct x A.cs.length G).1.F/\aa (B.blk F gr A.cs.length S vs) w w'/\∀g,g∈S'.blk A.cs.length->g∈S.blk A.cs.length:=by
 have ok:=M.cells.ok;have hn:=ok.c1;have hz:=gL M.cells.pI;have hcl:=H.calls;have hen:=H.enters;unfold Enters at hen;have HM:=χ M;have HX:=χ (ψ X eF);have HC:=χ hcl;have hvl:=M.YS;clear M X eF hcl ok H
 go_enter Tryz.func183,Tryz.ntmps183
 go_wp2
 go_loopg [8,9,10,11] A.cs.length (fun fu _ _ _ _ wr=>∃ (c:Nat) (G':BG) (S':CS),jc wr B F gr cr lo A (bZ st c) S' vs G'.R/\S'.f=G'.F/\EX A G' x/\(∀g,g∈S'.blk A.cs.length->g∈S.blk A.cs.length)/\aa (B.blk F gr A.cs.length S vs) w wr/\A.cs.length<=fu+(G'.F.k x).length/\(jd hp ct x fu G').1=(jd hp ct x A.cs.length G).1/\(jd hp ct x fu G').2+c=(jd hp ct x A.cs.length G).2)
 case atStart=>exact ⟨0,G,S,by rw [hz];exact HM.out,HX.out.2,HX.out.1,fun g hg=>hg,aa.refl _ _,ω,rfl,rfl⟩
 case round=>
  rename Nat=>fu;obtain ⟨c,G',S',hM,eF,X,hSb,hu,hfu,hl1,hl2⟩:=hrel;rename World=>wr;have hlen:=X.fh.f.len hx;obtain ⟨fv,rfl⟩:∃fv,fu=fv+1:=⟨fu-1,ω⟩;have ku:=wG B.bt B.ba lo A.cs.length S' (x:Int) wr hM.jw;have h1:=hM.h1;have Z6:S'.u x=G'.F.u x:=by rw [←eF];rfl
  have kb:∀y,y∈B.blk F gr A.cs.length S' vs->y∈B.blk F gr A.cs.length S vs:=fun y hy=>by
   simp only [BB.blk,ρ,τ] at hy ⊢;rcases hy with e|e|e|e|e|e|e
   ·exact Or.inl e
   ·exact Or.inr (Or.inl e)
   ·exact Or.inr (Or.inr (Or.inl e))
   ·exact Or.inr (Or.inr (Or.inr (Or.inl e)))
   ·exact Or.inr (Or.inr (Or.inr (Or.inr (Or.inl e))))
   ·exact Or.inr (Or.inr (Or.inr (Or.inr (Or.inr (Or.inl (hSb y e))))))
   ·exact Or.inr (Or.inr (Or.inr (Or.inr (Or.inr (Or.inr e)))))
  have HR:=χ (ψ hM (ψ eF (ψ X (ψ hSb (ψ hu (ψ hl1 (ψ hl2 kb)))))));rcases X.fh.f.up x hx with e1|⟨p,hp1,e1,e2⟩
  ·have eu:IA A.cs.length S' (x:Int)=none:=by unfold IA;rw [if_pos ω,π,Z6,if_pos e1]
   rw [eu] at ku;have E1:=χ e1;clear hM X hl1 hl2 eu e1 Z6 kb hSb hfu
   go_wp2_with ((go_at_call 188;(with_reducible refine (ku).mono ?_);rintro e w9 ⟨rfl,aM⟩;rw [aM];clear aM w9))
   refine bodyPost_ret (v:=.tuple #[]) (by simp [results,Tryz.results183,go_sem]) rfl ?_;obtain ⟨hM,eF,X,hSb,hu,hl1,hl2,kb⟩:=HR.out;rw [uZ E1.out] at hl1 hl2;refine ⟨rfl,S',?_,by rw [←hl1];exact eF,hu,hSb⟩;rw [←hl1,←hl2,show (((G',0):BG×Nat)).2+c=c by simp];exact hM
  ·have eu:IA A.cs.length S' (x:Int)=some (p:Int):=by unfold IA;rw [if_pos ω,π,Z6,e1,if_neg ω]
   rw [eu] at ku;simp only [ov,ob,Option.getD_some,Option.isSome_some] at ku;have bO:(A.c x).i=(A.c p).i:=(X.fh.home x p hx e1).1;have hip:bX A (p:Int)=true:=(ai _ _).2 ⟨hp1,ω⟩;have kh:=HC.out wr (bZ st c) p hu hM.h0 hM.cn.1 hM.cells hip;rw [jg] at kh;cases XR:hp p with
   | false=>
    rw [XR] at kh;have E1:=χ (ψ e1 XR);clear hM X hl1 hl2 eu e1 Z6 kb hSb hfu XR
    go_wp2_with (first
     | (go_at_call 188;(with_reducible refine (ku).mono ?_);rintro e w9 ⟨rfl,aM⟩;rw [aM];clear aM w9)
     | ((with_reducible refine (kh).mono ?_);rintro e w2 ⟨rfl,hC2,hu2⟩))
    refine bodyPost_ret (v:=.tuple #[]) (by simp [results,Tryz.results183,go_sem]) rfl ?_;obtain ⟨hM,eF,X,hSb,hu,hl1,hl2,kb⟩:=HR.out;rw [Aa E1.out.1 E1.out.2] at hl1 hl2;refine ⟨rfl,S',?_,by rw [←hl1];exact eF,hu.trans (hu2.mono (fun y hy=>by simp at hy;subst hy;exact yu _ HM.out.cells.mem)),hSb⟩;rw [←hl1,←hl2,show (((G',ct):BG×Nat)).2+c=c+ct by simp;omega];exact hM.setSt hu2 hC2
   | true=>
    rw [XR] at kh;have okL:=K8 (S:=S') (by rw [eF];exact X.fh.f) hx hp1 (by rw [Z6];exact e1) (show (x:Int)∈S'.f.k p by rw [eF];exact e2);have Z5:S'.u p=G'.F.u p:=by rw [←eF];rfl
    have hfL:=y9 X hx e1;have hmL:=Cs X hx e1;have hrR:=Nf X hx e1 hh;have E1:=χ (ψ e1 (ψ XR (ψ hfL (ψ hmL (ψ hrR (ψ hfu Z5))))))
    have FIN:=χ (show ∀ (W w3:World),jc W B F gr cr lo A (bZ st (c+ct)) S' vs (ry G' x p).R->aa (B.blk F gr A.cs.length S vs) w W->aX w3 B.bt B.ba lo A.cs.length (iG S' x p (S'.u p))->aa (B.ba::S'.blk A.cs.length) W w3->
      ∃ (c2:Nat) (G2:BG) (S2:CS),jc w3 B F gr cr lo A (bZ st c2) S2 vs G2.R/\S2.f=G2.F/\EX A G2 x/\(∀g,g∈S2.blk A.cs.length->g∈S.blk A.cs.length)/\aa (B.blk F gr A.cs.length S vs) w w3/\A.cs.length<=fv+(G2.F.k x).length/\(jd hp ct x fv G2).1=(jd hp ct x A.cs.length G).1/\(jd hp ct x fv G2).2+c2=(jd hp ct x A.cs.length G).2 from fun W w3 mE Uk WM hu3=>by
     have hb3:=NU S' (S'.u p) hx hp1
     have jV:=mE.j3 (hu3.mono (fun y hy=>List.mem_cons_of_mem _ hy)) (mE.cells.upd hu3 (fun y hy hm=>by
      rcases ρ.1 hy with e|e
      ·subst e;exact mE.d1.2.2.1 hm
      ·exact (mE.d3 y e).2.2 hm)) WM (fun g hg=>Or.inl (hb3 g hg))
     rw [xD e1 XR] at hl1 hl2;refine ⟨c+ct,ry G' x p,iG S' x p (S'.u p),jV,by rw [Zz,eF,Z5];rfl,hfL,fun g hg=>hSb g (hb3 g hg),Uk.trans (hu3.mono (fun y hy=>?_)),ω,hl1,by simp only at hl2;omega⟩;rcases ρ.1 hy with e|e
     ·subst e;simp [BB.blk]
     ·have:=hSb y e;simp only [BB.blk,ρ,τ]
      exact Or.inr (Or.inr (Or.inr (Or.inr (Or.inr (Or.inl this))))))
    have kM:=χ (show ∀w2,aG w2 B.c F A (bZ st (c+ct))->aa [B.c] wr w2->jc w2 B F gr cr lo A (bZ st (c+ct)) S' vs G'.R/\aa (B.blk F gr A.cs.length S vs) w w2 from fun w2 hC2 hu2=>⟨hM.setSt hu2 hC2,hu.trans (hu2.mono (fun y hy=>by simp at hy;subst hy;exact yu _ HM.out.cells.mem))⟩);have hup:=X.fh.f.up p hp1;have hpR:G'.F.u p=-1->(p:Int)∈G'.R h:=fun e=>(X.rh.mem h p).2 ⟨ω,hp1,e,by show (A.c p).i=_;omega⟩;have hnd:=(X.rh.row h).nodup;clear hM X hl1 hl2 eu e1 Z6 kb hSb hfu XR hfL hmL hrR e2 hu;rcases hup with e3|⟨q,hq1,e3,_⟩
    ·have eu2:IA A.cs.length S' (p:Int)=none:=by unfold IA;rw [if_pos ω,π,Z5,if_pos e3]
     have hpm:=hpR e3;obtain ⟨i,hi,hidx,hix⟩:=wD (G'.R h) (p:Int) hpm;have E3:=χ (ψ e3 (ψ hpm hnd));clear e3 hpR Z5 hpm hnd
     go_wp2_with (first
      | (go_at_call 188;(with_reducible refine (ku).mono ?_);rintro e w9 ⟨rfl,aM⟩;rw [aM];clear aM w9)
      | ((with_reducible refine (kh).mono ?_);rintro e w2 ⟨rfl,hC2,hu2⟩;obtain ⟨hM2,hu3⟩:=kM.out w2 hC2 hu2;(have h2:=hM2.h1);(have Xt:=wG B.bt B.ba lo A.cs.length S' (p:Int) w2 hM2.jw);rw [eu2] at Xt;simp only [ov,ob,Option.getD_none,Option.isSome_none] at Xt;(have nI:=χ hM2);clear hM2)
      | (go_at_call 188;(with_reducible refine (Xt).mono ?_);rintro e w9 ⟨rfl,aM⟩;rw [aM];clear aM w9))
     have hsl:iw w2 [] (vs.getD h undef) (G'.R h):=(nI.out.each h hq).sl (fun g _=>σ);have kix:=fun W (hW:aa [] w2 W)=>GA W [] (vs.getD h undef) (G'.R h) (p:Int) (hsl.upd hW σ);rw [hidx] at kix;obtain ⟨a0,cap,hv,hlc,hcp,hcs⟩:=(nI.out.each h hq).shape;obtain ⟨g,off,rfl,hci⟩:=hcs i (p:Int) hix;have hfi:w2.frozen? ⟨g,off+i,none⟩=false:=(nI.out.each h hq).free (by rw [hv];rfl) _;have hR2:=nI.out.h2;have hrc:=nI.out.VS hq;rw [hv] at kix hrc;have hib0:(0:Int)<=(h:Int):=ω;have BP:(h:Int)<(vs.length:Int):=ω;have Gs:(0:Int)<=(i:Int):=ω;have hib3:(i:Int)<((G'.R h).length:Int):=ω
     have hrl:(G'.R h).length<=9223372036854775807:=ω
     have hfin:=χ (show jc (w2.setCell ⟨g,off+i,none⟩ (.int .i64 (x:Int))).drew B F gr cr lo A (bZ st (c+ct)) S' vs (dG G'.R h (setAt (G'.R h) (p:Int) (x:Int)))/\aa (B.blk F gr A.cs.length S vs) w (w2.setCell ⟨g,off+i,none⟩ (.int .i64 (x:Int))).drew from by
      have u1:aa (vs.getD h undef).ownBlock.toList w2 (w2.setCell ⟨g,off+i,none⟩ (.int .i64 (x:Int))).drew:=by
       rw [hv];exact ((aa.refl _ _).setCell (Or.inl (by simp [Value.ownBlock])) _).drew
      have o1:bq (w2.setCell ⟨g,off+i,none⟩ (.int .i64 (x:Int))).drew 0 (vs.getD h undef) (setAt (G'.R h) (p:Int) (x:Int)):=by
       have:=nI.out.each h hq;rw [hv] at this ⊢;have o2:=this.set i hi (x:Int);unfold setAt;rw [hidx,π];exact o2.upd ((aa.refl [] _).drew) σ
      refine ⟨nI.out.setX h hq u1 _ o1,hu3.trans (u1.mono (fun y hy=>?_))⟩;simp only [BB.blk,ρ,τ]
      exact Or.inr (Or.inr (Or.inr (Or.inr (Or.inr (Or.inr (jJ.2 ⟨h,hq,by simpa using hy⟩)))))))
     clear hi hidx hix hcs hv hsl;generalize hrlq:(G'.R h).length=rl at *
     go_cut [55] (fun s55 wx=>jc wx B F gr cr lo A (bZ st (c+ct)) S' vs (dG G'.R h (setAt (G'.R h) (p:Int) (x:Int)))/\aa (B.blk F gr A.cs.length S vs) w wx)
     case first=>
      go_region_law
       (first
        | (go_simp;go_at_call 189;(with_reducible refine (kix _ β).mono ?_);rintro e w9 ⟨rfl,aM⟩;rw [aM];clear aM w9))
      all_goals
       go_wp2
       go_meet
       exact hfin.out
     case rest=>
      obtain ⟨jV,iC⟩:=hcut;have h3:=jV.h1;have kl:=GG B.bt B.ba lo A.cs.length S' x p (S'.u p) wc jV.jw okL;have I5:=χ jV;clear jV hfin ku kh Xt kix hR2 hrc hci hfi
      go_wp2_with ((go_at_call 190;(with_reducible refine (kl).mono ?_));rintro e w3 ⟨rfl,WM,cu⟩)
      go_roundg fv
      case measure=>omega
      case rel=>
       have hR2:=E1.out.2.2.2.2.1;rw [E3.out.1,if_pos rfl] at hR2;exact FIN.out wc w3 (by rw [hR2];exact I5.out) iC WM cu
    ·have eu2:IA A.cs.length S' (p:Int)=some (q:Int):=by unfold IA;rw [if_pos ω,π,Z5,e3,if_neg ω]
     have E3:=χ e3;clear e3 hpR Z5
     go_wp2_with (first
      | (go_at_call 188;(with_reducible refine (ku).mono ?_);rintro e w9 ⟨rfl,aM⟩;rw [aM];clear aM w9)
      | ((with_reducible refine (kh).mono ?_);rintro e w2 ⟨rfl,hC2,hu2⟩;obtain ⟨hM2,hu3⟩:=kM.out w2 hC2 hu2;(have h2:=hM2.h1);(have Xt:=wG B.bt B.ba lo A.cs.length S' (p:Int) w2 hM2.jw);rw [eu2] at Xt;simp only [ov,ob,Option.getD_some,Option.isSome_some] at Xt;(have kl:=GG B.bt B.ba lo A.cs.length S' x p (S'.u p) w2 hM2.jw okL);(have nI:=χ hM2);clear hM2)
      | (go_at_call 188;(with_reducible refine (Xt).mono ?_);rintro e w9 ⟨rfl,aM⟩;rw [aM];clear aM w9)
      | ((go_at_call 190;(with_reducible refine (kl).mono ?_));rintro e w3 ⟨rfl,WM,iC⟩))
     go_roundg fv
     case measure=>omega
     case rel=>
      have hR2:=E1.out.2.2.2.2.1;rw [E3.out,if_neg ω] at hR2;exact FIN.out w2 w3 (by rw [hR2];exact nI.out) hu3 WM iC
end
end Go.Proofs.YtklibcncmbofpaaGreat
