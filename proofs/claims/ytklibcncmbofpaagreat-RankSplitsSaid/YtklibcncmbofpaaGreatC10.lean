/-
  Lemmas for RankSplits: Bn3, Bn4, Bn5, Bn8, BnW. Conditions: those of each lemma.
-/
import Derived.Deep.LoopGhost
import Derived.Test.YtklibcncmbofpaaGreatC03
import Derived.Test.YtklibcncmbofpaaGreatC04
import Derived.Test.YtklibcncmbofpaaGreatC09
set_option linter.all false
set_option maxHeartbeats 8000000
set_option maxRecDepth 10000
namespace Go.Proofs.YtklibcncmbofpaaGreat
open Go Go.RowKit
def YS (w:World) (p:Nat) (FF:List Nat) (A:NS) (st:Nat) (G:BG):Prop:=∃B F gr cr lo S vs,p=B.n0/\FF=B.blk F gr A.cs.length S vs/\iI w B F gr cr lo A st S vs G.R/\S.f=G.F
theorem PQ {l:List Int} {x:Int} (hn:l.Nodup) (hx:x∈l):∃l1 l2,l=l1++x::l2/\x∉l1/\x∉l2/\l.filter (fun z=>z != x)=l1++l2:=by
 obtain ⟨l1,l2,rfl⟩:=List.append_of_mem hx;rw [θ,Ζ] at hn;have h1:x∉l1:=fun h=>hn.2.2 x h x σ rfl;have h2:x∉l2:=hn.2.1.1;refine ⟨l1,l2,rfl,h1,h2,?_⟩;have f:∀l:List Int,x∉l->l.filter (fun z=>z != x)=l:=fun l hl=>by
  rw [List.filter_eq_self];intro a ha;simp;intro e;subst e;exact hl ha
 rw [List.filter_append,List.filter_cons_of_neg σ,f l1 h1,f l2 h2]
section
variable {w:World} {B:BB} {F:List Nat} {gr cr lo:Nat} {A:NS} {st:Nat} {S:CS} {vs:List Value} {G:BG}
theorem LJ (M:iI w B F gr cr lo A st S vs G.R) (eF:S.f=G.F) {x h:Nat} (X:BnX A G x) (hx:x<A.cs.length) (hr:G.F.u x=-1) (hin:0<(A.c x).i) (hh:(A.c x).i=h) (hq:h<vs.length) :
  Calls Tryz.prog 185 #[.pointer (some ⟨B.n0,0,none⟩),.int .i64 (h:Int),.int .i64 (x:Int)] w fun e w'=>e=.returned (.bool true)/\
   Goes (B.blk F gr A.cs.length S vs) w w' (fun FF=>YS w' B.n0 FF (aN A x) (dF st (wE A h x G)) (pK A h x G)):=by
 have ok:=M.cells.ok;obtain ⟨T1,T2,mx,t1,t2,t3,t4,t5⟩:=I8 X ok hx hr hin hh;have nd:=(X.rh.row h).nodup;obtain ⟨l1,l2,eR,n1,n2,eL⟩:=PQ nd mx;have hrl:(G.R h).length<=65536:=Χ (qx A.cs.length _ nd (fun z hz=>⟨((X.rh.row h).1 z hz).1,((X.rh.row h).1 z hz).2.1⟩)) ok.c1;obtain ⟨w0,hw0⟩:∃w0,w0=w.alloc (.cells #[.int .i64 (x:Int)] 3):=⟨_,rfl⟩;have hs0:w.heap.size<w0.heap.size:=by rw [hw0];simp
 have u0:aa [] w w0:=by rw [hw0];exact (aa.refl _ _).alloc _
 have hb0:w0.cell? ⟨w.heap.size,0,none⟩=some (.int .i64 (x:Int)):=by rw [hw0];simp
 have hlt:=M.lt;have hbx:∀g,(vs.getD h undef).ownBlock=some g->g≠w.heap.size:=fun g hg e=>by have:=M.vN hq hg;omega
 have kd:=fun W (hW:aa [] w0 W)=>OA W w.heap.size 0 (vs.getD h undef) l1 l2 x (by rw [←eR];exact (M.each h hq).upd (u0.trans hW) σ) n1 n2 (hW.was hb0) (fun e=>hbx _ e rfl) (by rw [←eR];omega);obtain ⟨a,cap,hv,_⟩:=M.shape hq;have h2:=M.h2;have d:=M.Vs hq;rw [hv] at d;have df:=M.ZH h;have n0:B.n0∉(vs.getD h undef).ownBlock.toList:=fun hm=>(M.d4 h _ hq (by simpa using hm)).1 rfl;have ng:gr∉(vs.getD h undef).ownBlock.toList:=fun hm=>(M.d4 h _ hq (by simpa using hm)).2.2.2.1 rfl;have nb:w.heap.size∉(vs.getD h undef).ownBlock.toList:=fun hm=>hbx _ (by simpa using hm) rfl
 have r2:∀W,aa (vs.getD h undef).ownBlock.toList w0 W->W.cell? ⟨B.n0,2,none⟩=some (.slice (some ⟨gr,0,none⟩) vs.length cr):=fun W hW=>hW.kept (u0.was h2) n0;have r3:∀W,aa (vs.getD h undef).ownBlock.toList w0 W->W.cell? ⟨gr,h,none⟩=some (.slice a (G.R h).length cap)/\W.frozen? ⟨gr,h,none⟩=false:=fun W hW=>⟨hW.kept (u0.was d) ng,hW.aP (u0.was d) ng (u0.aP d σ df)⟩
 have r4:∀W,aa (vs.getD h undef).ownBlock.toList w0 W->W.cell? ⟨w.heap.size,0,none⟩=some (.int .i64 (x:Int)):=fun W hW=>hW.kept hb0 nb;have IA:(0:Int)<=(h:Int):=ω;have J7:(h:Int)<(vs.length:Int):=ω;have hgl:=M.FC;have hn0l:=hlt B.n0 (by simp [BB.blk]);have HM:=χ M;have HX:=χ (ψ T1 (ψ t1 (ψ t2 (ψ t3 (ψ t4 (ψ t5 (ψ eL (ψ eF X))))))));have hvl2:=M.ZI;rw [hv] at kd r2 r3 r4;clear M X T1 T2 mx t1 t2 t3 t4 t5 nd eL hbx ok h2 d df n0 ng nb n1 n2 eF hlt;have HV:=χ hv;clear eR hrl;generalize (G.R h).length=rl at *
 go_enter Tryz.func185,Tryz.ntmps185
 go_wp2;rw [←hw0];clear hw0 hb0
 go_cut [20] (fun s20 wx=>∃v1,iI wx B F gr cr lo A st S (vs.set h v1) (dw G.R h (l1++l2))/\wx.cell? ⟨w.heap.size,0,none⟩=some (.int .i64 (x:Int))/\aa (gr::(Value.slice a rl cap).ownBlock.toList) w wx/\v1.ownBlock=(Value.slice a rl cap).ownBlock)
 case first=>
  have p2:=r2 _ (aa.refl _ _);obtain ⟨p3,p4⟩:=r3 _ (aa.refl _ _)
  go_region_law
   (first
    | (go_simp;go_at_call 191;(with_reducible refine (kd _ β).mono ?_);rintro e w1 ⟨v1,rfl,pM,hb1,hu1a,a1,n1,c1,rfl⟩;(have hu1:aa (Value.slice a rl cap).ownBlock.toList w0 w1:=aa.trans β hu1a);(have q2:=r2 _ hu1);obtain ⟨q3,q4⟩:=r3 _ hu1;(have q5:=r4 _ hu1)))
  all_goals
   go_wp2
   go_meet
   have hu2:aa (Value.slice a rl cap).ownBlock.toList w w1:=(u0.mono σ).trans hu1;exact ⟨_,HM.out.ZE h hq (by rw [hv];exact hu2) _ _ pM (by rw [hv];exact hb1),γ,(hu2.mono (by simp +contextual)).setCell (Α σ) _,hb1⟩
 case rest=>
  obtain ⟨v1,hM2,hb2,hu2,ho2⟩:=hcut;obtain ⟨T1,t1,t2,t3,t4,t5,eL,eF,X⟩:=HX.out;have hvs2:(vs.set h v1).length=vs.length:=Ι;have hfs:rY A.cs.length S.f:=by rw [eF];exact X.fh.f
  have hSk:S.k x=G.F.k x:=by rw [←eF];rfl
  have ksp:=fun W (hW:aa [] wc W)=>Md B.bt B.ba lo A.cs.length S x W (hM2.jM.ae hW) hx (by unfold mV;rw [Ν ω];have e:S.u x=-1:=(by rw [←hr,←eF];rfl);simp [e]) (fun k hk=>by have:=hfs.wO x hx k hk;omega);have h1:=hM2.h1;have hl2:=hM2.lt;have hbn:w.heap.size∉B.c::B.ba::gr::S.blk A.cs.length:=fun hm=>by
   have hl:=HM.out.lt;simp only [ρ] at hm;rcases hm with e|e|e|e
   ·have:=HM.out.cells.lt B.c HM.out.cells.mem;omega
   ·have:=hl B.ba (by simp [BB.blk]);omega
   ·omega
   ·have:=(HM.out.jM.mi e).2;omega
  have hn0:B.n0∉B.c::B.ba::gr::S.blk A.cs.length:=fun hm=>by
   have hcn:=HM.out.cn;simp only [ρ] at hm;rcases hm with e|e|e|e
   ·exact hcn.1 e
   ·exact HM.out.d2.2.1 e
   ·exact HM.out.d2.2.2.1 e
   ·exact (HM.out.d3 _ e).1 rfl
  have r1:∀W,aa (B.c::B.ba::gr::S.blk A.cs.length) wc W->W.cell? ⟨B.n0,1,none⟩=some (.pointer (some ⟨B.bt,0,none⟩)):=fun W hW=>hW.kept h1 hn0;have r0:∀W,aa (B.c::B.ba::gr::S.blk A.cs.length) wc W->W.cell? ⟨w.heap.size,0,none⟩=some (.int .i64 (x:Int)):=fun W hW=>hW.kept hb2 hbn
  have ka:=fun (W:World) (vl:Value) (hM:iI W B F gr cr lo A st (fP S x) (vs.set h v1) (dw G.R h (l1++l2))) (hvl:fO W (B.c::B.ba::(fP S x).blk A.cs.length) vl (G.F.k x))=>EN hM (by rw [xu,eF];exact X.fh.f.NK hx hr) h (by rw [hvs2];exact hq) hvl (by rw [xu,eF,show dw G.R h (l1++l2) h=l1++l2 by simp [dw],←eL];exact t1) (by rw [xu,eF];exact t2) (fun z hz=>by rw [show dw G.R h (l1++l2) h=l1++l2 by simp [dw],←eL] at hz;exact t3 z hz) (fun z hz=>by rw [show dw G.R h (l1++l2) h=l1++l2 by simp [dw],←eL] at hz;exact t5 z (by rcases hz with hz|hz;exact Α (List.mem_filter.1 hz).1;exact Β hz))
  have vv:=χ hM2;have HB:=χ (show ∀W:World,aa [B.ba] wc W->aV W B.bt B.ba lo A.cs.length (fP S x)->iI W B F gr cr lo A st (fP S x) (vs.set h v1) (dw G.R h (l1++l2)) from fun W hu hF=>vv.out.jr (hu.mono σ) (vv.out.cells.upd hu (fun y hy hm=>by simp at hy;subst hy;exact vv.out.d1.2.2.1 hm)) hF (fun g hg=>Α (oC S x _ g hg)))
  have HSUB:=χ (show ∀y,y∈B.c::B.ba::gr::(fP S x).blk A.cs.length->y∈B.c::B.ba::gr::S.blk A.cs.length from fun y hy=>by
   simp only [ρ] at hy ⊢;rcases hy with e|e|e|e
   ·exact Α e
   ·exact Β (Α e)
   ·exact Β (Β (Α e))
   ·exact Β (Β (Β (oC S x _ y e))))
  have Ur:=χ (show ∀y,y∈B.c::B.ba::(fP S x).blk A.cs.length->y<wc.heap.size from fun y hy=>by
   simp only [ρ] at hy;rcases hy with e|e|e
   ·subst e;exact hM2.cells.lt _ hM2.cells.mem
   ·subst e;exact hM2.jM.row.lt
   ·exact (hM2.jM.mi (oC S x _ y e)).2)
  clear hM2 T1 t1 t2 t3 t4 t5 eL hfs X h1 hb2 eF;rw [hSk] at ksp;go_wp2
  go_region_held3 (aa (B.c::B.ba::gr::S.blk A.cs.length) wc) (exact ν)
   (first
    | ((go_at_call 193;(with_reducible refine (ksp _ β).mono ?_));rintro e w3 ⟨v3,rfl,hL3,Xh,hu3⟩;(have Rk:aa [B.ba] wc w3:=aa.trans β hu3);(have Yu:aa (B.c::B.ba::gr::S.blk A.cs.length) wc w3:=Rk.mono σ);(have oP:=HB.out _ Rk Xh);obtain ⟨a3,c3,hv3,hl3,hc3⟩:=(show ∃a c,v3=.slice a (G.F.k x).length c/\True/\True from (by obtain ⟨a,c,e,_⟩:=hL3.open;exact ⟨a,c,e,trivial,trivial⟩));subst hv3;(have ka3:=fun W (hW:aa [] w3 W)=>ka W _ (oP.ae hW) (fO.upd (fO.WB (F:=B.c::B.ba::(fP S x).blk A.cs.length) hL3 (fun g hg=>Ψ (Ur.out g hg) (aa.size (S:=[]) (w:=wc) β))) hW σ)))
    | ((go_at_call 186;(with_reducible refine (ka3 _ β).mono ?_));rintro e w4 ⟨S4,vo,rfl,Xn,zG,om,hb4,hx4⟩;(have Zb:aa (B.c::B.ba::gr::S.blk A.cs.length) wc w4:=aa.trans ν (om.mono HSUB.out))))
  have h04:=zG.h0;have hnF:=HM.out.d1.1;have wC:w.heap.size∉F:=fun hm=>by have:=HM.out.cells.lt _ hm;omega
  have r5:∀W,aa F w4 W->W.cell? ⟨B.n0,0,none⟩=some (.pointer (some ⟨B.c,0,none⟩)):=fun W hW=>hW.kept h04 hnF;have r6:∀W,aa F w4 W->W.cell? ⟨w.heap.size,0,none⟩=some (.int .i64 (x:Int)):=fun W hW=>hW.kept (r0 _ Zb) wC;have Ud:=fun W (hW:aa [] w4 W)=>fU (zG.cells.ae hW) x ((aj _ _).2 ⟨hx,hin⟩);have R8:=χ zG;clear zG h04 r0 r1 ka ksp ka3 oP hL3 Xh;go_wp2
  go_region_held3 (aa F w4) (exact ν)
   (first
    | ((go_at_call 151;(with_reducible refine (Ud _ β).mono ?_));rintro e w5 ⟨rfl,VW,dJ⟩;(have Y9:aa F w4 w5:=aa.trans ν dJ)))
  go_wp2;go_ret;obtain ⟨T1,t1,t2,t3,t4,t5,eL,eF,X⟩:=HX.out;have dl:=dm A (x:Int);have dh:=fJ A (x:Int);have Dk:=R8.out.fH Y9 VW (fun y hy=>Α hy) dl (by rw [dh]);have eR1:dw G.R h (l1++l2) h=l1++l2:=by simp [dw]
  have eT:(gK G h x).R=dw G.R h (l1++l2):=by unfold gK;rw [eL]
  have eTF:(gK G h x).F=(fP S x).f:=by rw [xu,eF];rfl
  have e1:(pK A h x G).R=dw (dw G.R h (l1++l2)) h (jy (bL A) A.cs.length (fP S x).f (dw G.R h (l1++l2) h) (G.F.k x)).O:=by unfold pK wN;rw [eT,eTF]
  have e2:(pK A h x G).F=S4.f:=by rw [Xn];unfold pK wN;rw [eT,eTF]
  have e3:wE A h x G=(jy (bL A) A.cs.length (fP S x).f (dw G.R h (l1++l2) h) (G.F.k x)).q:=by unfold wE;rw [eT,eTF]
  have uw:aa (B.blk F gr A.cs.length S vs) w w5:=by
   have m1:∀y,y∈gr::(Value.slice a rl cap).ownBlock.toList->y∈B.blk F gr A.cs.length S vs:=fun y hy=>by
    simp only [BB.blk,ρ,τ] at hy ⊢;rcases hy with e|e
    ·exact Β (Β (Β (Α e)))
    ·exact Β (Β (Β (Β (Β (Β (iP.2 ⟨h,hq,by rw [HV.out];simpa using e⟩))))))
   have m2:∀y,y∈B.c::B.ba::gr::S.blk A.cs.length->y∈B.blk F gr A.cs.length S vs:=fun y hy=>by
    simp only [BB.blk,ρ,τ] at hy ⊢;rcases hy with e|e|e|e
    ·exact Β (Β (Β (Β (Α (by rw [e];exact HM.out.cells.mem)))))
    ·exact Β (Β (Α e))
    ·exact Β (Β (Β (Α e)))
    ·exact Β (Β (Β (Β (Β (Α e)))))
   have m3:∀y,y∈F->y∈B.blk F gr A.cs.length S vs:=fun y hy=>by simp [BB.blk,hy]
   exact ((hu2.mono m1).trans (Zb.mono m2)).trans (Y9.mono m3)
  refine ⟨rfl,B.blk F gr (aN A x).cs.length S4 ((vs.set h v1).set h vo),⟨B,F,gr,cr,lo,S4,(vs.set h v1).set h vo,rfl,rfl,by rw [e1,e3];exact Dk,e2.symm⟩,uw,fun y hy=>?_⟩;have hsz:=hu2.size;rw [dl] at hy;simp only [BB.blk,ρ,τ] at hy ⊢;rcases hy with e|e|e|e|e|e|e
  ·exact Α (Α e)
  ·exact Α (Β (Α e))
  ·exact Α (Β (Β (Α e)))
  ·exact Α (Β (Β (Β (Α e))))
  ·exact Α (Β (Β (Β (Β (Α e)))))
  ·rcases hb4 y e with h'|h'
   ·exact Α (Β (Β (Β (Β (Β (Α (oC S x _ y h')))))))
   ·right;have:=Yu.size;omega
  ·obtain ⟨k,hk,hk2⟩:=iP.1 e;rw [Ι,Ι] at hk;rw [rC,rC] at hk2
   by_cases ek:k=h
   ·rw [Δ ⟨ek,by rw [Ι];exact hq⟩] at hk2;right;have:=hx4 y hk2;have:=Yu.size;omega
   ·rw [Γ (fun h=>ek h.1),Γ (fun h=>ek h.1)] at hk2;exact Α (Β (Β (Β (Β (Β (Β (iP.2 ⟨k,hk,hk2⟩)))))))
end
section
variable {w:World} {B:BB} {F:List Nat} {gr cr lo:Nat} {A:NS} {st:Nat} {S:CS} {vs:List Value} {G:BG} {R:Nat->List Int}
theorem iI.setSt {w':World} {st':Nat} (h:iI w B F gr cr lo A st S vs R) (hu:aa [B.c] w w') (hC:aD w' B.c F A st'):iI w' B F gr cr lo A st' S vs R:=
 h.fH (hu.mono (fun x hx=>by simp at hx;subst hx;exact h.cells.mem)) hC (fun x hx=>Α hx) rfl rfl
def BS (A:NS) (G:BG) (h:Int):Nat:=if bq A h then (G.R h.toNat).length-1 else 0
theorem DR (M:iI w B F gr cr lo A st S vs G.R) (I:FV A G) (h:Int) :
  Calls Tryz.prog 181 #[.pointer (some ⟨B.n0,0,none⟩),.int .i64 h] w fun e w'=>e=.returned (.tuple #[.int .i64 (nO (bB A h)),.bool (bB A h).isSome])/\iI w' B F gr cr lo A (dF st (BS A G h)) S vs G.R/\aa [B.c] w w':=by
 have hst:=M.cells.qp;cases hh:bq A h with
 | false=>
  have e:bB A h=none:=by
   by_cases h1:0<h
   ·exact (iJ h1).2 (ML M.cells.ok hh)
   ·exact nV h1
  have e2:BS A G h=0:=by unfold BS;rw [hh];rfl
  rw [e,e2,ig hst];have kr:=Tq M h hh;have HM:=χ M;clear M I hh e e2
  go_enter Tryz.func181,Tryz.ntmps181
  go_wp2_with ((go_at_call 187;(with_reducible refine (kr).mono ?_);rintro e w9 ⟨rfl,aS⟩;rw [aS];clear aS w9))
  go_ret2;exact ⟨rfl,HM.out,aa.refl _ _⟩
 | true=>
  obtain ⟨q,rfl,hq1,hq⟩:=M.hq hh;have e2:BS A G (q:Int)=(G.R q).length-1:=by unfold BS;rw [hh];simp
  obtain ⟨a,cap,hv,hl1,hl2⟩:=M.shape hq;have kr:=Py M q hh hv;have hsl:fO w [B.c] (vs.getD q undef) (G.R q):=(M.each q hq).sl (fun g hg hm=>by simp at hm;subst hm;exact (M.d4 q _ hq hg).2.2.2.2.1 M.cells.mem);rw [hv] at hsl;rw [e2];cases hR:G.R q with
  | nil=>
   rw [Jb I hq1 hR];rw [hR] at kr hsl;simp only [List.length_nil] at kr ⊢;rw [ig hst];have HM:=χ M;clear M I hh hR e2 hv hsl
   go_enter Tryz.func181,Tryz.ntmps181
   go_wp2_with ((go_at_call 187;(with_reducible refine (kr).mono ?_);rintro e w9 ⟨rfl,aS⟩;rw [aS];clear aS w9))
   go_ret2;exact ⟨rfl,HM.out,aa.refl _ _⟩
  | cons x t=>
   obtain ⟨m,hb,hm,_⟩:=Po I hq1 hR;rw [hm];rw [hR] at kr hsl hl1;simp only [Ω] at kr hsl hl1 ⊢;have hin:∀z,z∈x::t->∃y:Nat,z=y/\bV A z=true:=fun z hz=>by
    obtain ⟨y,e,_,i,_⟩:=P9 I (h:=q) (z:=z) (by rw [hR];exact hz);exact ⟨y,e,i⟩
   obtain ⟨g,off,rfl,hgl,xB,hc0⟩:=hsl.head;have Es:=(show fO w [B.c] (.slice (some ⟨g,off,none⟩) (t.length+1) cap) (x::t) from hsl).tail;have VL:=fun W=>tV W (some ⟨g,off,none⟩) (t.length+1) cap ω ω;obtain ⟨a3,xX⟩:=oJ (some ⟨g,off,none⟩) (t.length+1) cap;rw [xX] at VL Es;simp only [Nat.add_sub_cancel] at VL Es ⊢;have h0:=M.h0;have hn0:B.n0∉[B.c]:=by simp;exact M.cn.1
   have HM:=χ M;have HT:=χ Es;have HI:=χ (ψ hin hb);have hC:=M.cells;have hz:dF st 0=st:=ig hst;clear M I hh hR e2 hv hsl Es hin hb hm xX;generalize htl:t.length=tl at *;have HTL:=χ htl;have hne0:((tl:Int)+1 == 0)=false:=beq_eq_false_iff_ne.2 ω;clear htl
   go_enter Tryz.func181,Tryz.ntmps181
   go_wp2_with ((go_at_call 187;(with_reducible refine (kr).mono ?_);rintro e w9 ⟨rfl,aS⟩;rw [aS];clear aS w9))
   go_loopw [7,22] (fun s7 s22 wr=>∃ (j:Nat) (b:Int),j<=tl/\s22=.int .i64 (j:Int)/\s7=.int .i64 b/\kH (bL A) b (t.drop j)=kH (bL A) x t/\(∃y:Nat,b=y/\bV A b=true)/\aD wr B.c F A (dF st j)/\aa [B.c] w wr) (fun _ s22 _=>tl-(intOf s22).toNat)
   case atStart=>exact ⟨0,x,ω,rfl,rfl,σ,HI.out.1 x σ,by rw [hz];exact hC,aa.refl _ _⟩
   case round=>
    obtain ⟨j,b,hj,rfl,rfl,hbb,hib,hCj,hu⟩:=hrel;rename World=>wr
    by_cases hjt:j<tl
    ·obtain ⟨y,tT⟩:∃y,t[j]?=some y:=⟨t[j]'(by rw [HTL.out];exact hjt),σ⟩;have hd:t.drop j=y::t.drop (j+1):=by
      obtain ⟨hl,e⟩:=List.getElem?_eq_some_iff.1 tT;rw [Ϣ hl,e]
     obtain ⟨a4,c4,e4,_,_,h4⟩:=HT.out;have ea:a3=a4:=by injection e4
     subst ea;obtain ⟨g4,o4,rfl,_,hg4,hc4⟩:=h4 j y tT;have Z4:=hu.kept hc4 hg4;obtain ⟨yn,rfl,hiy⟩:=HI.out.1 y (Λ _ (Η tT));obtain ⟨bn,rfl,hbn⟩:=hib;have ka:=gZ hCj yn bn hiy hbn;have h05:=hu.kept h0 hn0;have J3:(j:Int)<(tl:Int):=ω;have hw1:IntKind.i64.wrap ((j:Int)+1)=(j:Int)+1:=Μ _ ω;have eah:bL A (yn:Int) (bn:Int)=decide (eU A yn bn):=by rw [jW,hiy,hbn];simp
     have hnx:∀b':Int,b'=(if bL A (yn:Int) (bn:Int) then (yn:Int) else (bn:Int))->kH (bL A) b' (t.drop (j+1))=kH (bL A) x t:=fun b' e=>by rw [←hbb,hd,e];rfl
     have HN:=χ (ψ hnx (ψ hiy hbn));have hse:dF (dF st j) 1=dF st (j+1):=kG st j 1;rw [←eah] at ka;clear hCj hbb hd h4 tT hc4 hiy hbn eah hnx e4;cases hab:bL A (yn:Int) (bn:Int) with
     | true=>
      rw [hab] at ka;have HAB:=χ hab;clear hab
      go_wp2_with ((go_at_call 174;(with_reducible refine (ka).mono ?_));rintro e w2 ⟨rfl,hC2,hu2⟩)
      go_roundw
      case rel=>exact ⟨j+1,yn,ω,by go_num,rfl,HN.out.1 _ (by rw [HAB.out];rfl),⟨yn,rfl,HN.out.2.1⟩,by rw [←hse];exact hC2,hu.trans hu2⟩
      case measure=>simp [intOf];omega
     | false=>
      rw [hab] at ka;have HAB:=χ hab;clear hab
      go_wp2_with ((go_at_call 174;(with_reducible refine (ka).mono ?_));rintro e w2 ⟨rfl,hC2,hu2⟩)
      go_roundw
      case rel=>exact ⟨j+1,bn,ω,by go_num,rfl,HN.out.1 _ (by rw [HAB.out];rfl),⟨bn,rfl,HN.out.2.2⟩,by rw [←hse];exact hC2,hu.trans hu2⟩
      case measure=>simp [intOf];omega
    ·obtain rfl:j=tl:=ω;have hbf:b=(m:Int):=by
      rw [List.drop_of_length_le (by rw [HTL.out];omega)] at hbb;have e:kH (bL A) b []=b:=rfl;rw [e,HI.out.2] at hbb;exact hbb
     have HB:=χ hbf;have HC:=χ hCj;clear hbb hib hbf hCj;go_wp2;go_ret2;exact ⟨by rw [HB.out];rfl,HM.out.setSt hu HC.out,hu⟩
end
def I6 (w:World) (p:Nat) (FF:List Nat) (A:NS) (st:Nat) (G:BG):Prop:=YS w p FF A st G/\FV A G
theorem Qx {A:NS} {G:BG} (I:FV A G) (ok:A.Ok) {q:Int} {m:Nat} (hm:bB A q=some m):∃k:Nat,q=k/\1<=k/\bq A q=true/\m<A.cs.length/\G.F.u m=-1/\(A.c m).i=k:=by
 have hq:0<q:=by
  apply ϝ;intro h;rw [nV h] at hm;cases hm
 obtain ⟨k,rfl⟩:∃k:Nat,q=k:=⟨q.toNat,ω⟩;have hf:=(dD hq).1 hm;have hh:bq A (k:Int)=true:=by
  have:=jH ok ((aj A m).2 ⟨hf.1,by rw [hf.2.1];omega⟩);rw [π,hf.2.1] at this;exact this
 cases hR:G.R k with
 | nil=>rw [Jb I ω hR] at hm;cases hm
 | cons x t=>
  obtain ⟨m',_,h2,h3,h4,h5⟩:=Po I (show 1<=k by omega) hR;rw [hm] at h2;cases h2;exact ⟨k,rfl,ω,hh,h3,h4,h5⟩
def Nk (A:NS) (q:Int) (G:BG):Nat:=BS A G q+(match bB A q with|some m=>wE A q.toNat m G|none=>0)
def Qp (A:NS) (q:Int) (G:BG):BG:=match bB A q with|some m=>pK A q.toNat m G|none=>G
section
variable {w:World} {p:Nat} {FF:List Nat} {A:NS} {st:Nat} {G:BG}
theorem Dm (h:I6 w p FF A st G) (q:Int) :
  Calls Tryz.prog 177 #[.pointer (some ⟨p,0,none⟩),.int .i64 q] w fun e w'=>e=.returned (.tuple #[.int .i64 (nO (bB A q)),.bool (bB A q).isSome])/\Goes FF w w' (fun O5=>I6 w' p O5 (rZ A q) (dF st (Nk A q G)) (Qp A q G)):=by
 obtain ⟨⟨B,F,gr,cr,lo,S,vs,rfl,rfl,M,eF⟩,I⟩:=h;have km:=DR M I q;have su:∀y,y∈[B.c]->y∈B.blk F gr A.cs.length S vs:=fun y hy=>by
  simp at hy;subst hy;simp [BB.blk,M.cells.mem]
 have hst:=M.cells.qp;cases hm:bB A q with
 | none=>
  rw [hm] at km;simp only [nO,Option.isSome_none] at km ⊢;have e1:Nk A q G=BS A G q:=by unfold Nk;rw [hm];rfl
  have e2:Qp A q G=G:=by unfold Qp;rw [hm]
  have e3:rZ A q=A:=by unfold rZ;rw [hm]
  rw [e1,e2,e3];have HI:=χ (ψ I (ψ eF su));clear M I hm e1 e2 e3 eF su
  go_enter Tryz.func177,Tryz.ntmps177
  go_wp2_with ((go_at_call 181;(with_reducible refine (km).mono ?_));rintro e w1 ⟨rfl,hM1,hu1⟩)
  go_ret2;exact ⟨rfl,Goes.stay ⟨⟨B,F,gr,cr,lo,S,vs,rfl,rfl,hM1,HI.out.2.1⟩,HI.out.1⟩ (hu1.mono HI.out.2.2)⟩
 | some m=>
  rw [hm] at km;simp only [nO,Option.isSome_some] at km ⊢;obtain ⟨k,rfl,hk1,hh,m1,m2,m3⟩:=Qx I M.cells.ok hm;have e1:Nk A (k:Int) G=BS A G (k:Int)+wE A k m G:=by unfold Nk;rw [hm];simp
  have e2:Qp A (k:Int) G=pK A k m G:=by unfold Qp;rw [hm];simp
  have e3:rZ A (k:Int)=aN A (m:Int):=by unfold rZ;rw [hm]
  rw [e1,e2,e3];obtain ⟨k',hk',_,hkv⟩:=M.hq hh;obtain rfl:k=k':=ω;have X:=I.x m1;have kt:=fun W (hM:iI W B F gr cr lo A (dF st (BS A G (k:Int))) S vs G.R)=>LJ hM eF X m1 m2 (by rw [m3];omega) m3 hkv;have T:=(I8 X M.cells.ok m1 m2 (by rw [m3];omega) m3).1;have HI:=χ (ψ T su);clear M I hm e1 e2 e3 eF su X T m1 m2 m3 hh hk'
  go_enter Tryz.func177,Tryz.ntmps177
  go_wp2_with (first
   | ((go_at_call 181;(with_reducible refine (km).mono ?_));rintro e w1 ⟨rfl,hM1,hu1⟩;(have kt1:=kt _ hM1);(have hs1:=hu1.size))
   | ((go_at_call 185;(with_reducible refine (kt1).mono ?_));rintro e w2 ⟨rfl,FF2,hK2,hu2,hf2⟩)
   | fail)
  go_ret2;rw [kG] at hK2;refine ⟨rfl,FF2,⟨hK2,HI.out.1⟩,(hu1.mono HI.out.2).trans hu2,fun y hy=>?_⟩;rcases hf2 y hy with h'|h'
  ·exact Α h'
  ·exact Β ω
theorem Jf {B:BB} {F:List Nat} {gr n:Nat} {S:CS} {vs:List Value}:∀y,y∈F->y∈B.blk F gr n S vs:=fun y hy=>by simp [BB.blk,hy]
theorem SY {w:World} {B:BB} {F F':List Nat} {gr n:Nat} {S S':CS} {vs:List Value} {q:Nat} {vo:Value} (hF:∀y,y∈F'->y∈F) (hb:∀g,g∈S'.blk n->g∈S.blk n\/w.heap.size<=g) (hv:∀g,vo.ownBlock=some g->w.heap.size<=g) :
  ∀y,y∈B.blk F' gr n S' (vs.set q vo)->y∈B.blk F gr n S vs\/w.heap.size<=y:=fun y hy=>by
 simp only [BB.blk,ρ,τ] at hy ⊢;rcases hy with e|e|e|e|e|e|e
 ·exact Α (Α e)
 ·exact Α (Β (Α e))
 ·exact Α (Β (Β (Α e)))
 ·exact Α (Β (Β (Β (Α e))))
 ·exact Α (Β (Β (Β (Β (Α (hF y e))))))
 ·rcases hb y e with h'|h'
  ·exact Α (Β (Β (Β (Β (Β (Α h'))))))
  ·exact Β h'
 ·obtain ⟨k,hk,hk2⟩:=iP.1 e;rw [Ι] at hk;rw [rC] at hk2
  by_cases ek:k=q/\q<vs.length
  ·rw [Δ ek] at hk2;exact Β (hv y hk2)
  ·rw [Γ ek] at hk2;exact Α (Β (Β (Β (Β (Β (Β (iP.2 ⟨k,hk,hk2⟩)))))))
theorem YV {w:World} {B:BB} {F:List Nat} {gr cr lo:Nat} {S:CS} {vs:List Value} {R:Nat->List Int} (M:iI w B F gr cr lo A st S vs R):∀y,y∈B.c::B.ba::gr::S.blk A.cs.length->y∈B.blk F gr A.cs.length S vs:=fun y hy=>by
 simp only [BB.blk,ρ,τ] at hy ⊢;rcases hy with e|e|e|e
 ·exact Β (Β (Β (Β (Α (by rw [e];exact M.cells.mem)))))
 ·exact Β (Β (Α e))
 ·exact Β (Β (Β (Α e)))
 ·exact Β (Β (Β (Β (Β (Α e)))))
theorem EJ (h:I6 w p FF A st G) (q x:Nat) (k s:Int) (hk:-9223372036854775808<=k/\k<=9223372036854775807/\0<=s/\s<=18446744073709551615) (hB:iM A q x=true) :
  Calls Tryz.prog 178 #[.pointer (some ⟨p,0,none⟩),.int .i64 (q:Int),.int .i64 (x:Int),.agg #[.int .i64 k,.int .u64 s]] w fun e w'=>e=.returned (.bool true)/\
   Goes FF w w' (fun O5=>I6 w' p O5 (az A q x k s) (dF st (SS (az A q x k s) q x G)) (QB (az A q x k s) q x G)):=by
 obtain ⟨⟨B,F,gr,cr,lo,S,vs,rfl,rfl,M,eF⟩,I⟩:=h;have ok:=M.cells.ok;obtain ⟨I2,_,t2,t3,t4,hcs⟩:=UH (h:=q) (x:=x) k s I ok hB;have nG:(az A q x k s).hs.length=A.hs.length:=by unfold az;split;rfl;rfl
 have hasq:=((bX _ _ _).1 hB).1;obtain ⟨q',e,hq1,hqv⟩:=M.hq hasq;obtain rfl:q=q':=ω;have u1:aa [] w (w.alloc (.cells #[.int .i64 k,.int .u64 s] 129)):=(aa.refl _ _).alloc _;have kp:=fun W (hW:aa [] (w.alloc (.cells #[.int .i64 k,.int .u64 s] 129)) W)=>l9 (M.cells.ae (u1.trans hW)) q x k s hk hB;have h0:=M.h0;have wC:B.n0∉F:=M.d1.1;have hsz:w.heap.size∉F:=fun hm=>by have:=M.cells.lt _ hm;omega
 have r0:∀W,aa F (w.alloc (.cells #[.int .i64 k,.int .u64 s] 129)) W->W.cell? ⟨B.n0,0,none⟩=some (.pointer (some ⟨B.c,0,none⟩)):=fun W hW=>hW.kept (u1.was h0) wC;have r1:∀W,aa F (w.alloc (.cells #[.int .i64 k,.int .u64 s] 129)) W->W.cell? ⟨w.heap.size,0,none⟩=some (.int .i64 k):=fun W h=>h.kept σ hsz;have r2:∀W,aa F (w.alloc (.cells #[.int .i64 k,.int .u64 s] 129)) W->W.cell? ⟨w.heap.size,1,none⟩=some (.int .u64 s):=fun W h=>h.kept σ hsz;have hrow:=I.rh.row q
 have ka:=fun (W:World) (hM:iI W B F gr cr lo (az A q x k s) st S vs G.R) (vl:Value) (hvl:fO W (B.c::B.ba::S.blk (az A q x k s).cs.length) vl [(x:Int)])=>EN hM (by rw [hcs,eF];exact I.fh.f) q hqv hvl (by rw [hcs,eF];exact hrow) (by rw [hcs,eF];exact t2) t3 t4;have HM:=χ M;have HI:=χ (ψ I2 (ψ eF (ψ hcs nG)));clear M I ok I2 t2 t3 t4 hcs nG eF hrow h0 hB;generalize hA':az A q x k s=A' at *
 go_enter Tryz.func178,Tryz.ntmps178
 go_wp2
 go_region_held3 (aa F (w.alloc (.cells #[.int .i64 k,.int .u64 s] 129))) (exact ν)
  (first
   | ((go_at_call 154;(with_reducible refine (kp _ β).mono ?_));rintro e w1 ⟨rfl,jN,hu1⟩;(have hu2:aa F (w.alloc (.cells #[.int .i64 k,.int .u64 s] 129)) w1:=ν)))
 have uF:aa F w w1:=(u1.mono σ).trans hu2;have hM1:=HM.out.fH uF jN (fun y hy=>Α hy) HI.out.2.2.1 HI.out.2.2.2;have hsz1:=uF.size;have hlt1:∀y,y∈B.c::B.ba::S.blk A'.cs.length->y<w1.heap.size:=fun y hy=>by
  simp only [ρ] at hy;rcases hy with e|e|e
  ·subst e;exact hM1.cells.lt _ hM1.cells.mem
  ·subst e;exact hM1.jM.row.lt
  ·exact (hM1.jM.mi e).2
 have Xl:=fun (W:World) (hW:aa [] w1 W) (vl:Value)=>ka W (hM1.ae hW) vl;have HL:=χ hlt1;clear kp r0 r1 r2 hM1 hlt1 ka
 go_wp2_with (first
  | ((go_at_call 186;(with_reducible refine (Xl _ β _ ((aZ.lit w1 0 (x:Int) (Nat.zero_le _)).sl (fun g hg hm=>by have:=HL.out g hm;simp [Value.ownBlock] at hg;omega))).mono ?_));rintro e w2 ⟨S2,vo,rfl,hS2,hM2,hu3,hb2,hx2⟩)
  | fail)
 go_ret;have eF:=HI.out.2.1;have hcs:=HI.out.2.2.1;have uw:aa (B.blk F gr A.cs.length S vs) w w2:=by
  refine ((uF.mono Jf).alloc _).trans (hu3.mono (fun y hy=>?_));rw [hcs] at hy;exact YV HM.out y hy
 refine ⟨rfl,B.blk F gr A'.cs.length S2 (vs.set q vo),⟨⟨B,F,gr,cr,lo,S2,_,rfl,rfl,by unfold SS QB wN;rw [←eF];exact hM2,by rw [hS2,eF];rfl⟩,HI.out.1⟩,uw,fun y hy=>?_⟩;rw [hcs] at hy hb2;exact SY (w:=w) (fun _ h=>h) (fun g hg=>(hb2 g hg).imp id (fun h=>by simp at h;omega)) (fun g hg=>by have:=hx2 g hg;simp at this;omega) y hy
end
theorem RP:(Tryz.prog.info? 26).map (fun i=>(i.zero,i.size,i.bytes))=some (some (.slice none 0 0),1,24):=by kernel_rfl
theorem U7 {A:NS} {G:BG} (I:FV A G) (ok:A.Ok):G.R A.hs.length=[]:=by
 cases e:G.R A.hs.length with
 | nil=>rfl
 | cons x t=>
  have hx:x∈G.R A.hs.length:=by rw [e];simp
  obtain ⟨y,_,hy,_,hh,_⟩:=P9 I hx;have:=ok.nat y hy;omega
theorem AO (vs:List Value) (v:Value) (k:Nat):(vs++[v]).getD k undef=if k<vs.length then vs.getD k undef else if k=vs.length then v else undef:=by
 simp only [φ]
 by_cases e:k<vs.length
 ·rw [Ρ e,Δ e]
 ·rw [ϊ ω,Γ e]
  by_cases e2:k=vs.length
  ·subst e2;simp
  ·rw [Γ e2,List.getElem?_eq_none ζ];rfl
section
variable {w:World} {p:Nat} {FF:List Nat} {A:NS} {st:Nat} {G:BG}
theorem Mf (h:I6 w p FF A st G) :
  Calls Tryz.prog 179 #[.pointer (some ⟨p,0,none⟩)] w fun e w'=>e=.returned (.int .i64 (bS A))/\Goes FF w w' (fun O5=>I6 w' p O5 (aC A) st G):=by
 obtain ⟨⟨B,F,gr,cr,lo,S,vs,rfl,rfl,M,eF⟩,I⟩:=h;have k:=gQ M.cells;have h0:=M.h0;have I2:=Ti I
 by_cases hl:65536<A.hs.length
 ·have e1:bS A=0:=by unfold bS;rw [Δ hl]
  have e2:aC A=A:=by unfold aC;rw [Δ hl]
  rw [e1,e2] at k;rw [e1,e2];have HM:=χ M;have HI:=χ (ψ I eF);clear M I eF e1 e2 I2
  go_enter Tryz.func179,Tryz.ntmps179
  go_wp2_with ((go_at_call 156;(with_reducible refine (k).mono ?_));rintro e w1 ⟨rfl,F1,hC,hu,hF⟩)
  go_ret;refine ⟨rfl,B.blk F1 gr A.cs.length S vs,⟨⟨B,F1,gr,cr,lo,S,vs,rfl,rfl,HM.out.fH hu hC hF rfl rfl,HI.out.2⟩,HI.out.1⟩,hu.mono Jf,fun y hy=>?_⟩;simp only [BB.blk,ρ,τ] at hy ⊢;rcases hy with e|e|e|e|e|e|e
  ·exact Α (Α e)
  ·exact Α (Β (Α e))
  ·exact Α (Β (Β (Α e)))
  ·exact Α (Β (Β (Β (Α e))))
  ·rcases hF y e with h'|h'
   ·exact Α (Β (Β (Β (Β (Α h')))))
   ·exact Β h'
  ·exact Α (Β (Β (Β (Β (Β (Α e))))))
  ·exact Α (Β (Β (Β (Β (Β (Β e))))))
 ·have e1:bS A=A.hs.length:=by unfold bS;rw [Γ hl]
  rw [e1] at k;rw [e1];have hcs:(aC A).cs.length=A.cs.length:=by rw [IQ]
  have nG:(aC A).hs.length=A.hs.length+1:=by unfold aC;rw [Γ hl];simp
  have hh0:=M.cells.ok.h0;have hvl:vs.length<=65536:=by rw [M.len];omega
  have hlen:=M.len;have hpos:(0:Int)<(A.hs.length:Int):=ω;have HM:=χ M;have HI:=χ (ψ I2 (ψ eF (ψ (U7 I M.cells.ok) hlen)));clear M I e1 I2 eF hlen
  go_enter Tryz.func179,Tryz.ntmps179
  go_wp2_with (first
   | ((go_at_call 156;(with_reducible refine (k).mono ?_));rintro e w1 ⟨rfl,F1,hC,hu,hF⟩;(have d3:=hu.kept HM.out.h2 HM.out.d1.1);(have f3:=hu.aP HM.out.h2 HM.out.d1.1 (HM.out.head.free 2));(have ho1:=ay HM.out.rows hu (fun g hg=>by simp [Value.ownBlock] at hg;subst hg;exact HM.out.d1.2.2.2));(have g0:B.n0≠gr:=HM.out.d2.2.2.1);(have gl:=Ψ HM.out.FC hu.size))
   | ((at_builtin;refine aI rfl _ _ 51 rfl 0 26 (.slice none 0 0) 1 24 Tryz.underlying51 RP rfl δ _ _ _ rfl (ho1) [.slice none 0 0] rfl (by simp [Value.oneCell']) (by first|rfl|(rw [Κ];rfl)) μ ω ω ?_;intro v2 w2 ho2 hu2 lF);(have hu2:aa [gr] w1 w2:=hu2);obtain ⟨Dw,Yp,ev,_⟩:=dH ho2 ω;subst ev;(have d4:=hu2.kept d3 ζ);(have f4:=hu2.aP d3 ζ f3)))
  go_ret;have hM:=HM.out;have hlt:=hM.lt;have f:=hM.d1;have q:=hM.d2;have hws:=hu.size;have hw3:aa [B.n0] w2 (w2.setCell ⟨B.n0,2,none⟩ (.slice (some ⟨Dw,0,none⟩) (vs.length+1) Yp)):=β;have hg1:Dw=gr\/w1.heap.size<Dw:=by
   rcases lF with h|h
   ·exact Α (Option.some.inj h)
   ·exact Β (h Dw rfl)
  have jN:=hC.lt;have l0:=hlt B.n0 (by simp [BB.blk]);have l1:=hlt B.bt (by simp [BB.blk]);have l2:=hlt B.ba (by simp [BB.blk]);have l4:=hM.FC;have hnF:∀y,y<w.heap.size->y∉F->y∉F1:=fun y hy hn hm=>by rcases hF y hm with h'|h';exact hn h';omega
  have xB:Dw∉F1:=by
   rcases hg1 with e|e
   ·rw [e];exact hnF gr l4 f.2.2.2
   ·exact fun hm=>by have:=jN Dw hm;omega
  have hgn:∀y,y<w.heap.size->y≠gr->y≠Dw:=fun y hy hn e=>by
   rcases hg1 with e2|e2
   ·exact hn (e.trans e2)
   ·omega
  have hcs:=hcs;have hv:(vs++[Value.slice none 0 0]).length=vs.length+1:=σ;have hin:=HI.out.2.2.1;have hhd:=((hM.head.upd hu f.1).upd hu2 ζ).set 2 (.slice (some ⟨Dw,0,none⟩) (vs.length+1) Yp);have Rc:∀j,j<vs.length+1->∀g,((vs++[Value.slice none 0 0]).getD j undef).ownBlock=some g->j<vs.length/\(vs.getD j undef).ownBlock=some g:=fun j hj g hg=>by
   rw [AO] at hg
   by_cases e:j<vs.length
   ·rw [Δ e] at hg;exact ⟨e,hg⟩
   ·rw [Γ e,Δ ω] at hg;cases hg
  have Yh:iI (w2.setCell ⟨B.n0,2,none⟩ (.slice (some ⟨Dw,0,none⟩) (vs.length+1) Yp)) B F1 Dw Yp lo (aC A) st S (vs++[.slice none 0 0]) G.R:=by
   refine ⟨?_,?_,?_,?_,by rw [hv,nG,HI.out.2.2.2],fun j hj=>?_,⟨hnF _ l0 f.1,hnF _ l1 f.2.1,hnF _ l2 f.2.2.1,xB⟩,⟨q.1,q.2.1,hgn _ l0 q.2.2.1,hgn _ l1 q.2.2.2.1,hgn _ l2 q.2.2.2.2⟩,fun g hg=>?_,fun j g hj hg=>?_,fun j k g hj hk hne hg=>?_⟩
   ·rw [hv];refine hhd.ext (fun j hj=>?_);rcases (ω:j=0\/j=1\/j=2) with rfl|rfl|rfl<;>rfl
   ·exact (hC.upd hu2 (fun y hy=>by simp at hy;rw [hy];exact hnF gr l4 f.2.2.2)).upd hw3 (fun y hy=>by simp at hy;rw [hy];exact hnF _ l0 f.1)
   ·rw [hcs];exact ((hM.jM.upd hu f.2.1 f.2.2.1 (fun g hg=>(hM.d3 g hg).2.2)).upd hu2 (by simp;exact q.2.2.2.1) (by simp;exact q.2.2.2.2) (fun g hg hm=>by simp at hm;exact (hM.d3 g hg).2.1 hm)).upd hw3 (by simp;exact Ne.symm q.1) (by simp;exact Ne.symm q.2.1) (fun g hg hm=>by simp at hm;exact (hM.d3 g hg).1 hm)
   ·rw [hv];refine ay (jT ho2 (Nat.zero_le _)) hw3 (fun g hg hm=>?_);simp [Value.ownBlock] at hg hm;exact hgn _ l0 q.2.2.1 ω
   ·rw [hv] at hj;rw [AO]
    by_cases e:j<vs.length
    ·rw [Δ e];exact (((hM.each j e).upd hu (fun g hg=>(hM.d4 j g e hg).2.2.2.2.1)).upd hu2 (fun g hg hm=>by simp at hm;exact (hM.d4 j g e hg).2.2.2.1 hm)).upd hw3 (fun g hg hm=>by simp at hm;exact (hM.d4 j g e hg).1 hm)
    ·obtain rfl:j=vs.length:=ω;rw [Γ e,Δ rfl,HI.out.2.2.2,hin];exact aZ.nil _ _
   ·rw [hcs] at hg;have:=hM.d3 g hg;have hgl:=(hM.jM.mi hg).2;exact ⟨this.1,hgn g hgl this.2.1,hnF g hgl this.2.2⟩
   ·rw [hv] at hj;obtain ⟨e,hg⟩:=Rc j hj g hg;have:=hM.d4 j g e hg;have hgl:=hM.vN e hg;rw [hcs];exact ⟨this.1,this.2.1,this.2.2.1,hgn g hgl this.2.2.2.1,hnF g hgl this.2.2.2.2.1,this.2.2.2.2.2⟩
   ·rw [hv] at hj hk;obtain ⟨e,hg⟩:=Rc j hj g hg;intro h2;obtain ⟨e2,h2⟩:=Rc k hk g h2;exact hM.d5 j k g e e2 hne hg h2
  refine ⟨rfl,B.blk F1 Dw (aC A).cs.length S (vs++[.slice none 0 0]),⟨⟨B,F1,Dw,Yp,lo,S,_,rfl,rfl,Yh,HI.out.2.1⟩,HI.out.1⟩,((hu.mono Jf).trans (hu2.mono (fun y hy=>by simp at hy;subst hy;simp [BB.blk]))).trans (hw3.mono (fun y hy=>by simp at hy;subst hy;simp [BB.blk])),fun y hy=>?_⟩;rw [hcs] at hy;simp only [BB.blk,ρ,τ] at hy ⊢;rcases hy with e|e|e|e|e|e|e
  ·exact Α (Α e)
  ·exact Α (Β (Α e))
  ·exact Α (Β (Β (Α e)))
  ·rcases hg1 with e2|e2
   ·exact Α (Β (Β (Β (Α (e.trans e2)))))
   ·exact Β ω
  ·rcases hF y e with h'|h'
   ·exact Α (Β (Β (Β (Β (Α h')))))
   ·exact Β h'
  ·exact Α (Β (Β (Β (Β (Β (Α e))))))
  ·obtain ⟨j,hj,hg⟩:=iP.1 e;rw [hv] at hj;obtain ⟨e3,hg⟩:=Rc j hj y hg;exact Α (Β (Β (Β (Β (Β (Β (iP.2 ⟨j,e3,hg⟩)))))))
end
theorem Oc (n:Nat) (w:World) (h:n<=65536) :
  Calls Tryz.prog 94 #[.int .i64 (n:Int)] w fun e w'=>∃p FF,e=.returned (.tuple #[.pointer (some ⟨p,0,none⟩),.int .i64 0])/\I6 w' p FF (NS.new n) 0 BG.none/\aa [] w w'/\∀x,x∈FF->w.heap.size<=x:=by
 have k:=lV n w h;have kc:=fun W=>De n W h
 go_enter Tryz.func94,Tryz.ntmps94
 go_wp2_with (first
  | ((go_at_call 107;(with_reducible refine (k).mono ?_));rintro e w1 ⟨c,F,rfl,hC,hu1,hF⟩)
  | ((go_at_call 109;(with_reducible refine (kc _).mono ?_));rintro e w2 ⟨bt,ba,rfl,WW,hu2,hbt,xA⟩))
 go_ret2;have hn:(NS.new n).cs.length=n:=by simp [NS.new]
 obtain ⟨w3,hw3⟩:∃w3,w3=w2.alloc (.cells #[.slice none 0 0] 26):=⟨_,rfl⟩;have hs3:w3.heap.size=w2.heap.size+1:=by rw [hw3];simp
 have u3:aa [] w2 w3:=by rw [hw3];exact (aa.refl _ _).alloc _
 have o3:w3.ownsRow 0 26 1 (.slice (some ⟨w2.heap.size,0,none⟩) 1 1) 1 [.slice none 0 0]:=by rw [hw3];exact mU w2 [.slice none 0 0] 26 0 1 1 rfl (Nat.zero_le _) μ
 rw [←hw3];have hR:=dC w3 [Value.pointer (some ⟨c,0,none⟩),.pointer (some ⟨bt,0,none⟩),.slice (some ⟨w2.heap.size,0,none⟩) 1 1] 212;rw [hs3] at hR;have u4:aa [] w3 (w3.alloc (.cells #[.pointer (some ⟨c,0,none⟩),.pointer (some ⟨bt,0,none⟩),.slice (some ⟨w2.heap.size,0,none⟩) 1 1] 212)):=(aa.refl _ _).alloc _;have z1:=hu1.size;have z2:=hu2.size;have Nb:=hC.lt;have hb1:=WW.head.lt;have hb2:=WW.row.lt;have hFn:∀y,w1.heap.size<=y->y∉F:=fun y hy hm=>by have:=Nb y hm;omega
 have hno:∀m g,g∉CS.none.blk m:=fun m g hg=>by
  obtain ⟨y,_,e⟩:=(CS.lJ _ m g).1 hg;cases e
 have hv0:∀h,h < [Value.slice none 0 0].length->[Value.slice none 0 0].getD h undef=Value.slice none 0 0:=fun h hh=>by
  have:h=0:=by simp at hh;omega
  subst this;rfl
 have Yh:iI (w3.alloc (.cells #[.pointer (some ⟨c,0,none⟩),.pointer (some ⟨bt,0,none⟩),.slice (some ⟨w2.heap.size,0,none⟩) 1 1] 212)) ⟨w2.heap.size+1,c,bt,ba⟩ F w2.heap.size 1 w2.heap.size (NS.new n) 0 CS.none [.slice none 0 0] BG.none.R:=by
  refine ⟨hR,hC.ae (hu2.trans (u3.trans u4)),by rw [hn];exact WW.ae (u3.trans u4),ay o3 u4 σ,rfl,fun h hh=>by rw [hv0 h hh];exact aZ.nil _ _,⟨hFn _ (by simp only;omega),hFn _ (by simp only;omega),hFn _ (by simp only;omega),hFn _ ω⟩,⟨?_,?_,?_,?_,?_⟩,fun g hg=>absurd hg (hno _ g),fun h g hh hg=>(by rw [hv0 h hh] at hg;cases hg),fun h k g hh hk _ hg=>(by rw [hv0 h hh] at hg;cases hg)⟩
  all_goals simp only;omega
 refine ⟨w2.heap.size+1,_,by simp [hs3],⟨⟨⟨w2.heap.size+1,c,bt,ba⟩,F,w2.heap.size,1,w2.heap.size,CS.none,[.slice none 0 0],rfl,rfl,Yh,rfl⟩,VU n⟩,hu1.trans (hu2.trans (u3.trans u4)),fun y hy=>?_⟩;simp only [BB.blk,ρ,τ] at hy;rcases hy with e|e|e|e|e|e|e
 ·omega
 ·omega
 ·omega
 ·omega
 ·exact hF y e
 ·exact absurd e (hno _ y)
 ·obtain ⟨j,hj,hg⟩:=iP.1 e;rw [hv0 j hj] at hg;cases hg
theorem Ei (p c:Nat):∀W:World,W.cell? ⟨p,0,none⟩=some (.pointer (some ⟨c,0,none⟩))->(method 429 174 (.pointer (some ⟨p,0,none⟩)) "Has").run Tryz.prog W=.ok (139,.pointer (some ⟨c,0,none⟩)) W:=(by intro W h;unfold method;have hm:∃m,(Array.find? (fun x=>x.name == "Has") Tryz.t174.methods)=some m/\m.path.toList=[⟨212,0,true⟩]/\m.func=some (139,true)/\m.path.isEmpty=false:=⟨(Array.find? (fun x=>x.name == "Has") Tryz.t174.methods).get!,by kernel_rfl,by kernel_rfl,by kernel_rfl,by kernel_rfl⟩;obtain ⟨m,h1,h2,h3,h4⟩:=hm;go_simp;simp only [follow,Place.get];go_simp;(try unfold receiverAt);(try simp only [Place.get]);(try go_simp))
theorem zM (p c:Nat):∀W:World,W.cell? ⟨p,0,none⟩=some (.pointer (some ⟨c,0,none⟩))->(method 429 174 (.pointer (some ⟨p,0,none⟩)) "Entry").run Tryz.prog W=.ok (137,.pointer (some ⟨c,0,none⟩)) W:=(by intro W h;unfold method;have hm:∃m,(Array.find? (fun x=>x.name == "Entry") Tryz.t174.methods)=some m/\m.path.toList=[⟨212,0,true⟩]/\m.func=some (137,true)/\m.path.isEmpty=false:=⟨(Array.find? (fun x=>x.name == "Entry") Tryz.t174.methods).get!,by kernel_rfl,by kernel_rfl,by kernel_rfl,by kernel_rfl⟩;obtain ⟨m,h1,h2,h3,h4⟩:=hm;go_simp;simp only [follow,Place.get];go_simp;(try unfold receiverAt);(try simp only [Place.get]);(try go_simp))
theorem Px (p:Nat):∀W:World,(method 429 174 (.pointer (some ⟨p,0,none⟩)) "Make").run Tryz.prog W=.ok (179,.pointer (some ⟨p,0,none⟩)) W:=fun _=>by kernel_rfl
theorem G6 (p:Nat):∀W:World,(method 429 174 (.pointer (some ⟨p,0,none⟩)) "Insert").run Tryz.prog W=.ok (178,.pointer (some ⟨p,0,none⟩)) W:=fun _=>by kernel_rfl
theorem RO (p:Nat):∀W:World,(method 429 174 (.pointer (some ⟨p,0,none⟩)) "Min").run Tryz.prog W=.ok (181,.pointer (some ⟨p,0,none⟩)) W:=fun _=>by kernel_rfl
theorem DN (p:Nat):∀W:World,(method 429 174 (.pointer (some ⟨p,0,none⟩)) "Extract").run Tryz.prog W=.ok (177,.pointer (some ⟨p,0,none⟩)) W:=fun _=>by kernel_rfl
theorem y8 {w w':World} {p:Nat} {F S:List Nat} {A:NS} {st:Nat} {G:BG} (h:I6 w p F A st G) (hu:aa S w w') (hS:∀x,x∈S->x∉F):I6 w' p F A st G:=by
 obtain ⟨⟨B,F1,gr,cr,lo,S1,vs,rfl,rfl,M,eF⟩,I⟩:=h;exact ⟨⟨B,F1,gr,cr,lo,S1,vs,rfl,rfl,M.upd hu hS,eF⟩,I⟩
theorem XX {w:World} {p:Nat} {F:List Nat} {A:NS} {st:Nat} {G:BG} (h:I6 w p F A st G):∀x,x∈F->x<w.heap.size:=by
 obtain ⟨⟨B,F1,gr,cr,lo,S1,vs,rfl,rfl,M,eF⟩,I⟩:=h;exact M.lt
theorem XU {w:World} {p:Nat} {F:List Nat} {A:NS} {st:Nat} {G:BG} (h:I6 w p F A st G):A.Ok:=by
 obtain ⟨⟨B,F1,gr,cr,lo,S1,vs,rfl,rfl,M,eF⟩,I⟩:=h;exact M.cells.ok
theorem Uk {w:World} {p:Nat} {F:List Nat} {A:NS} {st:Nat} {G:BG} (h:I6 w p F A st G):∃c F1,w.cell? ⟨p,0,none⟩=some (.pointer (some ⟨c,0,none⟩))/\aD w c F1 A st:=by
 obtain ⟨⟨B,F1,gr,cr,lo,S1,vs,rfl,rfl,M,eF⟩,I⟩:=h;exact ⟨B.c,F1,M.h0,M.cells⟩
def BnQ (w:World) (p:Nat) (F:List Nat) (A:NS):Prop:=∃st G,I6 w p F A st G
noncomputable def xm:dV where
 ty:=174
 at_:=BnQ
 upd:=fun h hu hS=>by
  obtain ⟨st,G,hL⟩:=h;exact ⟨st,G,y8 hL hu hS⟩
 lt:=fun h=>by
  obtain ⟨st,G,hL⟩:=h;exact XX hL
 ok:=fun h=>by
  obtain ⟨st,G,hL⟩:=h;exact XU hL
 make:=fun {w p F A} h=>by
  obtain ⟨st,G,hL⟩:=h;refine aX 179 (fun _ _=>by kernel_rfl) (Px _) (fun W hW=>?_);refine (Mf (y8 hL hW σ)).mono ?_;rintro e w' ⟨rfl,F',hA,hu,hf⟩;exact ⟨rfl,F',⟨_,_,hA⟩,hu,hf⟩
 insert:=fun {w p F A} g y k s hk hB h=>by
  obtain ⟨st,G,hL⟩:=h;refine aX 178 (fun _ _=>by kernel_rfl) (G6 _) (fun W hW=>?_);refine (EJ (y8 hL hW σ) g y k s hk hB).mono ?_;rintro e w' ⟨rfl,F',hA,hu,hf⟩;exact ⟨rfl,F',⟨_,_,hA⟩,hu,hf⟩
 min:=fun {w p F A} y hB h=>by
  obtain ⟨st,G,hL⟩:=h;refine aX 181 (fun _ _=>by kernel_rfl) (RO _) (fun W hW=>?_);have pg:=y8 hL hW σ;obtain ⟨⟨B,F1,gr,cr,lo,S1,vs,rfl,rfl,M,eF⟩,I⟩:=pg;refine (DR M I (y:Int)).mono ?_;rintro e w' ⟨rfl,hM2,hu⟩;exact ⟨rfl,Goes.stay ⟨_,_,⟨B,F1,gr,cr,lo,S1,vs,rfl,rfl,hM2,eF⟩,I⟩ (hu.mono (fun y hy=>by simp at hy;subst hy;exact Jf _ M.cells.mem))⟩
 extract:=fun {w p F A} y m hm h=>by
  obtain ⟨st,G,hL⟩:=h;refine aX 177 (fun _ _=>by kernel_rfl) (DN _) (fun W hW=>?_);have pg:=y8 hL hW σ;have e2:rZ A (y:Int)=aN A (m:Int):=by unfold rZ;rw [hm]
  have k:=Dm pg (y:Int);rw [e2,hm] at k;refine k.mono ?_;rintro e w' ⟨rfl,F',hA,hu,hf⟩;exact ⟨rfl,F',⟨_,_,hA⟩,hu,hf⟩
 has:=fun x h=>by
  obtain ⟨st,G,hL⟩:=h;obtain ⟨c,F1,h0,hC⟩:=Uk hL;exact gN 139 (fun _ _=>by kernel_rfl) h0 (Ei _ _) (fun W hW=>iw (hC.ae hW) x)
 entry:=fun {w p F A} x h=>by
  obtain ⟨st,G,hL⟩:=h;obtain ⟨c,F1,h0,hC⟩:=Uk hL;refine gN 137 (fun _ _=>by kernel_rfl) h0 (zM _ _) (fun W hW=>?_);cases hin:bV A x with
  | false=>simpa using jR (hC.ae hW) x hin
  | true=>
   obtain ⟨y,rfl⟩:=oZ hin;simpa using iY (hC.ae hW) y hin
theorem Gp (p:Nat) (w:World):Calls Tryz.prog 93 #[.pointer (some ⟨p,0,none⟩),.int .i64 0] w fun e w'=>e=.returned (.tuple #[.iface 174 (.pointer (some ⟨p,0,none⟩)),.int .i64 0])/\w'=w:=by
 go_enter Tryz.func93,Tryz.ntmps93
 go_wp2;go_ret2;exact ⟨rfl,rfl⟩
theorem Ov (n:Nat) (hn:n<=65536):lG xm 3 0 n:=by
 intro w;have kn:=fun W=>Oc n W hn;have km:=Gp;have hty:xm.ty=174:=rfl;have hat:∀w' p FF,I6 w' p FF (NS.new n) 0 BG.none->xm.at_ w' p FF (NS.new n):=fun w' p FF h=>⟨_,_,h⟩
 generalize xm=K at *;rw [hty]
 go_enter Tryz.func81,Tryz.ntmps81
 go_wp2_with (first
  | ((go_at_call 94;(with_reducible refine (kn _).mono ?_));rintro e w1 ⟨pn,FF,rfl,hS,hu1,hf⟩)
  | ((go_at_call 93;(with_reducible refine (km _ _).mono ?_));rintro e w2 ⟨rfl,rfl⟩)
  | fail)
 go_ret2;exact ⟨pn,FF,rfl,hat _ _ _ hS,aa.trans β hu1,fun x hx=>by have:=hf x hx;simp at this;omega⟩
end Go.Proofs.YtklibcncmbofpaaGreat
