/-
  Lemmas for RankSorts: Bn3, Bn4, Bn5. Conditions: those of each lemma.
-/
import Derived.Test.YtklibcncmbofpaaGreatP09
import Derived.Test.YtklibcncmbofpaaGreatP32
set_option maxHeartbeats 8000000
set_option maxRecDepth 10000
set_option linter.unusedVariables false
set_option linter.unusedSimpArgs false
namespace Go.Proofs.YtklibcncmbofpaaGreat
open Go Go.RowKit
def PH (w:World) (p:Nat) (FF:List Nat) (A:NS) (st:Nat) (G:BG):Prop:=∃B F gr cr lo S vs,p=B.n0∧FF=B.blk F gr A.cs.length S vs∧fV w B F gr cr lo A st S vs G.R∧S.f=G.F
theorem Lj {l:List Int} {x:Int} (hn:l.Nodup) (hx:x∈l):∃l1 l2,l=l1++x::l2∧x∉l1∧x∉l2∧l.filter (fun z=>z != x)=l1++l2:=by
 obtain ⟨l1,l2,rfl⟩:=List.append_of_mem hx;rw [List.nodup_append,List.nodup_cons] at hn;have h1:x∉l1:=fun h=>hn.2.2 x h x σ rfl
 have h2:x∉l2:=hn.2.1.1;refine ⟨l1,l2,rfl,h1,h2,?_⟩;have f:∀l:List Int,x∉l→l.filter (fun z=>z != x)=l:=fun l hl=>by
  rw [List.filter_eq_self];intro a ha;simp;intro e;subst e;exact hl ha
 rw [List.filter_append,List.filter_cons_of_neg σ,f l1 h1,f l2 h2]
section
variable {w:World} {B:BB} {F:List Nat} {gr cr lo:Nat} {A:NS} {st:Nat} {S:CS} {vs:List Value} {G:BG}
theorem I6 (M:fV w B F gr cr lo A st S vs G.R) (eF:S.f=G.F) {x h:Nat} (X:Bd A G x) (hx:x<A.cs.length) (hr:G.F.u x=-1) (hin:0<(A.c x).i) (hh:(A.c x).i=h) (hq:h<vs.length) :
  Calls Tryz.prog 185 #[.pointer (some ⟨B.n0,0,none⟩),.int .i64 (h:Int),.int .i64 (x:Int)] w fun e w'=>e=.returned (.bool true)∧
   Goes (B.blk F gr A.cs.length S vs) w w' (fun FF=>PH w' B.n0 FF (aL A x) (bC st (uV A h x G)) (oz A h x G)):=by
 have ok:=M.cells.ok;obtain ⟨T1,T2,mx,t1,t2,t3,t4,t5⟩:=Gc X ok hx hr hin hh;have nd:=(X.rh.row h).nodup;obtain ⟨l1,l2,eR,n1,n2,eL⟩:=Lj nd mx;have hrl:(G.R h).length≤65536:=Nat.le_trans (oO A.cs.length _ nd (fun z hz=>⟨((X.rh.row h).1 z hz).1,((X.rh.row h).1 z hz).2.1⟩)) ok.c1
 obtain ⟨w0,hw0⟩:∃w0,w0=w.alloc (.cells #[.int .i64 (x:Int)] 3):=⟨_,rfl⟩
 have hs0:w.heap.size<w0.heap.size:=by rw [hw0];simp
 have u0:aa [] w w0:=by rw [hw0];exact (aa.refl _ _).alloc _
 have hb0:w0.cell? ⟨w.heap.size,0,none⟩=some (.int .i64 (x:Int)):=by rw [hw0];simp
 have hlt:=M.lt;have hbx:∀g,(vs.getD h undef).ownBlock=some g→g≠w.heap.size:=fun g hg e=>by have:=M.uL hq hg;omega
 have kd:=fun W (hW:aa [] w0 W)=>JF W w.heap.size 0 (vs.getD h undef) l1 l2 x (by rw [←eR];exact (M.each h hq).upd (u0.trans hW) σ) n1 n2 (hW.was hb0) (fun e=>hbx _ e rfl) (by rw [←eR];omega)
 obtain ⟨a,cap,hv,_⟩:=M.shape hq;have h2:=M.h2;have d:=M.MQ hq;rw [hv] at d;have df:=M.Pb h;have n0:B.n0∉(vs.getD h undef).ownBlock.toList:=fun hm=>(M.d4 h _ hq (by simpa using hm)).1 rfl
 have ng:gr∉(vs.getD h undef).ownBlock.toList:=fun hm=>(M.d4 h _ hq (by simpa using hm)).2.2.2.1 rfl
 have nb:w.heap.size∉(vs.getD h undef).ownBlock.toList:=fun hm=>hbx _ (by simpa using hm) rfl
 have r2:∀W,aa (vs.getD h undef).ownBlock.toList w0 W→W.cell? ⟨B.n0,2,none⟩=some (.slice (some ⟨gr,0,none⟩) vs.length cr):=fun W hW=>hW.kept (u0.was h2) n0
 have r3:∀W,aa (vs.getD h undef).ownBlock.toList w0 W→W.cell? ⟨gr,h,none⟩=some (.slice a (G.R h).length cap)∧W.frozen? ⟨gr,h,none⟩=false:=fun W hW=>⟨hW.kept (u0.was d) ng,hW.aO (u0.was d) ng (u0.aO d σ df)⟩
 have r4:∀W,aa (vs.getD h undef).ownBlock.toList w0 W→W.cell? ⟨w.heap.size,0,none⟩=some (.int .i64 (x:Int)):=fun W hW=>hW.kept hb0 nb
 have hib1:(0:Int)≤(h:Int):=ω;have hib2:(h:Int)<(vs.length:Int):=ω;have hgl:=M.C8;have hn0l:=hlt B.n0 (by simp [BB.blk])
 have HM:=χ M;have HX:=χ (ψ T1 (ψ t1 (ψ t2 (ψ t3 (ψ t4 (ψ t5 (ψ eL (ψ eF X))))))));have hvl2:=M.OD;rw [hv] at kd r2 r3 r4;clear M X T1 T2 mx t1 t2 t3 t4 t5 nd eL hbx ok h2 d df n0 ng nb n1 n2 eF hlt;have HV:=χ hv;clear eR hrl;generalize (G.R h).length=rl at *
 go_enter Tryz.func185,Tryz.ntmps185
 go_wp2;rw [←hw0];clear hw0 hb0
 go_cut [20] (fun s20 wx=>∃v1,fV wx B F gr cr lo A st S (vs.set h v1) (bJ G.R h (l1++l2))∧wx.cell? ⟨w.heap.size,0,none⟩=some (.int .i64 (x:Int))∧aa (gr::(Value.slice a rl cap).ownBlock.toList) w wx∧v1.ownBlock=(Value.slice a rl cap).ownBlock)
 case first=>
  have p2:=r2 _ (aa.refl _ _);obtain ⟨p3,p4⟩:=r3 _ (aa.refl _ _)
  go_region_law
   (first
    | (go_simp;go_at_call 191;(with_reducible refine (kd _ β).mono ?_);rintro e w1 ⟨v1,rfl,hO1,hb1,hu1a,a1,n1,c1,rfl⟩;(have hu1:aa (Value.slice a rl cap).ownBlock.toList w0 w1:=aa.trans β hu1a);(have q2:=r2 _ hu1);obtain ⟨q3,q4⟩:=r3 _ hu1;(have q5:=r4 _ hu1)))
  all_goals
   go_wp2
   go_meet
   have hu2:aa (Value.slice a rl cap).ownBlock.toList w w1:=(u0.mono σ).trans hu1;exact ⟨_,HM.out.Pk h hq (by rw [hv];exact hu2) _ _ hO1 (by rw [hv];exact hb1),γ,(hu2.mono (by simp +contextual)).setCell (Or.inl σ) _,hb1⟩
 case rest=>
  obtain ⟨v1,hM2,hb2,hu2,ho2⟩:=hcut;obtain ⟨T1,t1,t2,t3,t4,t5,eL,eF,X⟩:=HX.out;have hvs2:(vs.set h v1).length=vs.length:=List.length_set;have hfs:l8 A.cs.length S.f:=by rw [eF];exact X.fh.f
  have hSk:S.k x=G.F.k x:=by rw [←eF];rfl
  have ksp:=fun W (hW:aa [] wc W)=>Iq B.bt B.ba lo A.cs.length S x W (hM2.gM.aj hW) hx (by unfold lY;rw [decide_eq_true ω];have e:S.u x=-1:=(by rw [←hr,←eF];rfl);simp [e]) (fun k hk=>by have:=hfs.tH x hx k hk;omega)
  have h1:=hM2.h1;have hl2:=hM2.lt;have hbn:w.heap.size∉B.c::B.ba::gr::S.blk A.cs.length:=fun hm=>by
   have hl:=HM.out.lt;simp only [List.mem_cons] at hm;rcases hm with e|e|e|e
   ·have:=HM.out.cells.lt B.c HM.out.cells.mem;omega
   ·have:=hl B.ba (by simp [BB.blk]);omega
   ·omega
   ·have:=(HM.out.gM.lD e).2;omega
  have hn0:B.n0∉B.c::B.ba::gr::S.blk A.cs.length:=fun hm=>by
   have hcn:=HM.out.cn;simp only [List.mem_cons] at hm;rcases hm with e|e|e|e
   ·exact hcn.1 e
   ·exact HM.out.d2.2.1 e
   ·exact HM.out.d2.2.2.1 e
   ·exact (HM.out.d3 _ e).1 rfl
  have r1:∀W,aa (B.c::B.ba::gr::S.blk A.cs.length) wc W→W.cell? ⟨B.n0,1,none⟩=some (.pointer (some ⟨B.bt,0,none⟩)):=fun W hW=>hW.kept h1 hn0
  have r0:∀W,aa (B.c::B.ba::gr::S.blk A.cs.length) wc W→W.cell? ⟨w.heap.size,0,none⟩=some (.int .i64 (x:Int)):=fun W hW=>hW.kept hb2 hbn
  have ka:=fun (W:World) (vl:Value) (hM:fV W B F gr cr lo A st (fq S x) (vs.set h v1) (bJ G.R h (l1++l2))) (hvl:fI W (B.c::B.ba::(fq S x).blk A.cs.length) vl (G.F.k x))=>CK hM (by rw [vL,eF];exact X.fh.f.Lb hx hr) h (by rw [hvs2];exact hq) hvl (by rw [vL,eF,show bJ G.R h (l1++l2) h=l1++l2 by simp [bJ],←eL];exact t1) (by rw [vL,eF];exact t2) (fun z hz=>by rw [show bJ G.R h (l1++l2) h=l1++l2 by simp [bJ],←eL] at hz;exact t3 z hz) (fun z hz=>by rw [show bJ G.R h (l1++l2) h=l1++l2 by simp [bJ],←eL] at hz;exact t5 z (by rcases hz with hz|hz;exact Or.inl (List.mem_filter.1 hz).1;exact Or.inr hz))
  have HM2:=χ hM2;have HB:=χ (show ∀W:World,aa [B.ba] wc W→aM W B.bt B.ba lo A.cs.length (fq S x)→fV W B F gr cr lo A st (fq S x) (vs.set h v1) (bJ G.R h (l1++l2)) from fun W hu hF=>HM2.out.iE (hu.mono σ) (HM2.out.cells.upd hu (fun y hy hm=>by simp at hy;subst hy;exact HM2.out.d1.2.2.1 hm)) hF (fun g hg=>Or.inl (nN S x _ g hg)))
  have HSUB:=χ (show ∀y,y∈B.c::B.ba::gr::(fq S x).blk A.cs.length→y∈B.c::B.ba::gr::S.blk A.cs.length from fun y hy=>by
   simp only [List.mem_cons] at hy ⊢;rcases hy with e|e|e|e
   ·exact Or.inl e
   ·exact Or.inr (Or.inl e)
   ·exact Or.inr (Or.inr (Or.inl e))
   ·exact Or.inr (Or.inr (Or.inr (nN S x _ y e))))
  have HLT:=χ (show ∀y,y∈B.c::B.ba::(fq S x).blk A.cs.length→y<wc.heap.size from fun y hy=>by
   simp only [List.mem_cons] at hy;rcases hy with e|e|e
   ·subst e;exact hM2.cells.lt _ hM2.cells.mem
   ·subst e;exact hM2.gM.row.lt
   ·exact (hM2.gM.lD (nN S x _ y e)).2)
  clear hM2 T1 t1 t2 t3 t4 t5 eL hfs X h1 hb2 eF;rw [hSk] at ksp;go_wp2
  go_region_held3 (aa (B.c::B.ba::gr::S.blk A.cs.length) wc) (repeat (first|assumption|exact aa.refl _ _|refine aa.drew ?_|refine aa.alloc ?_ _|refine aa.setCell ?_ ?_ _|focus (left;simp;done)|focus (right;simp;done)|focus (right;simp;omega)|(apply aa.trans;rotate_left;assumption)))
   (first
    | ((go_at_call 193;(with_reducible refine (ksp _ β).mono ?_));rintro e w3 ⟨v3,rfl,hL3,hF3,hu3⟩;(have hu3a:aa [B.ba] wc w3:=aa.trans β hu3);(have hu3b:aa (B.c::B.ba::gr::S.blk A.cs.length) wc w3:=hu3a.mono σ);(have hM3:=HB.out _ hu3a hF3);obtain ⟨a3,c3,hv3,hl3,hc3⟩:=(show ∃a c,v3=.slice a (G.F.k x).length c∧True∧True from (by obtain ⟨a,c,e,_⟩:=hL3.open;exact ⟨a,c,e,trivial,trivial⟩));subst hv3;(have ka3:=fun W (hW:aa [] w3 W)=>ka W _ (hM3.aj hW) (fI.upd (fI.Ov (F:=B.c::B.ba::(fq S x).blk A.cs.length) hL3 (fun g hg=>Nat.lt_of_lt_of_le (HLT.out g hg) (aa.size (S:=[]) (w:=wc) β))) hW σ)))
    | ((go_at_call 186;(with_reducible refine (ka3 _ β).mono ?_));rintro e w4 ⟨S4,vo,rfl,hS4,hM4,hu4,hb4,hx4⟩;(have hu4b:aa (B.c::B.ba::gr::S.blk A.cs.length) wc w4:=aa.trans (by (repeat (first|assumption|exact aa.refl _ _|refine aa.drew ?_|refine aa.alloc ?_ _|refine aa.setCell ?_ ?_ _|focus (left;simp;done)|focus (right;simp;done)|focus (right;simp;omega)|(apply aa.trans;rotate_left;assumption)))) (hu4.mono HSUB.out))))
  have h04:=hM4.h0;have hnF:=HM.out.d1.1;have hbF:w.heap.size∉F:=fun hm=>by have:=HM.out.cells.lt _ hm;omega
  have r5:∀W,aa F w4 W→W.cell? ⟨B.n0,0,none⟩=some (.pointer (some ⟨B.c,0,none⟩)):=fun W hW=>hW.kept h04 hnF
  have r6:∀W,aa F w4 W→W.cell? ⟨w.heap.size,0,none⟩=some (.int .i64 (x:Int)):=fun W hW=>hW.kept (r0 _ hu4b) hbF
  have kdr:=fun W (hW:aa [] w4 W)=>fw (hM4.cells.aj hW) x ((af _ _).2 ⟨hx,hin⟩)
  have HM4:=χ hM4;clear hM4 h04 r0 r1 ka ksp ka3 hM3 hL3 hF3;go_wp2
  go_region_held3 (aa F w4) (repeat (first|assumption|exact aa.refl _ _|refine aa.drew ?_|refine aa.alloc ?_ _|refine aa.setCell ?_ ?_ _|focus (left;simp;done)|focus (right;simp;done)|focus (right;simp;omega)|(apply aa.trans;rotate_left;assumption)))
   (first
    | ((go_at_call 151;(with_reducible refine (kdr _ β).mono ?_));rintro e w5 ⟨rfl,hC5,hu5⟩;(have hu5b:aa F w4 w5:=aa.trans (by (repeat (first|assumption|exact aa.refl _ _|refine aa.drew ?_|refine aa.alloc ?_ _|refine aa.setCell ?_ ?_ _|focus (left;simp;done)|focus (right;simp;done)|focus (right;simp;omega)|(apply aa.trans;rotate_left;assumption)))) hu5)))
  go_wp2;go_ret;obtain ⟨T1,t1,t2,t3,t4,t5,eL,eF,X⟩:=HX.out;have dl:=dw A (x:Int);have dh:=fA A (x:Int);have hM5:=HM4.out.bI hu5b hC5 (fun y hy=>Or.inl hy) dl (by rw [dh])
  have eR1:bJ G.R h (l1++l2) h=l1++l2:=by simp [bJ]
  have eT:(fF G h x).R=bJ G.R h (l1++l2):=by unfold fF;rw [eL]
  have eTF:(fF G h x).F=(fq S x).f:=by rw [vL,eF];rfl
  have e1:(oz A h x G).R=bJ (bJ G.R h (l1++l2)) h (iY (bF A) A.cs.length (fq S x).f (bJ G.R h (l1++l2) h) (G.F.k x)).O:=by unfold oz vg;rw [eT,eTF]
  have e2:(oz A h x G).F=S4.f:=by rw [hS4];unfold oz vg;rw [eT,eTF]
  have e3:uV A h x G=(iY (bF A) A.cs.length (fq S x).f (bJ G.R h (l1++l2) h) (G.F.k x)).q:=by unfold uV;rw [eT,eTF]
  have uw:aa (B.blk F gr A.cs.length S vs) w w5:=by
   have m1:∀y,y∈gr::(Value.slice a rl cap).ownBlock.toList→y∈B.blk F gr A.cs.length S vs:=fun y hy=>by
    simp only [BB.blk,List.mem_cons,List.mem_append] at hy ⊢;rcases hy with e|e
    ·exact Or.inr (Or.inr (Or.inr (Or.inl e)))
    ·exact Or.inr (Or.inr (Or.inr (Or.inr (Or.inr (Or.inr (gV.2 ⟨h,hq,by rw [HV.out];simpa using e⟩))))))
   have m2:∀y,y∈B.c::B.ba::gr::S.blk A.cs.length→y∈B.blk F gr A.cs.length S vs:=fun y hy=>by
    simp only [BB.blk,List.mem_cons,List.mem_append] at hy ⊢;rcases hy with e|e|e|e
    ·exact Or.inr (Or.inr (Or.inr (Or.inr (Or.inl (by rw [e];exact HM.out.cells.mem)))))
    ·exact Or.inr (Or.inr (Or.inl e))
    ·exact Or.inr (Or.inr (Or.inr (Or.inl e)))
    ·exact Or.inr (Or.inr (Or.inr (Or.inr (Or.inr (Or.inl e)))))
   have m3:∀y,y∈F→y∈B.blk F gr A.cs.length S vs:=fun y hy=>by simp [BB.blk,hy]
   exact ((hu2.mono m1).trans (hu4b.mono m2)).trans (hu5b.mono m3)
  refine ⟨rfl,B.blk F gr (aL A x).cs.length S4 ((vs.set h v1).set h vo),⟨B,F,gr,cr,lo,S4,(vs.set h v1).set h vo,rfl,rfl,by rw [e1,e3];exact hM5,e2.symm⟩,uw,fun y hy=>?_⟩
  have hsz:=hu2.size;rw [dl] at hy;simp only [BB.blk,List.mem_cons,List.mem_append] at hy ⊢;rcases hy with e|e|e|e|e|e|e
  ·exact Or.inl (Or.inl e)
  ·exact Or.inl (Or.inr (Or.inl e))
  ·exact Or.inl (Or.inr (Or.inr (Or.inl e)))
  ·exact Or.inl (Or.inr (Or.inr (Or.inr (Or.inl e))))
  ·exact Or.inl (Or.inr (Or.inr (Or.inr (Or.inr (Or.inl e)))))
  ·rcases hb4 y e with h'|h'
   ·exact Or.inl (Or.inr (Or.inr (Or.inr (Or.inr (Or.inr (Or.inl (nN S x _ y h')))))))
   ·right;have:=hu3b.size;omega
  ·obtain ⟨k,hk,hk2⟩:=gV.1 e;rw [List.length_set,List.length_set] at hk;rw [qa,qa] at hk2
   by_cases ek:k=h
   ·rw [if_pos ⟨ek,by rw [List.length_set];exact hq⟩] at hk2
    right;have:=hx4 y hk2;have:=hu3b.size;omega
   ·rw [if_neg (fun h=>ek h.1),if_neg (fun h=>ek h.1)] at hk2
    exact Or.inl (Or.inr (Or.inr (Or.inr (Or.inr (Or.inr (Or.inr (gV.2 ⟨k,hk,hk2⟩)))))))
end
section
variable {w:World} {B:BB} {F:List Nat} {gr cr lo:Nat} {A:NS} {st:Nat} {S:CS} {vs:List Value} {G:BG} {R:Nat→List Int}
theorem fV.setSt {w':World} {st':Nat} (h:fV w B F gr cr lo A st S vs R) (hu:aa [B.c] w w') (hC:az w' B.c F A st'):fV w' B F gr cr lo A st' S vs R:=
 h.bI (hu.mono (fun x hx=>by simp at hx;subst hx;exact h.cells.mem)) hC (fun x hx=>Or.inl hx) rfl rfl
def z8 (A:NS) (G:BG) (h:Int):Nat:=if aY A h then (G.R h.toNat).length-1 else 0
theorem BC (M:fV w B F gr cr lo A st S vs G.R) (I:zA A G) (h:Int) :
  Calls Tryz.prog 181 #[.pointer (some ⟨B.n0,0,none⟩),.int .i64 h] w fun e w'=>e=.returned (.tuple #[.int .i64 (oD (bL A h)),.bool (bL A h).isSome])∧fV w' B F gr cr lo A (bC st (z8 A G h)) S vs G.R∧aa [B.c] w w':=by
 have hst:=M.cells.mE;cases hh:aY A h with
 | false=>
  have e:bL A h=none:=by
   by_cases h1:0<h
   ·exact (iB h1).2 (IA M.cells.ok hh)
   ·exact mX h1
  have e2:z8 A G h=0:=by unfold z8;rw [hh];rfl
  rw [e,e2,dW hst];have kr:=Nk M h hh;have HM:=χ M;clear M I hh e e2
  go_enter Tryz.func181,Tryz.ntmps181
  go_wp2_with ((go_at_call 187;(with_reducible refine (kr).mono ?_);rintro e w9 ⟨rfl,hw9⟩;rw [hw9];clear hw9 w9))
  go_ret2;exact ⟨rfl,HM.out,aa.refl _ _⟩
 | true=>
  obtain ⟨q,rfl,hq1,hq⟩:=M.hq hh;have e2:z8 A G (q:Int)=(G.R q).length-1:=by unfold z8;rw [hh];simp
  obtain ⟨a,cap,hv,hl1,hl2⟩:=M.shape hq;have kr:=JD M q hh hv;have hsl:fI w [B.c] (vs.getD q undef) (G.R q):=(M.each q hq).sl (fun g hg hm=>by simp at hm;subst hm;exact (M.d4 q _ hq hg).2.2.2.2.1 M.cells.mem)
  rw [hv] at hsl;rw [e2];cases hR:G.R q with
  | nil=>
   rw [Fh I hq1 hR];rw [hR] at kr hsl;simp only [List.length_nil] at kr ⊢;rw [dW hst];have HM:=χ M;clear M I hh hR e2 hv hsl
   go_enter Tryz.func181,Tryz.ntmps181
   go_wp2_with ((go_at_call 187;(with_reducible refine (kr).mono ?_);rintro e w9 ⟨rfl,hw9⟩;rw [hw9];clear hw9 w9))
   go_ret2;exact ⟨rfl,HM.out,aa.refl _ _⟩
  | cons x t=>
   obtain ⟨m,hb,hm,_⟩:=Kg I hq1 hR;rw [hm];rw [hR] at kr hsl hl1;simp only [List.length_cons] at kr hsl hl1 ⊢;have hin:∀z,z∈x::t→∃y:Nat,z=y∧bD A z=true:=fun z hz=>by
    obtain ⟨y,e,_,i,_⟩:=Ls I (h:=q) (z:=z) (by rw [hR];exact hz)
    exact ⟨y,e,i⟩
   obtain ⟨g,off,rfl,hgl,hgF,hc0⟩:=hsl.head;have hta:=(show fI w [B.c] (.slice (some ⟨g,off,none⟩) (t.length+1) cap) (x::t) from hsl).tail
   have hsr:=fun W=>sI W (some ⟨g,off,none⟩) (t.length+1) cap ω ω
   obtain ⟨a3,hta3⟩:=nW (some ⟨g,off,none⟩) (t.length+1) cap;rw [hta3] at hsr hta;simp only [Nat.add_sub_cancel] at hsr hta ⊢;have h0:=M.h0;have hn0:B.n0∉[B.c]:=by simp;exact M.cn.1
   have HM:=χ M;have HT:=χ hta;have HI:=χ (ψ hin hb);have hC:=M.cells;have hz:bC st 0=st:=dW hst;clear M I hh hR e2 hv hsl hta hin hb hm hta3;generalize htl:t.length=tl at *
   have HTL:=χ htl;have hne0:((tl:Int)+1 == 0)=false:=beq_eq_false_iff_ne.2 ω;clear htl
   go_enter Tryz.func181,Tryz.ntmps181
   go_wp2_with ((go_at_call 187;(with_reducible refine (kr).mono ?_);rintro e w9 ⟨rfl,hw9⟩;rw [hw9];clear hw9 w9))
   go_loopw [7,22] (fun s7 s22 wr=>∃ (j:Nat) (b:Int),j≤tl∧s22=.int .i64 (j:Int)∧s7=.int .i64 b∧jG (bF A) b (t.drop j)=jG (bF A) x t∧(∃y:Nat,b=y∧bD A b=true)∧az wr B.c F A (bC st j)∧aa [B.c] w wr) (fun _ s22 _=>tl-(intOf s22).toNat)
   case atStart=>exact ⟨0,x,ω,rfl,rfl,σ,HI.out.1 x σ,by rw [hz];exact hC,aa.refl _ _⟩
   case round=>
    obtain ⟨j,b,hj,rfl,rfl,hbb,hib,hCj,hu⟩:=hrel;rename World=>wr
    by_cases hjt:j<tl
    ·obtain ⟨y,hyy⟩:∃y,t[j]?=some y:=⟨t[j]'(by rw [HTL.out];exact hjt),σ⟩
     have hd:t.drop j=y::t.drop (j+1):=by
      obtain ⟨hl,e⟩:=List.getElem?_eq_some_iff.1 hyy;rw [List.drop_eq_getElem_cons hl,e]
     obtain ⟨a4,c4,e4,_,_,h4⟩:=HT.out;have ea:a3=a4:=by injection e4
     subst ea;obtain ⟨g4,o4,rfl,_,hg4,hc4⟩:=h4 j y hyy;have hc5:=hu.kept hc4 hg4;obtain ⟨yn,rfl,hiy⟩:=HI.out.1 y (List.mem_cons_of_mem _ (List.mem_of_getElem? hyy));obtain ⟨bn,rfl,hbn⟩:=hib;have ka:=dC hCj yn bn hiy hbn;have h05:=hu.kept h0 hn0;have hjI:(j:Int)<(tl:Int):=ω;have hw1:IntKind.i64.wrap ((j:Int)+1)=(j:Int)+1:=IntWalk.i64_in _ ω;have eah:bF A (yn:Int) (bn:Int)=decide (bH A yn bn):=by rw [jC,hiy,hbn];simp
     have hnx:∀b':Int,b'=(if bF A (yn:Int) (bn:Int) then (yn:Int) else (bn:Int))→jG (bF A) b' (t.drop (j+1))=jG (bF A) x t:=fun b' e=>by rw [←hbb,hd,e];rfl
     have HN:=χ (ψ hnx (ψ hiy hbn));have hse:bC (bC st j) 1=bC st (j+1):=gz st j 1;rw [←eah] at ka;clear hCj hbb hd h4 hyy hc4 hiy hbn eah hnx e4;cases hab:bF A (yn:Int) (bn:Int) with
     | true=>
      rw [hab] at ka;have HAB:=χ hab;clear hab
      go_wp2_with ((go_at_call 174;(with_reducible refine (ka).mono ?_));rintro e w2 ⟨rfl,hC2,hu2⟩)
      go_roundw
      case rel=>exact ⟨j+1,yn,ω,by go_num,rfl,HN.out.1 _ (by rw [HAB.out];rfl),⟨yn,rfl,HN.out.2.1⟩,by rw [←hse];exact hC2,hu.trans hu2⟩
      case measure=>simp [intOf];omega
     | false=>
      rw [hab] at ka;have HAB:=χ hab;clear hab
      go_wp2_with ((go_at_call 174;(with_reducible refine (ka).mono ?_));rintro e w2 ⟨rfl,hC2,hu2⟩)
      go_roundw
      case rel=>exact ⟨j+1,bn,ω,by go_num,rfl,HN.out.1 _ (by rw [HAB.out];rfl),⟨bn,rfl,HN.out.2.2⟩,by rw [←hse];exact hC2,hu.trans hu2⟩
      case measure=>simp [intOf];omega
    ·obtain rfl:j=tl:=ω;have hbf:b=(m:Int):=by
      rw [List.drop_of_length_le (by rw [HTL.out];omega)] at hbb
      have e:jG (bF A) b []=b:=rfl;rw [e,HI.out.2] at hbb;exact hbb
     have HB:=χ hbf;have HC:=χ hCj;clear hbb hib hbf hCj;go_wp2;go_ret2;exact ⟨by rw [HB.out];rfl,HM.out.setSt hu HC.out,hu⟩
end
def Di (w:World) (p:Nat) (FF:List Nat) (A:NS) (st:Nat) (G:BG):Prop:=PH w p FF A st G∧zA A G
theorem J7 {A:NS} {G:BG} (I:zA A G) (ok:A.Ok) {q:Int} {m:Nat} (hm:bL A q=some m):∃k:Nat,q=k∧1≤k∧aY A q=true∧m<A.cs.length∧G.F.u m=-1∧(A.c m).i=k:=by
 have hq:0<q:=by
  apply Classical.byContradiction;intro h;rw [mX h] at hm;cases hm
 obtain ⟨k,rfl⟩:∃k:Nat,q=k:=⟨q.toNat,ω⟩
 have hf:=(dM hq).1 hm;have hh:aY A (k:Int)=true:=by
  have:=gN ok ((af A m).2 ⟨hf.1,by rw [hf.2.1];omega⟩)
  rw [π,hf.2.1] at this;exact this
 cases hR:G.R k with
 | nil=>rw [Fh I ω hR] at hm;cases hm
 | cons x t=>
  obtain ⟨m',_,h2,h3,h4,h5⟩:=Kg I (show 1≤k by omega) hR
  rw [hm] at h2;cases h2;exact ⟨k,rfl,ω,hh,h3,h4,h5⟩
def Km (A:NS) (q:Int) (G:BG):Nat:=z8 A G q+(match bL A q with|some m=>uV A q.toNat m G|none=>0)
def Kj (A:NS) (q:Int) (G:BG):BG:=match bL A q with|some m=>oz A q.toNat m G|none=>G
section
variable {w:World} {p:Nat} {FF:List Nat} {A:NS} {st:Nat} {G:BG}
theorem zR (h:Di w p FF A st G) (q:Int) :
  Calls Tryz.prog 177 #[.pointer (some ⟨p,0,none⟩),.int .i64 q] w fun e w'=>e=.returned (.tuple #[.int .i64 (oD (bL A q)),.bool (bL A q).isSome])∧Goes FF w w' (fun FF'=>Di w' p FF' (qM A q) (bC st (Km A q G)) (Kj A q G)):=by
 obtain ⟨⟨B,F,gr,cr,lo,S,vs,rfl,rfl,M,eF⟩,I⟩:=h;have km:=BC M I q;have hcF:∀y,y∈[B.c]→y∈B.blk F gr A.cs.length S vs:=fun y hy=>by
  simp at hy;subst hy;simp [BB.blk,M.cells.mem]
 have hst:=M.cells.mE;cases hm:bL A q with
 | none=>
  rw [hm] at km;simp only [oD,Option.isSome_none] at km ⊢;have e1:Km A q G=z8 A G q:=by unfold Km;rw [hm];rfl
  have e2:Kj A q G=G:=by unfold Kj;rw [hm]
  have e3:qM A q=A:=by unfold qM;rw [hm]
  rw [e1,e2,e3];have HI:=χ (ψ I (ψ eF hcF));clear M I hm e1 e2 e3 eF hcF
  go_enter Tryz.func177,Tryz.ntmps177
  go_wp2_with ((go_at_call 181;(with_reducible refine (km).mono ?_));rintro e w1 ⟨rfl,hM1,hu1⟩)
  go_ret2;exact ⟨rfl,Goes.stay ⟨⟨B,F,gr,cr,lo,S,vs,rfl,rfl,hM1,HI.out.2.1⟩,HI.out.1⟩ (hu1.mono HI.out.2.2)⟩
 | some m=>
  rw [hm] at km;simp only [oD,Option.isSome_some] at km ⊢;obtain ⟨k,rfl,hk1,hh,m1,m2,m3⟩:=J7 I M.cells.ok hm;have e1:Km A (k:Int) G=z8 A G (k:Int)+uV A k m G:=by unfold Km;rw [hm];simp
  have e2:Kj A (k:Int) G=oz A k m G:=by unfold Kj;rw [hm];simp
  have e3:qM A (k:Int)=aL A (m:Int):=by unfold qM;rw [hm]
  rw [e1,e2,e3];obtain ⟨k',hk',_,hkv⟩:=M.hq hh;obtain rfl:k=k':=ω;have X:=I.x m1;have kt:=fun W (hM:fV W B F gr cr lo A (bC st (z8 A G (k:Int))) S vs G.R)=>I6 hM eF X m1 m2 (by rw [m3];omega) m3 hkv
  have T:=(Gc X M.cells.ok m1 m2 (by rw [m3];omega) m3).1
  have HI:=χ (ψ T hcF);clear M I hm e1 e2 e3 eF hcF X T m1 m2 m3 hh hk'
  go_enter Tryz.func177,Tryz.ntmps177
  go_wp2_with (first
   | ((go_at_call 181;(with_reducible refine (km).mono ?_));rintro e w1 ⟨rfl,hM1,hu1⟩;(have kt1:=kt _ hM1);(have hs1:=hu1.size))
   | ((go_at_call 185;(with_reducible refine (kt1).mono ?_));rintro e w2 ⟨rfl,FF2,hK2,hu2,hf2⟩)
   | fail)
  go_ret2;rw [gz] at hK2;refine ⟨rfl,FF2,⟨hK2,HI.out.1⟩,(hu1.mono HI.out.2).trans hu2,fun y hy=>?_⟩
  rcases hf2 y hy with h'|h'
  ·exact Or.inl h'
  ·exact Or.inr ω
theorem uO {B:BB} {F:List Nat} {gr n:Nat} {S:CS} {vs:List Value}:∀y,y∈F→y∈B.blk F gr n S vs:=fun y hy=>by simp [BB.blk,hy]
theorem Nt {w:World} {B:BB} {F F':List Nat} {gr n:Nat} {S S':CS} {vs:List Value} {q:Nat} {vo:Value} (hF:∀y,y∈F'→y∈F) (hb:∀g,g∈S'.blk n→g∈S.blk n∨w.heap.size≤g) (hv:∀g,vo.ownBlock=some g→w.heap.size≤g) :
  ∀y,y∈B.blk F' gr n S' (vs.set q vo)→y∈B.blk F gr n S vs∨w.heap.size≤y:=fun y hy=>by
 simp only [BB.blk,List.mem_cons,List.mem_append] at hy ⊢;rcases hy with e|e|e|e|e|e|e
 ·exact Or.inl (Or.inl e)
 ·exact Or.inl (Or.inr (Or.inl e))
 ·exact Or.inl (Or.inr (Or.inr (Or.inl e)))
 ·exact Or.inl (Or.inr (Or.inr (Or.inr (Or.inl e))))
 ·exact Or.inl (Or.inr (Or.inr (Or.inr (Or.inr (Or.inl (hF y e))))))
 ·rcases hb y e with h'|h'
  ·exact Or.inl (Or.inr (Or.inr (Or.inr (Or.inr (Or.inr (Or.inl h'))))))
  ·exact Or.inr h'
 ·obtain ⟨k,hk,hk2⟩:=gV.1 e;rw [List.length_set] at hk;rw [qa] at hk2
  by_cases ek:k=q∧q<vs.length
  ·rw [if_pos ek] at hk2;exact Or.inr (hv y hk2)
  ·rw [if_neg ek] at hk2;exact Or.inl (Or.inr (Or.inr (Or.inr (Or.inr (Or.inr (Or.inr (gV.2 ⟨k,hk,hk2⟩)))))))
theorem Pj {w:World} {B:BB} {F:List Nat} {gr cr lo:Nat} {S:CS} {vs:List Value} {R:Nat→List Int} (M:fV w B F gr cr lo A st S vs R):∀y,y∈B.c::B.ba::gr::S.blk A.cs.length→y∈B.blk F gr A.cs.length S vs:=fun y hy=>by
 simp only [BB.blk,List.mem_cons,List.mem_append] at hy ⊢;rcases hy with e|e|e|e
 ·exact Or.inr (Or.inr (Or.inr (Or.inr (Or.inl (by rw [e];exact M.cells.mem)))))
 ·exact Or.inr (Or.inr (Or.inl e))
 ·exact Or.inr (Or.inr (Or.inr (Or.inl e)))
 ·exact Or.inr (Or.inr (Or.inr (Or.inr (Or.inr (Or.inl e)))))
theorem Bv (h:Di w p FF A st G) (q x:Nat) (k s:Int) (hk:-9223372036854775808≤k∧k≤9223372036854775807∧0≤s∧s≤18446744073709551615) (hB:jy A q x=true) :
  Calls Tryz.prog 178 #[.pointer (some ⟨p,0,none⟩),.int .i64 (q:Int),.int .i64 (x:Int),.agg #[.int .i64 k,.int .u64 s]] w fun e w'=>e=.returned (.bool true)∧
   Goes FF w w' (fun FF'=>Di w' p FF' (aB A q x k s) (bC st (MV (aB A q x k s) q x G)) (LK (aB A q x k s) q x G)):=by
 obtain ⟨⟨B,F,gr,cr,lo,S,vs,rfl,rfl,M,eF⟩,I⟩:=h;have ok:=M.cells.ok;obtain ⟨I2,_,t2,t3,t4,hcs⟩:=OJ (h:=q) (x:=x) k s I ok hB;have hhs:(aB A q x k s).hs.length=A.hs.length:=by unfold aB;split;rfl;rfl
 have hasq:=((cB _ _ _).1 hB).1;obtain ⟨q',e,hq1,hqv⟩:=M.hq hasq;obtain rfl:q=q':=ω;have u1:aa [] w (w.alloc (.cells #[.int .i64 k,.int .u64 s] 129)):=(aa.refl _ _).alloc _;have kp:=fun W (hW:aa [] (w.alloc (.cells #[.int .i64 k,.int .u64 s] 129)) W)=>kV (M.cells.aj (u1.trans hW)) q x k s hk hB
 have h0:=M.h0;have hbF:B.n0∉F:=M.d1.1;have hsz:w.heap.size∉F:=fun hm=>by have:=M.cells.lt _ hm;omega
 have r0:∀W,aa F (w.alloc (.cells #[.int .i64 k,.int .u64 s] 129)) W→W.cell? ⟨B.n0,0,none⟩=some (.pointer (some ⟨B.c,0,none⟩)):=fun W hW=>hW.kept (u1.was h0) hbF
 have r1:∀W,aa F (w.alloc (.cells #[.int .i64 k,.int .u64 s] 129)) W→W.cell? ⟨w.heap.size,0,none⟩=some (.int .i64 k):=fun W h=>h.kept σ hsz
 have r2:∀W,aa F (w.alloc (.cells #[.int .i64 k,.int .u64 s] 129)) W→W.cell? ⟨w.heap.size,1,none⟩=some (.int .u64 s):=fun W h=>h.kept σ hsz
 have hrow:=I.rh.row q;have ka:=fun (W:World) (hM:fV W B F gr cr lo (aB A q x k s) st S vs G.R) (vl:Value) (hvl:fI W (B.c::B.ba::S.blk (aB A q x k s).cs.length) vl [(x:Int)])=>CK hM (by rw [hcs,eF];exact I.fh.f) q hqv hvl (by rw [hcs,eF];exact hrow) (by rw [hcs,eF];exact t2) t3 t4
 have HM:=χ M;have HI:=χ (ψ I2 (ψ eF (ψ hcs hhs)));clear M I ok I2 t2 t3 t4 hcs hhs eF hrow h0 hB;generalize hA':aB A q x k s=A' at *
 go_enter Tryz.func178,Tryz.ntmps178
 go_wp2
 go_region_held3 (aa F (w.alloc (.cells #[.int .i64 k,.int .u64 s] 129))) (repeat (first|assumption|exact aa.refl _ _|refine aa.drew ?_|refine aa.alloc ?_ _|refine aa.setCell ?_ ?_ _|focus (left;simp;done)|focus (right;simp;done)|focus (right;simp;omega)|(apply aa.trans;rotate_left;assumption)))
  (first
   | ((go_at_call 154;(with_reducible refine (kp _ β).mono ?_));rintro e w1 ⟨rfl,hC1,hu1⟩;(have hu2:aa F (w.alloc (.cells #[.int .i64 k,.int .u64 s] 129)) w1:=by (repeat (first|assumption|exact aa.refl _ _|refine aa.drew ?_|refine aa.alloc ?_ _|refine aa.setCell ?_ ?_ _|focus (left;simp;done)|focus (right;simp;done)|focus (right;simp;omega)|(apply aa.trans;rotate_left;assumption))))))
 have uF:aa F w w1:=(u1.mono σ).trans hu2;have hM1:=HM.out.bI uF hC1 (fun y hy=>Or.inl hy) HI.out.2.2.1 HI.out.2.2.2
 have hsz1:=uF.size;have hlt1:∀y,y∈B.c::B.ba::S.blk A'.cs.length→y<w1.heap.size:=fun y hy=>by
  simp only [List.mem_cons] at hy;rcases hy with e|e|e
  ·subst e;exact hM1.cells.lt _ hM1.cells.mem
  ·subst e;exact hM1.gM.row.lt
  ·exact (hM1.gM.lD e).2
 have ka1:=fun (W:World) (hW:aa [] w1 W) (vl:Value)=>ka W (hM1.aj hW) vl
 have HL:=χ hlt1;clear kp r0 r1 r2 hM1 hlt1 ka
 go_wp2_with (first
  | ((go_at_call 186;(with_reducible refine (ka1 _ β _ ((aQ.lit w1 0 (x:Int) (Nat.zero_le _)).sl (fun g hg hm=>by have:=HL.out g hm;simp [Value.ownBlock] at hg;omega))).mono ?_));rintro e w2 ⟨S2,vo,rfl,hS2,hM2,hu3,hb2,hx2⟩)
  | fail)
 go_ret;have eF:=HI.out.2.1;have hcs:=HI.out.2.2.1;have uw:aa (B.blk F gr A.cs.length S vs) w w2:=by
  refine ((uF.mono uO).alloc _).trans (hu3.mono (fun y hy=>?_))
  rw [hcs] at hy;exact Pj HM.out y hy
 refine ⟨rfl,B.blk F gr A'.cs.length S2 (vs.set q vo),⟨⟨B,F,gr,cr,lo,S2,_,rfl,rfl,by unfold MV LK vg;rw [←eF];exact hM2,by rw [hS2,eF];rfl⟩,HI.out.1⟩,uw,fun y hy=>?_⟩
 rw [hcs] at hy hb2;exact Nt (w:=w) (fun _ h=>h) (fun g hg=>(hb2 g hg).imp id (fun h=>by simp at h;omega)) (fun g hg=>by have:=hx2 g hg;simp at this;omega) y hy
end
end Go.Proofs.YtklibcncmbofpaaGreat
