/-
  Lemmas for RankSorts: Lf6, Lf7, Lf8, Lf9, Bt4, Bt5. Conditions: those of each lemma.
-/
import Derived.Deep.RegionLaw
import Derived.Test.YtklibcncmbofpaaGreatP13
set_option maxHeartbeats 8000000
set_option maxRecDepth 10000
set_option linter.unusedVariables false
set_option linter.unusedSimpArgs false
namespace Go.Proofs.YtklibcncmbofpaaGreat
open Go Go.RowKit
def jO (w:World) (B:LB) (F:List Nat) (gt ct:Nat) (A:NS) (st:Nat) (tr:Nat→BT):Prop:=
 ∃S rk ah,jh w B F gt ct A st S rk ah∧PI A S ah tr∧(∀h,Lean (tr h))∧(∀h,dV rk (tr h))
theorem jO.upd {w w':World} {B:LB} {F:List Nat} {gt ct:Nat} {A:NS} {st:Nat} {tr:Nat→BT} {G:List Nat} (h:jO w B F gt ct A st tr) (hu:aa G w w') (hG:∀x,x∈G→x∉B.blk F gt):jO w' B F gt ct A st tr:=by
 obtain ⟨S,rk,ah,hM,h1,h2,h3⟩:=h;exact ⟨S,rk,ah,hM.upd hu hG,h1,h2,h3⟩
theorem jO.aj {w w':World} {B:LB} {F:List Nat} {gt ct:Nat} {A:NS} {st:Nat} {tr:Nat→BT} (h:jO w B F gt ct A st tr) (hu:aa [] w w'):jO w' B F gt ct A st tr:=h.upd hu σ
section
variable {w:World} {B:LB} {F:List Nat} {gt ct:Nat} {A:NS} {st:Nat} {tr:Nat→BT}
theorem CL (h:jO w B F gt ct A st tr) (hh x:Nat) (k s:Int) (hk:-9223372036854775808≤k∧k≤9223372036854775807∧0≤s∧s≤18446744073709551615) (hB:jy A hh x=true) :
  Calls Tryz.prog 240 #[.pointer (some ⟨B.n0,0,none⟩),.int .i64 (hh:Int),.int .i64 (x:Int),.agg #[.int .i64 k,.int .u64 s]] w fun e w'=>e=.returned (.bool true)∧aa (B.blk F gt) w w'∧
   jO w' B F gt ct (aB A hh x k s) (bC st (aF au (aB A hh x k s) (tr hh) (single x)).2) (fun q=>if q=hh then (aF au (aB A hh x k s) (tr hh) (single x)).1 else tr q):=by
 obtain ⟨S,rk,ah,hM,hI,hL,hR⟩:=h;have hlt:=hM.lt;have ok:=hM.cells.ok;have ok':=sG ok hh x k s hk;obtain ⟨b1,b2,b3⟩:=(cB _ _ _).1 hB;have b4:=(aK _ _).1 b1;have hx:x<A.cs.length:=by have:=(dK _ _).1 b2;omega
 have h0x:(A.c x).i=0:=by
  have:=(ok.nat x hx).1;have h3:¬ (0<(A.c x).i):=fun h'=>by rw [(af A x).2 ⟨hx,h'⟩] at b3;cases b3
  omega
 have hcs:(aB A hh x k s).cs.length=A.cs.length:=by unfold aB;rw [if_pos hB,dI]
 have hhs:(aB A hh x k s).hs.length=A.hs.length:=by unfold aB;rw [if_pos hB];rfl
 have hcx:∀y,(aB A hh x k s).c y=if y=x then ⟨hh,k,s⟩ else A.c y:=fun y=>by
  unfold aB;rw [if_pos hB,π,iD]
  by_cases e:y=x
  ·rw [if_pos ⟨e,hx⟩,if_pos e]
  ·rw [if_neg (fun h=>e h.1),if_neg e]
 have hxn:x∉(tr hh).nodes:=hI.out h0x;have hX:((tr hh).nodes++(single x).nodes).Nodup:=by
  rw [List.nodup_append];refine ⟨hI.nd hh,by simp [single,BT.nodes],fun a ha b hb e=>?_⟩
  simp only [single,BT.nodes,List.append_nil,List.mem_singleton] at hb;exact hxn (by rw [←hb,←e];exact ha)
 have hin:∀y,y∈(tr hh).nodes++(single x).nodes→bD (aB A hh x k s) (y:Int)=true:=fun y hy=>by
  rw [af,hcs,hcx];simp only [single,BT.nodes,List.append_nil,List.mem_append,List.mem_singleton] at hy
  by_cases e:y=x
  ·rw [if_pos e,e];exact ⟨hx,by show (0:Int)<(hh:Int);omega⟩
  ·rw [if_neg e];have:=(hI.mem hh y).1 (hy.resolve_right e);exact ⟨this.2.1,ω⟩
 have hHx:Heap (aB A hh x k s) (tr hh):=(hI.heap hh).frame (fun y hy=>by rw [hcx,if_neg (fun e=>hxn (by rw [←e];exact hy))])
 obtain ⟨mp,mh⟩:=jJ kP (aB A hh x k s) _ (tr hh) (single x) (Nat.le_refl _);have mh':=mh hHx ⟨by simp [BT.nodes],by simp [BT.nodes],trivial,trivial⟩ hX
 have ml:=rA (aB A hh x k s) _ (tr hh) (single x) (Nat.le_refl _) (hL hh) ⟨Nat.le_refl _,trivial,trivial⟩;have hfr:=hI.free x hx h0x
 have FI:Hid (∀ (W:World) (S':TS) (rk':Nat→Nat) (st':Nat),jh W B F gt ct (aB A hh x k s) st' S' rk' (ah.set hh (aF au (aB A hh x k s) (tr hh) (single x)).1.root)→bG S' (-1) (aF au (aB A hh x k s) (tr hh) (single x)).1.root (aF au (aB A hh x k s) (tr hh) (single x)).1→dV rk' (aF au (aB A hh x k s) (tr hh) (single x)).1→
   (∀y,y∉(tr hh).nodes++(single x).nodes→S.at S' y∧rk' y=rk y)→jO W B F gt ct (aB A hh x k s) st' (fun q=>if q=hh then (aF au (aB A hh x k s) (tr hh) (single x)).1 else tr q)):=fun W S' rk' st' a1 a2 a3 a4=>by
  refine ⟨S',rk',_,a1,hI.put ok hM.gP hB a2 mp mh' (fun y hy=>(a4 y hy).1),fun q=>?_,fun q=>?_⟩
  ·show Lean (if q=hh then _ else _)
   split
   ·exact ml
   ·exact hL q
  ·show dV rk' (if q=hh then _ else _)
   split
   ·exact a3
   ·rename_i hq
    refine (hR q).frame (fun y hy=>(a4 y (fun hm=>?_)).2)
    simp only [single,BT.nodes,List.append_nil,List.mem_append,List.mem_singleton] at hm;rcases hm with hm|hm
    ·have c1:=(hI.mem hh y).1 hm;have c2:=(hI.mem q y).1 hy;omega
    ·exact hI.out (g:=q) h0x (by rw [←hm];exact hy)
 have hTh:=hI.Aw hh;have hRh:=hR hh;have htop:=hI.top hh ω;have hgn:hh<ah.length:=by rw [hM.gP];omega
 have u1:aa [] w (w.alloc (.cells #[.int .i64 k,.int .u64 s] 129)):=(aa.refl _ _).alloc _;have kp:=fun W (hW:aa [] (w.alloc (.cells #[.int .i64 k,.int .u64 s] 129)) W)=>kV (hM.cells.aj (u1.trans hW)) hh x k s hk hB
 have h0:=hM.h0;have hbF:B.n0∉F:=hM.aZ.1;have hsz:w.heap.size∉F:=fun hm=>by have:=hlt w.heap.size (by simp [LB.blk,hm]);omega
 have r0:∀W,aa F (w.alloc (.cells #[.int .i64 k,.int .u64 s] 129)) W→W.cell? ⟨B.n0,0,none⟩=some (.pointer (some ⟨B.c,0,none⟩)):=fun W hW=>hW.kept (u1.was h0) hbF
 have r1:∀W,aa F (w.alloc (.cells #[.int .i64 k,.int .u64 s] 129)) W→W.cell? ⟨w.heap.size,0,none⟩=some (.int .i64 k):=fun W h=>h.kept σ hsz
 have r2:∀W,aa F (w.alloc (.cells #[.int .i64 k,.int .u64 s] 129)) W→W.cell? ⟨w.heap.size,1,none⟩=some (.int .u64 s):=fun W h=>h.kept σ hsz
 have HM:=χ hM;have HH:=χ (ψ hX (ψ hin (ψ hTh (ψ hRh hfr))));have HLT:=χ hlt;have HSE:=χ (ψ hM.sep hM.aZ);have hA:=ok.c1;have hAh:=ok.h1;have HXN:=χ hxn;clear hM hI hL hR ok ok' b1 b2 b3 h0x hcx hxn hX hin hHx mp mh mh' ml hfr h0 hlt hTh hRh;generalize hA':aB A hh x k s=A' at *
 generalize htr:tr hh=th at *
 go_enter Tryz.func240,Tryz.ntmps240
 go_wp2
 go_region_held3 (aa F (w.alloc (.cells #[.int .i64 k,.int .u64 s] 129))) (repeat (first|assumption|exact aa.refl _ _|refine aa.drew ?_|refine aa.alloc ?_ _|refine aa.setCell ?_ ?_ _|focus (left;simp;done)|focus (right;simp;done)|focus (right;simp;omega)|(apply aa.trans;rotate_left;assumption)))
  ((go_at_call 154;(with_reducible refine (kp _ β).mono ?_);rintro e w1 ⟨rfl,hC1,hu1⟩;(have hu2:aa F (w.alloc (.cells #[.int .i64 k,.int .u64 s] 129)) w1:=by (repeat (first|assumption|exact aa.refl _ _|refine aa.drew ?_|refine aa.alloc ?_ _|refine aa.setCell ?_ ?_ _|focus (left;simp;done)|focus (right;simp;done)|focus (right;simp;omega)|(apply aa.trans;rotate_left;assumption))))))
 have uF:aa F w (w.alloc (.cells #[.int .i64 k,.int .u64 s] 129)):=u1.mono σ;have hM1:=HM.out.bI (uF.trans hu2) hC1 (fun y hy=>Or.inl hy) hcs hhs
 have h2:=hM1.h2;have dR:=hM1.ranks.cell x (by rw [hcs];exact hx)
 have fR:=hM1.ranks.free x;have hw1:aa F w w1:=uF.trans hu2;have HM1:=χ hM1;clear r0 r1 r2 kp hu1 hu2 hC1 hM1 uF;rw [hcs] at h2;go_wp2;obtain ⟨w2,hw2⟩:∃w2,w2=w1.setCell ⟨B.br,x,none⟩ (.int .i64 1):=⟨_,rfl⟩
 have u2:aa [B.br] w1 w2:=by rw [hw2];(repeat (first|assumption|exact aa.refl _ _|refine aa.alloc ?_ _|refine aa.drew ?_|refine aa.drewN ?_ _|refine aa.setCell ?_ ?_ _|focus (left;simp;done)|focus (right;simp;done)|focus (right;simp;omega)))
 have hM2:jh w2 B F gt ct A' st S (fun y=>if y=x then 1 else rk y) ah:=by rw [hw2];exact HM1.out.bJ x 1
 rw [←hw2];clear hw2 HM1 h2 dR fR;have km:=fun W (hW:aa [] w2 W)=>qZ (hM2.aj hW) HH.out.2.2.1 (rD HH.out.2.2.2.2) HH.out.1 HH.out.2.1 (HH.out.2.2.2.1.frame (fun y hy=>if_neg (fun e=>HXN.out (by rw [←e];exact hy)))) ⟨by simp [BT.rank],trivial,trivial⟩
 rw [show (single x).root=(x:Int) from rfl] at km
 have d4:=hM2.ic.cell hh hgn;rw [htop] at d4;have f4:=hM2.ic.free hh;have h3:=hM2.h3;have hg:=hM2.lt gt (by simp [LB.blk])
 have HM2:=χ hM2;have hn0g:B.n0∉[B.c,B.ba,B.br,gt]:=by
  have a1:=HSE.out;have a2:B.n0≠B.c:=fun e=>a1.2.1 (by rw [e];exact HM.out.cF)
  simp;omega
 have hgc:gt∉[B.c,B.ba,B.br]:=by
  have a1:=HSE.out;have a2:gt≠B.c:=fun e=>a1.2.2.2.2.2 (by rw [e];exact HM.out.cF)
  simp;omega
 have r3:∀W,aa [B.c,B.ba,B.br,gt] w2 W→W.cell? ⟨B.n0,3,none⟩=some (.slice (some ⟨gt,0,none⟩) ah.length ct):=fun W hW=>hW.kept h3 hn0g
 have r4:∀W,aa [B.c,B.ba,B.br] w2 W→W.cell? ⟨gt,hh,none⟩=some (.int .i64 th.root)∧W.frozen? ⟨gt,hh,none⟩=false:=fun W hW=>⟨hW.kept d4 hgc,hW.aO d4 hgc f4⟩
 have hib1:(0:Int)≤(hh:Int):=ω;have hib2:(hh:Int)<(ah.length:Int):=ω;have MG:Hid (aF au A' th (single x)=aF au A' th (single x)):=rfl;generalize hmt:(aF au A' th (single x)).1=mt at *
 generalize hmk:(aF au A' th (single x)).2=mk at *
 clear hM2 f4 h3 MG;have q3:=r3 _ (aa.refl _ _);have q4:=(r4 _ (aa.refl _ _)).1
 go_region_law
  (first
   | (go_simp;go_at_call 246;(with_reducible refine (km _ β).mono ?_);rintro e w5 ⟨rfl,hu5a,S5,rk5,hM5,hT5,hr5,hs5⟩;(have hu5:aa [B.c,B.ba,B.br] w2 w5:=aa.trans β hu5a);(have hu6:aa [B.c,B.ba,B.br,gt] w2 w5:=hu5.mono σ);obtain ⟨d5,f5⟩:=r4 _ hu5;(have q5:=r3 _ hu6)))
 all_goals
  go_wp2;go_ret;have hcF:=HM.out.cF;have v1:aa (B.blk F gt) w w1:=hw1.mono (fun y hy=>by simp only [LB.blk,List.mem_cons];simp [hy])
  have v2:aa (B.blk F gt) w w2:=v1.trans (u2.mono (fun y hy=>by simp at hy;simp [LB.blk,hy]))
  have v3:aa (B.blk F gt) w w5:=v2.trans (hu5.mono (fun y hy=>by
   simp only [List.mem_cons,List.not_mem_nil,or_false] at hy;simp only [LB.blk,List.mem_cons];rcases hy with rfl|rfl|rfl
   ·simp [hcF]
   ·simp
   ·simp))
  subst hmt hmk;refine ⟨rfl,v3.setCell (Or.inl (by simp [LB.blk])) _,FI.out _ S5 rk5 _ (hM5.nT hh _) hT5 hr5 (fun y hy=>⟨(hs5 y hy).1,?_⟩)⟩
  rw [(hs5 y hy).2,if_neg (fun e=>hy (by rw [e];simp [single,BT.nodes]))]
end
theorem Kh (n j:Nat) (hj:j<n):(madeCells #[Value.int .i64 0] (n*1)).toList.getD j undef=.int .i64 0:=by
 rw [φ,List.getElem?_eq_getElem (by simp [madeCells];omega)]
 simp [madeCells,Nat.mod_one]
theorem LM (n:Nat) (w:World) (h:n≤65536) :
  Calls Tryz.prog 100 #[.int .i64 (n:Int)] w fun e w'=>∃B F gt,e=.returned (.tuple #[.pointer (some ⟨B.n0,0,none⟩),.int .i64 0])∧jO w' B F gt 1 (NS.new n) 0 (fun _=>.nil)∧aa [] w w'∧∀x,x∈B.blk F gt→w.heap.size≤x:=by
 go_enter Tryz.func100,Tryz.ntmps100
 go_wp2_with (first
  | ((go_at_call 107;(with_reducible refine (kY n _ h).mono ?_));rintro e w1 ⟨c,F,rfl,hC,hu1,hF⟩)
  | ((go_at_call 112;(with_reducible refine (rU n _ h).mono ?_));rintro e w2 ⟨bt,ba,rfl,hT,hu2,hb1,hb2⟩)
  | (at_make;refine wpList_make_row rfl _ 26 rfl 3 (.int .i64 0) 1 8 Tryz.underlying26 cK n rfl ω μ ?_;intro w3 hr3 hu3))
 go_ret2;have hcs:(NS.new n).cs.length=n:=by simp [NS.new]
 have l1:=hu1.size;have l2:=hu2.size;have l3:=hu3.size;have l4:=hr3.lt;have l5:=hT.head.lt;have l6:=hT.row.lt;have l7:=hC.lt;have lc:=l7 c hC.mem;have e3:((w3.alloc (.cells #[.int .i64 (-1)] 3)).heap.size)=w3.heap.size+1:=by rw [World.size_alloc]
 have hv:aa [] w3 (w3.alloc (.cells #[.int .i64 (-1)] 3)):=(aa.refl _ _).alloc _;have hw:aa [] w3 ((w3.alloc (.cells #[.int .i64 (-1)] 3)).alloc (.cells #[.pointer (some ⟨c,0,none⟩),.pointer (some ⟨bt,0,none⟩),.slice (some ⟨w2.heap.size,0,none⟩) n n,.slice (some ⟨w3.heap.size,0,none⟩) 1 1] 231)):=hv.alloc _;have hh:=dm (w3.alloc (.cells #[.int .i64 (-1)] 3)) [.pointer (some ⟨c,0,none⟩),.pointer (some ⟨bt,0,none⟩),.slice (some ⟨w2.heap.size,0,none⟩) n n,.slice (some ⟨w3.heap.size,0,none⟩) 1 1] 231;rw [e3] at hh
 have hi:IZ (w3.alloc (.cells #[.int .i64 (-1)] 3)) w3.heap.size 1 [-1]:=IZ.lit w3 [-1] σ;have hF':∀x,x∈F→x<w1.heap.size:=l7
 have hnF:∀x,w1.heap.size≤x→x∉F:=fun x hx hm=>by have:=hF' x hm;omega
 refine ⟨⟨w3.heap.size+1,c,bt,ba,w2.heap.size⟩,F,w3.heap.size,rfl,⟨TS.none,fun _=>0,[-1],⟨by rw [hcs];exact hh,((hC.aj hu2).aj hu3).aj hw,by rw [hcs];exact (hT.upd hu3 σ σ).upd hw σ σ,?_,hi.upd ((aa.refl [] _).alloc _) σ,rfl,⟨hnF _ (by first|omega|(simp only;omega)),hnF _ (by first|omega|(simp only;omega)),hnF _ (by first|omega|(simp only;omega)),hnF _ (by first|omega|(simp only;omega)),hnF _ (by first|omega|(simp only;omega))⟩,⟨⟨by simp only;omega,by simp only;omega,by simp only;omega,by simp only;omega⟩,by simp only;omega,by simp only;omega,by simp only;omega,by simp only;omega,by simp only;omega⟩⟩,Ae n,fun _=>trivial,fun _=>trivial⟩,((hu1.trans hu2).trans hu3).trans hw,fun x hx=>?_⟩
 ·rw [hcs];have:=hr3.upd hw σ;rw [Nat.mul_one] at this;refine this.ext (fun j hj=>?_)
  have hz:(Value.int .i64 0).cells=#[.int .i64 0]:=rfl;have e:=Kh n j hj;rw [Nat.mul_one] at e;rw [hz,e];rfl
 ·simp only [LB.blk,List.mem_cons] at hx;rcases hx with rfl|rfl|rfl|rfl|rfl|hx
  ·omega
  ·omega
  ·omega
  ·omega
  ·omega
  ·exact hF x hx
section
variable {w:World} {B:LB} {F:List Nat} {gt ct:Nat} {A:NS} {st:Nat} {tr:Nat→BT}
theorem JN (h:jO w B F gt ct A st tr) (hl:65536<A.hs.length) :
  Calls Tryz.prog 241 #[.pointer (some ⟨B.n0,0,none⟩)] w fun e w'=>e=.returned (.int .i64 0)∧Goes (B.blk F gt) w w' (fun F'=>∃F1,F'=B.blk F1 gt∧jO w' B F1 gt ct A st tr):=by
 obtain ⟨S,rk,ah,hM,hI⟩:=h;have k:=fT hM.cells;have e1:bS A=0:=by unfold bS;rw [if_pos hl]
 have e2:aG A=A:=by unfold aG;rw [if_pos hl]
 rw [e1,e2] at k;have h0:=hM.h0;have HM:=χ hM;have HI:=χ hI;clear hM hI e1 e2
 go_enter Tryz.func241,Tryz.ntmps241
 go_wp2_with (first|((go_at_call 156;(with_reducible refine (k).mono ?_));rintro e w1 ⟨rfl,F1,hC,hu,hF⟩))
 go_ret
 exact ⟨rfl,B.blk F1 gt,⟨F1,rfl,S,rk,ah,HM.out.bI hu hC hF rfl rfl,HI.out⟩,hu.mono (fun y hy=>by simp [LB.blk,hy]),fun x hx=>by
  simp only [LB.blk,List.mem_cons] at hx ⊢;rcases hx with rfl|rfl|rfl|rfl|rfl|hx
  ·simp
  ·simp
  ·simp
  ·simp
  ·simp
  ·rcases hF x hx with h|h
   ·simp [h]
   ·exact Or.inr h⟩
theorem GG (h:jO w B F gt ct A st tr) (hl:¬65536<A.hs.length) :
  Calls Tryz.prog 241 #[.pointer (some ⟨B.n0,0,none⟩)] w fun e w'=>e=.returned (.int .i64 (A.hs.length:Int))∧Goes (B.blk F gt) w w' (fun F'=>∃F1 gt1 ct1,F'=B.blk F1 gt1∧jO w' B F1 gt1 ct1 (aG A) st tr):=by
 obtain ⟨S,rk,ah,hM,hI,hL,hR⟩:=h;have k:=fT hM.cells;have e1:bS A=A.hs.length:=by unfold bS;rw [if_neg hl]
 rw [e1] at k;have hcs:(aG A).cs.length=A.cs.length:=by unfold aG;rw [if_neg hl]
 have hhs:(aG A).hs.length=A.hs.length+1:=by unfold aG;rw [if_neg hl];simp
 have hI2:=hI.make hM.cells.ok hM.gP hl;have h0:=hM.h0;have hh0:=hM.cells.ok.h0;have HTN:=χ hM.gP;have htb:ah.length≤65536:=by rw [hM.gP];omega
 have HM:=χ hM;have HI:=χ (ψ hI2 (ψ hL hR));clear hM hI hL hR e1 hI2
 go_enter Tryz.func241,Tryz.ntmps241
 go_wp2_with (first
  | ((go_at_call 156;(with_reducible refine (k).mono ?_));rintro e w1 ⟨rfl,F1,hC,hu,hF⟩;(have d3:=hu.kept HM.out.h3 HM.out.aZ.1);(have f3:=hu.aO HM.out.h3 HM.out.aZ.1 (HM.out.head.free 3));(have ho1:=(HM.out.ic.upd hu HM.out.aZ.2.2.2.2).own);(have g0:B.n0≠gt:=HM.out.sep.1.2.2.2);(have gl:=(HM.out.ic.upd hu HM.out.aZ.2.2.2.2).lt))
  | ((at_builtin;refine aC rfl _ _ 26 rfl 0 3 (.int .i64 0) 1 8 Tryz.underlying26 cK rfl δ _ _ _ rfl (ho1) [.int .i64 (-1)] rfl (by simp [Value.oneCell']) (by first|rfl|(rw [World.size_alloc];rfl)) μ ω (ω) ?_;intro v2 w2 ho2 hu2 hsep2);(have hu2:aa [gt] w1 w2:=hu2);obtain ⟨gt1,ct1,ev,hI2, -⟩:=IZ.gJ (l:=ah++[-1]) (by rw [aS,List.length_append];exact ho2) σ;rw [List.length_append,List.length_singleton] at ev;subst ev;(have d4:=hu2.kept d3 ζ);(have f4:=hu2.aO d3 ζ f3)))
 go_ret;have hM:=HM.out;have hlt:=hM.lt;have f:=hM.aZ;have q:=hM.sep;have hw3:aa [B.n0] w2 (w2.setCell ⟨B.n0,3,none⟩ (.slice (some ⟨gt1,0,none⟩) (ah.length+1) ct1)):=β;have hg1:gt1=gt∨w1.heap.size<gt1:=by
  rcases hsep2 with h|h
  ·exact Or.inl (Option.some.inj h)
  ·exact Or.inr (h gt1 rfl)
 have hws:=hu.size;have hC1:=hC.lt;have l0:=hlt B.n0 (by simp [LB.blk])
 have l1:=hlt B.bt (by simp [LB.blk])
 have l2:=hlt B.ba (by simp [LB.blk])
 have l3:=hlt B.br (by simp [LB.blk])
 have l4:=hlt gt (by simp [LB.blk])
 have hnF:∀y,y<w.heap.size→y∉F→y∉F1:=fun y hy hn hm=>by rcases hF y hm with h'|h';exact hn h';omega
 have hgF:gt1∉F1:=by
  rcases hg1 with e|e
  ·rw [e];exact hnF gt l4 f.2.2.2.2
  ·exact fun hm=>by have:=hC1 gt1 hm;omega
 have hb:w.heap.size≤gt1∨gt1=gt:=ω;have hhd:=((hM.head.upd hu f.1).upd hu2 ζ).set 3 (.slice (some ⟨gt1,0,none⟩) (ah.length+1) ct1);refine ⟨rfl,B.blk F1 gt1,⟨F1,gt1,ct1,rfl,S,rk,ah++[-1],⟨?_,?_,?_,?_,hI2.upd hw3 ζ,?_,⟨hnF _ l0 f.1,hnF _ l1 f.2.1,hnF _ l2 f.2.2.1,hnF _ l3 f.2.2.2.1,hgF⟩,⟨⟨q.1.1,q.1.2.1,q.1.2.2.1,ω⟩,q.2.1,ω,q.2.2.2.1,ω,ω⟩⟩,HI.out⟩,?_,fun y hy=>?_⟩
 ·rw [hcs,List.length_append,List.length_singleton];refine hhd.ext (fun j hj=>?_)
  rcases (ω:j=0∨j=1∨j=2∨j=3) with rfl|rfl|rfl|rfl<;>rfl
 ·exact (hC.upd hu2 (fun y hy=>by simp at hy;rw [hy];exact hnF gt l4 f.2.2.2.2)).upd hw3 (fun y hy=>by simp at hy;rw [hy];exact hnF _ l0 f.1)
 ·rw [hcs];exact ((hM.trees.upd hu f.2.1 f.2.2.1).upd hu2 ζ ζ).upd hw3 ζ ζ
 ·rw [hcs];exact ((hM.ranks.upd hu f.2.2.2.1).upd hu2 ζ).upd hw3 ζ
 ·rw [List.length_append,List.length_singleton,hhs,HTN.out]
 ·have u1:aa (B.blk F gt) w w1:=hu.mono (fun y hy=>by simp [LB.blk,hy])
  exact (u1.trans (hu2.mono (fun y hy=>by simp at hy;simp [LB.blk,hy]))).trans (hw3.mono (fun y hy=>by simp at hy;simp [LB.blk,hy]))
 ·simp only [LB.blk,List.mem_cons] at hy ⊢;rcases hy with rfl|rfl|rfl|rfl|rfl|hy
  ·simp
  ·simp
  ·simp
  ·simp
  ·rcases hb with h|h
   ·exact Or.inr h
   ·exact Or.inl (by simp [h])
  ·rcases hF y hy with h|h
   ·simp [h]
   ·exact Or.inr h
end
theorem sM.first {A:NS} {S:TS} {ah:List Int} {tr:Nat→BT} (h:PI A S ah tr) {g:Nat} (hg:0<cu A g):∃m:Nat,(tr g).root=m∧bL A g=some m:=by
 obtain ⟨x,hx,hi,h0⟩:=dG.1 hg;have hxm:x∈(tr g).nodes:=(h.mem g x).2 ⟨ω,hx,hi⟩;cases ht:tr g with
 | nil=>rw [ht] at hxm;cases hxm
 | node m l r=>
  have hm:=(h.mem g m).1 (by rw [ht];simp [BT.nodes])
  have hH:=h.heap g;rw [ht] at hH;refine ⟨m,rfl,(dM h0).2 ⟨hm.2.1,hm.2.2,fun y hy hyi=>?_⟩⟩
  have hym:=(h.mem g y).2 ⟨ω,hy,hyi⟩;rw [ht] at hym;simp only [BT.nodes,List.mem_cons,List.mem_append] at hym;rcases hym with e|e|e
  ·exact Or.inl e
  ·exact Or.inr (hH.1 y e)
  ·exact Or.inr (hH.2.1 y e)
section
variable {w:World} {B:LB} {F:List Nat} {gt ct:Nat} {A:NS} {st:Nat} {tr:Nat→BT}
theorem Gt (h:jO w B F gt ct A st tr) (x:Int) (hx:-9223372036854775808≤x∧x≤9223372036854775807) (hn:cu A x=0) :
  Calls Tryz.prog 243 #[.pointer (some ⟨B.n0,0,none⟩),.int .i64 x] w fun e w'=>e=.returned (.tuple #[.int .i64 0,.bool false])∧w'=w:=by
 obtain ⟨S,rk,ah,hM, -, -, -⟩:=h;have k:=mQ hM.cells x hx;rw [hn] at k;have h0:=hM.h0;clear hM hn
 go_enter Tryz.func243,Tryz.ntmps243
 go_wp2_with (first|(go_at_call 142;(with_reducible refine (k).mono ?_);rintro e w9 ⟨rfl,hw9⟩;rw [hw9];clear hw9 w9))
 go_ret2;exact ⟨rfl,rfl⟩
theorem yF (h:jO w B F gt ct A st tr) (g:Nat) (hn:0<cu A g) :
  Calls Tryz.prog 243 #[.pointer (some ⟨B.n0,0,none⟩),.int .i64 (g:Int)] w fun e w'=>∃m:Nat,bL A g=some m∧(tr g).root=m∧e=.returned (.tuple #[.int .i64 (m:Int),.bool true])∧w'=w:=by
 obtain ⟨S,rk,ah,hM,hI, -, -⟩:=h;obtain ⟨m,hm,hf⟩:=hI.first hn;obtain ⟨x,hx,hi,h0⟩:=dG.1 hn;have ok:=hM.cells.ok;have hgl:g<A.hs.length:=by have:=(ok.nat x hx).2;omega
 have hAh:=ok.h1;have k:=mQ hM.cells (g:Int) ω;have hh0:=hM.h0;have h3:=hM.h3;have d:=hM.ic.cell g (by rw [hM.gP];exact hgl)
 rw [hI.top g hgl,hm] at d;have htl:g<ah.length:=by rw [hM.gP];exact hgl
 generalize hl:cu A (g:Int)=n at *
 have hb:((n:Int) == 0)=false:=ζ;have HF:=χ (ψ hf hm);clear hM hI hm hf hx hi h0 ok hl
 go_enter Tryz.func243,Tryz.ntmps243
 go_wp2_with (first|(go_at_call 142;(with_reducible refine (k).mono ?_);rintro e w9 ⟨rfl,hw9⟩;rw [hw9];clear hw9 w9))
 go_ret2;exact ⟨m,HF.out.1,HF.out.2,rfl,rfl⟩
end
theorem KO {A:NS} {x:Nat} {k s:Int} (hB:iy A x k s=true) (hx:x<A.cs.length) {l r:BT} (h:Heap A (.node x l r)) (hn:(BT.node x l r).nodes.Nodup):Heap (ak A x k s) (.node x l r):=by
 simp only [BT.nodes,List.nodup_cons,List.mem_append,not_or] at hn;have hle:=qA hB;rw [π] at hle;have hc:=pO hB hx;have hy:∀y,y≠x→(ak A x k s).c y=A.c y:=fun y e=>by rw [hc,if_neg e]
 have hxx:(ak A x k s).c x=⟨(A.c x).i,k,s⟩:=by rw [hc,if_pos rfl]
 refine ⟨fun y m=>jw (h.1 y m) (hy y (fun e=>hn.1.1 (by rw [←e];exact m))) ?_,fun y m=>jw (h.2.1 y m) (hy y (fun e=>hn.1.2 (by rw [←e];exact m))) ?_,h.2.2.1.frame (fun y m=>hy y (fun e=>hn.1.1 (by rw [←e];exact m))),h.2.2.2.frame (fun y m=>hy y (fun e=>hn.1.2 (by rw [←e];exact m)))⟩
 ·rw [hxx];exact hle
 ·rw [hxx];exact hle
theorem sM.low {K:LD} {A:NS} {S S':TS} {ah tops':List Int} {tr:Nat→BT} (h:sM K A S ah tr) {g x:Nat} {k s:Int} (hB:iy A x k s=true) (hx:x∈(tr g).nodes) {t':BT}
  (hT:bG S' (-1) t'.root t') (hp:t'.nodes.Perm (tr g).nodes) (hH:K.H (ak A x k s) t') (hs:∀y,y∉(tr g).nodes→S.at S' y)
  (htp:∀q,q<A.hs.length→tops'.getD q 0=if q=g then t'.root else ah.getD q 0) :
  sM K (ak A x k s) S' tops' (fun q=>if q=g then t' else tr q):=by
 have hm:=(h.mem g x).1 hx;have hc:=pO hB hm.2.1;have hi:=fP hB hm.2.1;refine h.next (eB _ _ _ _) (fun q=>q≠g) (fun q hq=>⟨if_neg hq,fun y hy=>?_⟩) (fun q hq y hy hq0=>?_) (fun q hq=>?_) (fun q hq=>?_) (fun y hy hy0=>?_)
 ·have hyg:y∉(tr g).nodes:=fun hm=>by
   have a1:=(h.mem g y).1 hm;have a2:=(h.mem q y).1 hy;omega
  exact ⟨hs y hyg,by rw [hc,if_neg (fun e=>hyg (by rw [e];exact hx))]⟩
 ·rw [hi]
 ·have hq':q=g:=Classical.not_not.1 hq;subst hq';rw [if_pos rfl];refine ⟨hT,hp.nodup_iff.2 (h.nd q),hH,fun y=>?_⟩
  rw [hp.mem_iff,h.mem q y,hi]
 ·rw [jm] at hq;rw [htp q hq]
  by_cases e:q=g
  ·rw [if_pos e,if_pos e]
  ·rw [if_neg e,if_neg e];exact h.top q hq
 ·rw [hi] at hy0;have a1:=h.free y hy hy0;have a2:=hs y (h.out hy0);exact ⟨a2.1.trans a1.1,a2.2.1.trans a1.2.1,a2.2.2.trans a1.2.2⟩
theorem sM.del {K:LD} {A:NS} {S S':TS} {ah tops':List Int} {tr:Nat→BT} (h:sM K A S ah tr) {g x:Nat} (hx:x∈(tr g).nodes) {t':BT}
  (hT:bG S' (-1) t'.root t') (hp:(x::t'.nodes).Perm (tr g).nodes) (hH:K.H A t') (hs:∀y,y∉(tr g).nodes→S.at S' y) (hf:S'.l x=-1∧S'.r x=-1∧S'.u x=-1)
  (htp:∀q,q<A.hs.length→tops'.getD q 0=if q=g then t'.root else ah.getD q 0) :
  sM K (aL A x) S' tops' (fun q=>if q=g then t' else tr q):=by
 have hm:=(h.mem g x).1 hx;have hin:bD A (x:Int)=true:=(af A x).2 ⟨hm.2.1,ω⟩;have hc:=rq hin;have hnd:(x::t'.nodes).Nodup:=hp.nodup_iff.2 (h.nd g);have hxt:x∉t'.nodes:=(List.nodup_cons.1 hnd).1;refine h.next (dw _ _) (fun q=>q≠g) (fun q hq=>⟨if_neg hq,fun y hy=>?_⟩) (fun q hq y hy hq0=>?_) (fun q hq=>?_) (fun q hq=>?_) (fun y hy hy0=>?_)
 ·have hyg:y∉(tr g).nodes:=fun hm=>by
   have a1:=(h.mem g y).1 hm;have a2:=(h.mem q y).1 hy;omega
  exact ⟨hs y hyg,by rw [hc,if_neg (fun e=>hyg (by rw [e];exact hx))]⟩
 ·rw [hc]
  by_cases e:y=x
  ·rw [if_pos e,e]
   show (0:Int)=(q:Int)↔_
   omega
  ·rw [if_neg e]
 ·have hq':q=g:=Classical.not_not.1 hq;subst hq';rw [if_pos rfl];refine ⟨hT,(List.nodup_cons.1 hnd).2,K.frame hH (fun y hy=>by rw [hc,if_neg (fun e=>hxt (by rw [←e];exact hy))]),fun y=>?_⟩
  have e1:=hp.mem_iff (a:=y);rw [List.mem_cons,h.mem q y] at e1;rw [hc]
  by_cases e:y=x
  ·rw [if_pos e,e];refine ⟨fun hh=>absurd hh hxt,fun hh=>?_⟩
   have:(0:Int)=(q:Int):=hh.2.2;omega
  ·rw [if_neg e,←e1];simp [e]
 ·rw [fA] at hq;rw [htp q hq]
  by_cases e:q=g
  ·rw [if_pos e,if_pos e]
  ·rw [if_neg e,if_neg e];exact h.top q hq
 ·rw [hc] at hy0
  by_cases e:y=x
  ·rw [e];exact hf
  ·rw [if_neg e] at hy0;have a1:=h.free y hy hy0;have a2:=hs y (h.out hy0);exact ⟨a2.1.trans a1.1,a2.2.1.trans a1.2.1,a2.2.2.trans a1.2.2⟩
instance:Nonempty (List Fr×BT×BT):=⟨([],.nil,.nil)⟩
noncomputable def pathOf (t:BT) (x:Nat):List Fr×BT×BT:=Classical.epsilon fun q:List Fr×BT×BT=>t=ae q.1 (.node x q.2.1 q.2.2)
theorem kK {t:BT} {x:Nat} (h:x∈t.nodes):t=ae (pathOf t x).1 (.node x (pathOf t x).2.1 (pathOf t x).2.2):=by
 obtain ⟨P,l,r,e⟩:=uB h;unfold pathOf;exact Classical.epsilon_spec (p:=fun q:List Fr×BT×BT=>t=ae q.1 (.node x q.2.1 q.2.2)) ⟨(P,l,r),e⟩
theorem aA {P:List Fr} {t:BT} {y:Nat}:y∈(ae P t).nodes↔y∈t.nodes∨y∈bV P:=by
 rw [(aJ P t).mem_iff,List.mem_append]
def cutV (f:Fr) (t:BT):Int:=if t.root=-1 then 0 else (f.1:Int)
section
variable {w:World} {bt ba n:Nat} {S:TS}
theorem lG (h:aT w bt ba n S) {f:Fr} {P:List Fr} {t:BT} (hT:bG S (-1) (ae (f::P) t).root (ae (f::P) t)) (hn:(ae (f::P) t).nodes.Nodup) (hlt:∀y,y∈(ae (f::P) t).nodes→y<n) :
  Calls Tryz.prog 244 #[.pointer (some ⟨bt,0,none⟩),.int .i64 t.root] w fun e w'=>e=.returned (.tuple #[.int .i64 (cutV f t),.bool (tb t.root)])∧aa [ba] w w'∧
   ∃S',aT w' bt ba n S'∧bG S' (-1) t.root t∧bG S' (-1) (ae (f::P) .nil).root (ae (f::P) .nil)∧∀y,y∉(ae (f::P) t).nodes→S.at S' y:=by
 by_cases ht:t=.nil
 ·subst ht;refine (zS bt ba n S (-1) w h (by unfold mF;simp)).mono ?_
  rintro e w' ⟨rfl,rfl⟩;exact ⟨by simp [cutV,BT.root,tb],aa.refl _ _,S,h,rfl,hT,fun y _=>⟨rfl,rfl,rfl⟩⟩
 ·obtain ⟨c1,c2,c3⟩:=J3 hT ht hn;obtain ⟨m1,m2⟩:=bg ht;have hp:=(cz _ _).1 hT;have hu:S.u t.root.toNat=(f.1:Int):=by
   cases t with
   | nil=>exact absurd rfl ht
   | node y a b=>exact hp.1.2.1
  have hf:f.1<n:=hlt _ (aA.2 (Or.inr (by simp [bV])))
  have hr:t.root.toNat<n:=hlt _ (aA.2 (Or.inl m1));have hne:t.root≠-1:=ω;have k:=zY bt ba n S f.1 t.root.toNat w h hf hr hu;rw [←m2] at k;refine k.mono ?_;rintro e w' ⟨rfl,h',hu'⟩;refine ⟨by unfold cutV tb;rw [if_neg hne];simp [hne],hu',_,h',c1,c2,fun y hy=>c3 y (fun e=>hy ?_) (fun e=>hy ?_)⟩
  ·rw [e];exact aA.2 (Or.inr (by simp [bV]))
  ·rw [e];exact aA.2 (Or.inl m1)
theorem zu (h:aT w bt ba n S) {f:Fr} {P:List Fr} {m:BT} (hT:bG S (-1) (ae (f::P) .nil).root (ae (f::P) .nil)) (hM:bG S (-1) m.root m) (hm:m≠.nil) (hn:(m.nodes++bV (f::P)).Nodup) (hlt:∀y,y∈m.nodes++bV (f::P)→y<n) :
  Calls Tryz.prog 251 #[.pointer (some ⟨bt,0,none⟩),.int .i64 (f.1:Int),.int .i64 m.root,.bool f.2.1] w fun e w'=>e=.returned (.bool true)∧aa [ba] w w'∧
   ∃S',aT w' bt ba n S'∧bG S' (-1) (ae (f::P) m).root (ae (f::P) m)∧∀y,y∉m.nodes++bV (f::P)→S.at S' y:=by
 obtain ⟨c1,c2⟩:=IQ hT hM hm hn;obtain ⟨m1,m2⟩:=bg hm;have hp:=(cz _ _).1 hT;have hk:S.kid f.2.1 f.1=-1:=hp.2.1;have hu:S.u m.root.toNat=-1:=by
  cases m with
  | nil=>exact absurd rfl hm
  | node y a b=>exact hM.2.1
 have hf:f.1<n:=hlt _ (by simp [bV])
 have hr:m.root.toNat<n:=hlt _ (by simp [m1])
 have hne:f.1≠m.root.toNat:=fun e=>by
  rw [List.nodup_append] at hn;exact hn.2.2 _ m1 f.1 (by simp [bV]) e.symm
 have k:=wz bt ba n S f.1 m.root.toNat f.2.1 w h hf hr hne hu hk;rw [←m2] at k;refine k.mono ?_;rintro e w' ⟨rfl,h',hu'⟩;refine ⟨rfl,hu',_,h',c1,fun y hy=>c2 y (fun e=>hy ?_) (fun e=>hy ?_)⟩
 ·rw [e];simp [bV]
 ·rw [e];simp [m1]
theorem FQ (h:aT w bt ba n S) {P:List Fr} {x:Nat} {l r:BT} (hT:bG S (-1) (ae P (.node x l r)).root (ae P (.node x l r))) (hx:x<n) :
  Calls Tryz.prog 250 #[.pointer (some ⟨bt,0,none⟩),.int .i64 (x:Int)] w fun e w'=>e=.returned (.tuple #[.int .i64 (tv (zG P)),.bool (tb (zG P))])∧∃k,w'=w.drewN k:=by
 have k:=KF bt ba n S (x:Int) w h;have e:mF n S (x:Int)=zG P:=by
  unfold mF;rw [if_pos ω,π];exact ((cz _ _).1 hT).1.2.1
 rw [e] at k;exact k
theorem zB (h:aT w bt ba n S) {p:Int} {x:Nat} {l r:BT} (hT:bG S p x (.node x l r)) (hx:x<n) :
  Calls Tryz.prog 248 #[.pointer (some ⟨bt,0,none⟩),.int .i64 (x:Int)] w fun e w'=>e=.returned (.tuple #[.int .i64 (tv l.root),.bool (tb l.root)])∧∃k,w'=w.drewN k:=by
 have e:eY n S (x:Int) false=l.root:=by
  unfold eY TS.kid;rw [if_pos ω];simp only [π];exact hT.2.2.1.root
 have k:=wh bt ba n S (x:Int) w h;rw [e] at k;exact k
theorem rO (h:aT w bt ba n S) {p:Int} {x:Nat} {l r:BT} (hT:bG S p x (.node x l r)) (hx:x<n) :
  Calls Tryz.prog 249 #[.pointer (some ⟨bt,0,none⟩),.int .i64 (x:Int)] w fun e w'=>e=.returned (.tuple #[.int .i64 (tv r.root),.bool (tb r.root)])∧∃k,w'=w.drewN k:=by
 have e:eY n S (x:Int) true=r.root:=by
  unfold eY TS.kid;rw [if_pos ω];simp only [if_true,π];exact hT.2.2.2.root
 have k:=mJ bt ba n S (x:Int) w h;rw [e] at k;exact k
theorem zx (h:aT w bt ba n S) {f:Fr} {P:List Fr} {x:Nat} {l r:BT} (hT:bG S (-1) (ae (f::P) (.node x l r)).root (ae (f::P) (.node x l r))) (hn:(ae (f::P) (.node x l r)).nodes.Nodup) (hf:f.1<n) :
  ∃z:Int,(z == (x:Int))=f.2.1∧Calls Tryz.prog 249 #[.pointer (some ⟨bt,0,none⟩),.int .i64 (f.1:Int)] w fun e w'=>e=.returned (.tuple #[.int .i64 (tv z),.bool (tb z)])∧∃k,w'=w.drewN k:=by
 refine ⟨S.r f.1,?_,?_⟩
 ·have hp:=(cz _ _).1 hT;obtain ⟨q1,q2,_,_⟩:=hp.2;unfold TS.kid at q1 q2;cases hs:f.2.1
  ·rw [hs] at q1 q2;simp only [Bool.not_false,if_true] at q2;have e2:=q2.root;have hx:x∉f.2.2.nodes:=fun hm=>by
    have h1:=(aJ (f::P) (.node x l r)).nodup_iff.1 hn;rw [List.nodup_append] at h1;exact h1.2.2 x (by simp [BT.nodes]) x (by simp [bV,hm]) rfl
   have:S.r f.1≠(x:Int):=fun e=>by
    rw [e2] at e
    by_cases hnil:f.2.2=.nil
    ·rw [hnil] at e;have e:(-1:Int)=x:=e;omega
    ·have:=(bg hnil).1;rw [e] at this;exact hx this
   simpa using this
  ·rw [hs] at q1;simp only [if_true] at q1;rw [q1];simp [BT.root]
 ·have k:=mJ bt ba n S (f.1:Int) w h;have e:eY n S (f.1:Int) true=S.r f.1:=by unfold eY TS.kid;rw [if_pos ω];simp
  rw [e] at k;exact k
end
end Go.Proofs.YtklibcncmbofpaaGreat
