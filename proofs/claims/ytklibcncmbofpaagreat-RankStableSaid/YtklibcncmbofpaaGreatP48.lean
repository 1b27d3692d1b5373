/-
  Lemmas for RankSorts: Sk4, Sk5, Sk6, SkQ, SkO. Conditions: those of each lemma.
-/
import Derived.Test.YtklibcncmbofpaaGreatP47
set_option maxHeartbeats 8000000
set_option maxRecDepth 10000
set_option linter.unusedVariables false
set_option linter.unusedSimpArgs false
namespace Go.Proofs.YtklibcncmbofpaaGreat
open Go Go.RowKit
noncomputable def De (A:NS) (t:BT) (x:Nat):BT×Nat:=(ae (pathOf t x).1 (aF oG A (pathOf t x).2.1 (pathOf t x).2.2).1,(aF oG A (pathOf t x).2.1 (pathOf t x).2.2).2)
section
variable {w:World} {B:SB} {F:List Nat} {A:NS} {st:Nat} {tr:Nat→BT} {S:TS} {f:Int→Option Int}
theorem Eo {bt ba n:Nat} (h:aT w bt ba n S) {fr:Fr} {P:List Fr} {x:Nat} {l r:BT} (hT:bG S (-1) (ae (fr::P) (.node x l r)).root (ae (fr::P) (.node x l r))) (hn:(ae (fr::P) (.node x l r)).nodes.Nodup) (hf:fr.1<n) :
  ∃ (r':Int) (b:Bool),((b=true∧(r' == (x:Int))=fr.2.1)∨(b=false∧fr.2.1=false))∧Calls Tryz.prog 249 #[.pointer (some ⟨bt,0,none⟩),.int .i64 (fr.1:Int)] w fun e w'=>e=.returned (.tuple #[.int .i64 r',.bool b])∧∃k,w'=w.drewN k:=by
 obtain ⟨z,hz,k⟩:=zx h hT hn hf
 by_cases e:z=-1
 ·refine ⟨tv z,tb z,Or.inr ⟨by rw [e];rfl,?_⟩,k⟩
  rw [←hz,e];first|(simp;done)|(simp;omega)
 ·exact ⟨tv z,tb z,Or.inl ⟨by unfold tb;simp [e],by unfold tv;rw [if_neg e];exact hz⟩,k⟩
def MR (w':World) (B:SB) (F:List Nat) (A:NS) (st:Nat) (S:TS) (f:Int→Option Int) (g x:Nat) (P:List Fr) (X:List Nat) (T:BT):Prop:=
 ∃S',lM w' B F (aL A x) st S' (fun y=>if P=[]∧y=(g:Int) then (if T.root=-1 then none else some T.root) else f y)∧bG S' (-1) T.root T∧(∀y,y∉X→S.at S' y)∧(S'.l x=-1∧S'.r x=-1∧S'.u x=-1)
theorem A8 (hM:lM w B F A st S f) {g x:Nat} {P:List Fr} {l r:BT} (hin:bD A (x:Int)=true) (hg:(A.c x).i=g) (hgq:1≤g∧g≤65536)
  (hT:bG S (-1) (ae P (.node x l r)).root (ae P (.node x l r))) (hn:(ae P (.node x l r)).nodes.Nodup) (hall:∀y,y∈(ae P (.node x l r)).nodes→bD A (y:Int)=true) :
  Calls Tryz.prog 261 #[.pointer (some ⟨B.n0,0,none⟩),.int .i64 (x:Int)] w fun e w'=>e=.returned (.bool true)∧aa (B.blk F) w w'∧
   MR w' B F A (bC st (aF oG A l r).2) S f g x P (ae P (.node x l r)).nodes (ae P (aF oG A l r).1):=by
 have hxl:=((af A x).1 hin).1;have hlt:∀y,y∈(ae P (.node x l r)).nodes→y<A.cs.length:=fun y hy=>((af A y).1 (hall y hy)).1
 have kh:=bZ hM.cells x hin;rw [hg] at kh;have h0:=hM.h0;have HM:=χ hM;have hpp:=nH hn;have mp:=(jJ ry A _ l r (Nat.le_refl _)).1;have hblk:=χ hM.lt;have hcF:=hM.cF;have hsep:=χ (ψ hM.sep hM.aZ);have HT:=χ (ψ hT (ψ hn (ψ hall hlt)));have HP:=χ hpp;have hA:=hM.cells.ok.c1;obtain ⟨m,k,hmk⟩:∃m k,aF oG A l r=(m,k):=⟨_,_,rfl⟩
 rw [hmk] at mp;rw [hmk]
 have hmlt:∀y,y∈m.nodes→y<A.cs.length:=fun y hy=>hlt y (aA.2 (Or.inl (by
  have:=mp.mem_iff.1 hy
  simp only [BT.nodes];exact List.mem_cons_of_mem _ this)))
 have hmr:-1≤m.root∧m.root≤9223372036854775807:=by
  refine ⟨vV m,?_⟩
  by_cases e:m=.nil
  ·rw [e];show (-1:Int)≤_;omega
  ·have h1:=bg e;have h2:=hmlt _ h1.1;omega
 have HMP:=χ mp;have HMK:=χ hmk;have HIN:=χ hin;have HML:=χ hmlt;clear hM hT hn hall hlt hpp mp hmk hin hg hmlt
 go_enter Tryz.func261,Tryz.ntmps261
 go_wp2_with (first|((go_at_call 140;(with_reducible refine (kh).mono ?_));rintro e w1 ⟨rfl,hC1,hu1⟩;(have g1:=(HM.out.bI hu1 hC1 (fun y hy=>Or.inl hy) rfl).h1))|fail)
 have hM1:=HM.out.bI hu1 hC1 (fun y hy=>Or.inl hy) rfl
 have kl:=fun W (hW:aa [] w1 W)=>zB (hM1.aj hW).trees ((cz _ _).1 HT.out.1).1 hxl
 have klo:=fun W (hW:aa [] w1 W)=>xC (hM1.aj hW) (fr:=(x,false,r)) (P:=P) (t:=l) HT.out.1 HT.out.2.1 HT.out.2.2.2
 have hn0:B.n0∉[B.c,B.ba]:=by
  have a1:=hsep.out;have a2:B.n0≠B.c:=fun e=>a1.2.1 (by rw [e];exact hcF)
  simp;omega
 have r1:∀W,aa [B.c,B.ba] w1 W→W.cell? ⟨B.n0,1,none⟩=some (.pointer (some ⟨B.bt,0,none⟩)):=fun W hW=>hW.kept g1 hn0
 have hn3:(ae ((x,true,.nil)::P) r).nodes.Nodup:=by
  have e:=(aJ P (.node x .nil r));refine e.nodup_iff.2 ?_;obtain ⟨⟨a1,a2,a3⟩,a4,a5,a6,a7⟩:=HP.out;simp only [BT.nodes,List.nil_append,List.nodup_append] at a4 ⊢;refine ⟨List.nodup_cons.2 ⟨a2,a4.2.1⟩,a7,fun y hy z hz e=>?_⟩
  subst e;rcases List.mem_cons.1 hy with e|hy
  ·exact a3 (by rw [←e];exact hz)
  ·exact a6 y hy hz
 have hsub3:∀y,y∈(ae ((x,true,.nil)::P) r).nodes→y∈(ae P (.node x l r)).nodes:=fun y hy=>by
  have h':y∈(ae P (.node x .nil r)).nodes:=hy;rw [aA] at h' ⊢;simp only [BT.nodes,List.nil_append,List.mem_cons,List.mem_append] at h' ⊢;rcases h' with (h'|h')|h'
  ·exact Or.inl (Or.inl h')
  ·exact Or.inl (Or.inr (Or.inr h'))
  ·exact Or.inr h'
 have hl3':∀y,y∈l.nodes→y∉(ae ((x,true,.nil)::P) r).nodes:=fun y hy hm=>by
  obtain ⟨⟨a1,a2,a3⟩,a4,a5,a6,a7⟩:=HP.out;rw [List.nodup_append] at a4;have h':y∈(ae P (.node x .nil r)).nodes:=hm;rw [aA] at h';simp only [BT.nodes,List.nil_append,List.mem_cons] at h';rcases h' with (h'|h')|h'
  ·exact a1 (by rw [←h'];exact hy)
  ·exact a4.2.2 y hy y h' rfl
  ·exact a5 y hy h'
 have H3:=χ (ψ hn3 (ψ hsub3 hl3'));clear hM1 hC1 kh h0 hn3 hsub3 hl3'
 go_region_held3 (aa [B.c,B.ba] w1) (repeat (first|assumption|exact aa.refl _ _|refine aa.drew ?_|refine aa.alloc ?_ _|refine aa.setCell ?_ ?_ _|focus (left;simp;done)|focus (right;simp;done)|focus (right;simp;omega)|(apply aa.trans;rotate_left;assumption)))
  (first
   | ((go_at_call 248;(with_reducible refine (kl _ η).mono ?_));rintro e w2 ⟨rfl,k2,hw2⟩;(have hq2:aa [] w1 w2:=(by rw [hw2];refine aa.drewN ?_ _;(repeat (first|assumption|exact aa.refl _ _|refine aa.drew ?_|refine aa.alloc ?_ _|(apply aa.trans;rotate_left;assumption)))));clear hw2;(have hv2:aa [B.c,B.ba] w1 w2:=hq2.mono σ))
   | ((go_at_call 269;(with_reducible refine (klo _ η).mono ?_));rintro e w3 ⟨rfl,hu3,S3,hM3,hl3,hp3,hs3⟩;(have hv3:aa [B.c,B.ba] w1 w3:=aa.trans (by (repeat (first|assumption|exact aa.refl _ _|refine aa.drew ?_|refine aa.alloc ?_ _|refine aa.setCell ?_ ?_ _|focus (left;simp;done)|focus (right;simp;done)|focus (right;simp;omega)|(apply aa.trans;rotate_left;assumption)))) (hu3.mono σ));(have hp3':bG S3 (-1) (ae ((x,true,.nil)::P) r).root (ae ((x,true,.nil)::P) r):=hp3);(have kr:=fun W (hW:aa [] w3 W)=>rO (hM3.aj hW).trees ((cz P (.node x .nil r)).1 hp3').1 hxl);(have klo2:=fun W (hW:aa [] w3 W)=>xC (hM3.aj hW) (fr:=(x,true,.nil)) (P:=P) (t:=r) hp3' H3.out.1 (fun y hy=>HT.out.2.2.2 y (H3.out.2.1 y hy))))
   | ((go_at_call 249;(with_reducible refine (kr _ η).mono ?_));rintro e w4 ⟨rfl,k4,hw4⟩;(have hq4:aa [] w3 w4:=(by rw [hw4];refine aa.drewN ?_ _;(repeat (first|assumption|exact aa.refl _ _|refine aa.drew ?_|refine aa.alloc ?_ _|(apply aa.trans;rotate_left;assumption)))));clear hw4;(have hv4:aa [B.c,B.ba] w1 w4:=hv3.trans (hq4.mono σ)))
   | ((go_at_call 269;(with_reducible refine (klo2 _ η).mono ?_));rintro e w5 ⟨rfl,hu5,S5,hM5,hr5,hp5,hs5⟩;(have hv5:aa [B.c,B.ba] w1 w5:=aa.trans (by (repeat (first|assumption|exact aa.refl _ _|refine aa.drew ?_|refine aa.alloc ?_ _|refine aa.setCell ?_ ?_ _|focus (left;simp;done)|focus (right;simp;done)|focus (right;simp;omega)|(apply aa.trans;rotate_left;assumption)))) (hu5.mono σ));(have km:=fun W (hW:aa [] w5 W)=>rQ (hM5.aj hW) (hl3.frame (fun y hy=>hs5 y (H3.out.2.2 y hy))) hr5 HP.out.2.1 (fun y hy=>HT.out.2.2.1 y (aA.2 (Or.inl (by simp only [BT.nodes];exact List.mem_cons_of_mem _ hy)))));rw [HMK.out] at km)
   | ((go_at_call 267;(with_reducible refine (km _ η).mono ?_));rintro e w6 ⟨rfl,hu6,S6,hM6,hT6,hs6⟩;(have hv6:aa [B.c,B.ba] w1 w6:=aa.trans (by (repeat (first|assumption|exact aa.refl _ _|refine aa.drew ?_|refine aa.alloc ?_ _|refine aa.setCell ?_ ?_ _|focus (left;simp;done)|focus (right;simp;done)|focus (right;simp;omega)|(apply aa.trans;rotate_left;assumption)))) hu6)))
 have hp6:bG S6 (-1) (ae P (.node x .nil .nil)).root (ae P (.node x .nil .nil)):=bG.frame (show bG S5 (-1) (ae P (.node x .nil .nil)).root (ae P (.node x .nil .nil)) from hp5) (fun y hy=>hs6 y (fun hm=>by
  obtain ⟨⟨a1,a2,a3⟩,a4,a5,a6,a7⟩:=HP.out;rw [aA] at hy;simp only [BT.nodes,List.nil_append,List.mem_cons,List.not_mem_nil,or_false] at hy;rw [List.mem_append] at hm;rcases hy with e|hy
  ·subst e;rcases hm with hm|hm;exact a1 hm;exact a2 hm
  ·rcases hm with hm|hm;exact a5 y hm hy;exact a6 y hm hy))
 have f6:∀y,y∉(ae P (.node x l r)).nodes→S.at S6 y:=fun y hy=>by
  have h1:y∉l.nodes++r.nodes:=fun hm=>hy (aA.2 (Or.inl (by simp only [BT.nodes];exact List.mem_cons_of_mem _ hm)))
  exact dY (dY (hs3 y hy) (hs5 y (fun hm=>hy (H3.out.2.1 y hm)))) (hs6 y h1)
 have u6:aa (B.blk F) w w6:=(hu1.mono (fun y hy=>by simp only [SB.blk,List.mem_cons];simp [hy])).trans (hv6.mono (fun y hy=>by
   simp only [List.mem_cons,List.not_mem_nil,or_false] at hy;simp only [SB.blk,List.mem_cons];rcases hy with rfl|rfl
   ·simp [hcF]
   ·simp))
 have ku:=fun W (hW:aa [] w6 W)=>FQ (hM6.aj hW).trees hp6 hxl
 have q61:=fun W (hW:aa [] w6 W)=>(hM6.aj hW).h1
 have HM6:=χ hM6;have H6:=χ (ψ hp6 (ψ f6 hT6));have hmm:Hid (∀y,y∈m.nodes→y∉bV P∧y≠x):=fun y hy=>by
  obtain ⟨⟨a1,a2,a3⟩,a4,a5,a6,a7⟩:=HP.out;have h1:=HMP.out.mem_iff.1 hy;rw [List.mem_append] at h1;rcases h1 with h1|h1
  ·exact ⟨a5 y h1,fun e=>a1 (by rw [←e];exact h1)⟩
  ·exact ⟨a6 y h1,fun e=>a2 (by rw [←e];exact h1)⟩
 have hmx:Hid (∀y,y∈m.nodes→y∈(ae P (.node x l r)).nodes):=fun y hy=>aA.2 (Or.inl (by
  have h1:=HMP.out.mem_iff.1 hy
  simp only [BT.nodes,List.mem_cons];exact Or.inr h1))
 have hmn:Hid m.nodes.Nodup:=HMP.out.nodup_iff.2 HP.out.2.1;have H31:=q61 w6 (aa.refl _ _);have H32:=(hM6.aj ((aa.refl [] w6).drew)).h1;clear hM6 hp6 f6 hT6 hs6 hs5 hs3 hp5 hp3 hp3' hl3 hr5 hM5 hM3 km klo klo2 kr kl r1 hu1 g1 hv6 hv5 hv4 hv3 hv2 hq2 hq4 hu3 hu5 hu6 H31 H32;obtain ⟨wX,hwX,uX⟩:∃wX,wX=w6∧aa [] w6 wX:=⟨w6,rfl,aa.refl _ _⟩
 cases P with
 | nil=>
  rw [show zG ([]:List Fr)=-1 from rfl,show tv (-1)=0 from rfl,show tb (-1)=false from rfl] at ku
  have g61:=q61 w6 (aa.refl _ _);clear q61
  go_wp2_with (first
   | ((go_at_call 250;(with_reducible refine (ku _ η).mono ?_));rintro e w7 ⟨rfl,kk,hw7⟩;(have u7:aa [] w6 w7:=(by rw [hw7];refine aa.drewN ?_ _;(repeat (first|assumption|exact aa.refl _ _|refine aa.drew ?_|refine aa.alloc ?_ _|(apply aa.trans;rotate_left;assumption)))));clear hw7;(have kc:=rE (HM6.out.aj u7) g m.root hgq hmr))
   | ((go_at_call 266;(with_reducible refine (kc).mono ?_));rintro e w8 ⟨rfl,hu8,hM8⟩;(have g80:=hM8.h0);(have kd:=fw hM8.cells x HIN.out))
   | ((go_at_call 151;(with_reducible refine (kd).mono ?_));rintro e w9 ⟨rfl,hC9,hu9⟩)
   | fail)
  go_ret;obtain ⟨b1,b2,b4⟩:=H6.out;have bx:=((cz _ _).1 b1).1;refine ⟨rfl,((u6.trans (u7.mono σ)).trans (hu8.mono (by simp [SB.blk]))).trans (hu9.mono (fun y hy=>by simp only [SB.blk,List.mem_cons];simp [hy])),S6,(hM8.bI hu9 hC9 (fun y hy=>Or.inl hy) (dw _ _)).ext (fun y=>?_),b4,b2,⟨bx.2.2.1.root,bx.2.2.2.root,bx.2.1⟩⟩
  by_cases e:y=(g:Int)
  ·rw [if_pos (show ([]:List Fr)=[]∧y=(g:Int) from ⟨rfl,e⟩),if_pos e];rfl
  ·rw [if_neg e,if_neg (show ¬ (([]:List Fr)=[]∧y=(g:Int)) from fun h=>e h.2)]
 | cons fr P2=>
  rw [show zG (fr::P2)=(fr.1:Int) from rfl,Ji,Ab] at ku
  have hfl:fr.1<A.cs.length:=HT.out.2.2.2 fr.1 (aA.2 (Or.inr (by simp [bV])))
  have hn5:(ae (fr::P2) (.node x .nil .nil)).nodes.Nodup:=by
   refine (aJ (fr::P2) (.node x .nil .nil)).nodup_iff.2 ?_;obtain ⟨⟨a1,a2,a3⟩,a4,a5,a6,a7⟩:=HP.out;simp only [BT.nodes,List.nil_append,List.singleton_append,List.nodup_cons];exact ⟨a3,a7⟩
  have hlt5:∀y,y∈(ae (fr::P2) (.node x .nil .nil)).nodes→y∈(ae (fr::P2) (.node x l r)).nodes:=fun y hy=>by
   rw [aA] at hy ⊢;simp only [BT.nodes,List.nil_append,List.mem_cons,List.not_mem_nil,or_false] at hy;rcases hy with hy|hy
   ·exact Or.inl (by simp [BT.nodes,hy])
   ·exact Or.inr hy
  have ksd:=fun W (hW:aa [] w6 W)=>Eo (HM6.out.aj hW).trees H6.out.1 hn5 hfl
  have kcw:=fun W (hW:aa [] w6 W)=>lG (HM6.out.aj hW).trees (f:=fr) (P:=P2) (t:=.node x .nil .nil) H6.out.1 hn5 (fun y hy=>HT.out.2.2.2 y (hlt5 y hy))
  rw [show BT.root (.node x .nil .nil)=(x:Int) from rfl] at kcw
  generalize hcv:cutV fr (.node x .nil .nil)=cv at kcw;generalize hcb:tb (x:Int)=cb at kcw;have HN5:=χ (ψ hn5 hlt5);have g61:=q61 w6 (aa.refl _ _);clear hn5 hlt5 hcv hcb
  go_wp2_with (first
   | ((go_at_call 250;(with_reducible refine (ku _ η).mono ?_));rintro e w7 ⟨rfl,kk,hw7⟩;(have u7:aa [] w6 w7:=(by rw [hw7];refine aa.drewN ?_ _;(repeat (first|assumption|exact aa.refl _ _|refine aa.drew ?_|refine aa.alloc ?_ _|(apply aa.trans;rotate_left;assumption)))));clear hw7;(have g71:=q61 w7 u7))
   | fail)
  obtain ⟨r',bb,hbb,kr⟩:=ksd w7 u7;have hmz':(m=.nil∧(m.root != -1)=false)∨(m≠.nil∧(m.root != -1)=true):=by
   by_cases e:m=.nil
   ·exact Or.inl ⟨e,by rw [e];rfl⟩
   ·exact Or.inr ⟨e,by have:=(bg e).2;simp;omega⟩
  have HQ61:=χ q61;clear ksd ku q61;rcases hmz' with ⟨hmz,hmb⟩|⟨hmz,hmb⟩
  ·have HMZ:=χ hmz;clear hmz;rcases hbb with ⟨rfl,hb2⟩|⟨rfl,hb2⟩
   all_goals
    go_wp2_with (first
     | ((go_at_call 249;(with_reducible refine (kr).mono ?_));rintro e w8 ⟨rfl,k8,hw8⟩;(have u8:aa [] w6 w8:=(by rw [hw8];exact u7.drewN k8));clear hw8;(have g81:=HQ61.out w8 u8);(have kc:=kcw w8 u8))
     | ((go_at_call 244;(with_reducible refine (kc).mono ?_));rintro e w9 ⟨rfl,hu9,S9,hT9,hx9,hp9,hs9⟩;(have g90:=((HM6.out.aj u8).fM hu9 hT9).h0);(have kd:=fw ((HM6.out.aj u8).fM hu9 hT9).cells x HIN.out))
     | ((go_at_call 151;(with_reducible refine (kd).mono ?_));rintro e w10 ⟨rfl,hC10,hu10⟩)
     | fail)
    go_ret;have hz:=HMZ.out;subst hz;refine ⟨rfl,((u6.trans (u8.mono σ)).trans (hu9.mono (by simp [SB.blk]))).trans (hu10.mono (fun y hy=>by simp only [SB.blk,List.mem_cons];simp [hy])),S9,(((HM6.out.aj u8).fM hu9 hT9).bI hu10 hC10 (fun y hy=>Or.inl hy) (dw _ _)).ext (fun y=>by rw [if_neg σ]),hp9,fun y hy=>dY (H6.out.2.1 y hy) (hs9 y (fun hm=>hy (HN5.out.2 y hm))),⟨hx9.2.2.1.root,hx9.2.2.2.root,hx9.2.1⟩⟩
  ·have HMZ:=χ hmz;have hxm:∀y,y∈m.nodes→y∉(ae (fr::P2) (.node x .nil .nil)).nodes:=fun y hy hm=>by
    have b1:=hmm.out y hy;rw [aA] at hm;simp only [BT.nodes,List.nil_append,List.mem_cons,List.not_mem_nil,or_false] at hm;rcases hm with hm|hm
    ·exact b1.2 hm
    ·exact b1.1 hm
   have hnd:(m.nodes++bV (fr::P2)).Nodup:=by
    rw [List.nodup_append];exact ⟨hmn.out,HP.out.2.2.2.2,fun a ha b hb e=>(hmm.out a ha).1 (by rw [e];exact hb)⟩
   have hsm:∀y,y∈m.nodes++bV (fr::P2)→y∈(ae (fr::P2) (.node x l r)).nodes:=fun y hy=>by
    rw [List.mem_append] at hy;rcases hy with hy|hy
    ·exact hmx.out y hy
    ·exact aA.2 (Or.inr hy)
   have HXM:=χ (ψ hxm (ψ hnd hsm));clear hmz hxm hnd hsm;rcases hbb with ⟨rfl,hb2⟩|⟨rfl,hb2⟩
   all_goals
    go_wp2_with (first
     | ((go_at_call 249;(with_reducible refine (kr).mono ?_));rintro e w8 ⟨rfl,k8,hw8⟩;(have u8:aa [] w6 w8:=(by rw [hw8];exact u7.drewN k8));clear hw8;(have g81:=HQ61.out w8 u8);(have kc:=kcw w8 u8))
     | ((go_at_call 244;(with_reducible refine (kc).mono ?_));rintro e w9 ⟨rfl,hu9,S9,hT9,hx9,hp9,hs9⟩;(have g91:=((HM6.out.aj u8).fM hu9 hT9).h1);(have khg:=zu hT9 hp9 (H6.out.2.2.frame (fun y hy=>hs9 y (HXM.out.1 y hy))) HMZ.out HXM.out.2.1 (fun y hy=>HT.out.2.2.2 y (HXM.out.2.2 y hy)));(try rw [hb2] at khg))
     | ((go_at_call 251;(with_reducible refine (khg).mono ?_));rintro e w9b ⟨rfl,hu9b,S9b,hT9b,hp9b,hs9b⟩;(have g90:=(((HM6.out.aj u8).fM hu9 hT9).fM hu9b hT9b).h0);(have kd:=fw (((HM6.out.aj u8).fM hu9 hT9).fM hu9b hT9b).cells x HIN.out))
     | ((go_at_call 151;(with_reducible refine (kd).mono ?_));rintro e w10 ⟨rfl,hC10,hu10⟩)
     | fail)
    go_ret;have hxn:x∉m.nodes++bV (fr::P2):=fun hm=>by
     rw [List.mem_append] at hm;rcases hm with hm|hm
     ·exact (hmm.out x hm).2 rfl
     ·exact HP.out.1.2.2 hm
    have a3:=hs9b x hxn;refine ⟨rfl,(((u6.trans (u8.mono σ)).trans (hu9.mono (by simp [SB.blk]))).trans (hu9b.mono (by simp [SB.blk]))).trans (hu10.mono (fun y hy=>by simp only [SB.blk,List.mem_cons];simp [hy])),S9b,((((HM6.out.aj u8).fM hu9 hT9).fM hu9b hT9b).bI hu10 hC10 (fun y hy=>Or.inl hy) (dw _ _)).ext (fun y=>by rw [if_neg σ]),hp9b,fun y hy=>dY (dY (H6.out.2.1 y hy) (hs9 y (fun hm=>hy (HN5.out.2 y hm)))) (hs9b y (fun hm=>hy (HXM.out.2.2 y hm))),⟨a3.1.trans hx9.2.2.1.root,a3.2.1.trans hx9.2.2.2.root,a3.2.2.trans hx9.2.1⟩⟩
theorem Bz (h:jU w B F A st tr) (g x:Nat) (hx:x∈(tr g).nodes) :
  Calls Tryz.prog 261 #[.pointer (some ⟨B.n0,0,none⟩),.int .i64 (x:Int)] w fun e w'=>e=.returned (.bool true)∧aa (B.blk F) w w'∧
   jU w' B F (aL A x) (bC st (De A (tr g) x).2) (fun q=>if q=g then (De A (tr g) x).1 else tr q):=by
 obtain ⟨S,hM,hI⟩:=h;have hm:=(hI.mem g x).1 hx;have hin:bD A (x:Int)=true:=(af A x).2 ⟨hm.2.1,ω⟩;have e:=kK hx;unfold De;generalize (pathOf (tr g) x).1=P at *
 generalize (pathOf (tr g) x).2.1=l at *
 generalize (pathOf (tr g) x).2.2=r at *
 have hq:1≤g∧g<A.hs.length:=by have:=hM.cells.ok.nat x hm.2.1;omega
 have hb65:=hM.cells.ok.h1;have hT:=hI.Aw g;have hn:=hI.nd g;have hH:=hI.heap g;rw [e] at hT hn hH;obtain ⟨d1,d2,d3⟩:=Dg ry hn hH;refine (A8 hM hin hm.2.2 ω hT hn (fun y hy=>?_)).mono ?_
 ·rw [←e] at hy;have:=(hI.mem g y).1 hy;exact (af A y).2 ⟨this.2.1,ω⟩
 ·rintro e' w' ⟨rfl,hu,S',q1,q2,q4,q5⟩;refine ⟨rfl,hu,S',q1.ext (fun y=>?_),(sM.del (tops':=sj (aL A x) (fun q=>if q=g then (ae P (aF oG A l r).1) else tr q)) hI hx q2 ?_ d2 (fun y hy=>q4 y (by rw [←e];exact hy)) q5 (fun q hq'=>?_))⟩
  ·rw [←xR (A':=aL A x) (tr:=tr) (t:=ae P (aF oG A l r).1) (by rw [fA]) hq y]
   by_cases ey:y=(g:Int)
   ·rw [if_pos ey]
    by_cases hp:P=[]
    ·rw [if_pos ⟨hp,ey⟩]
    ·rw [if_neg (fun h=>hp h.1),ey]
     cases P with
     | nil=>exact absurd rfl hp
     | cons f P2=>
      unfold oh;rw [if_pos ω,π,e,iO f P2 (.node x l r) (aF oG A l r).1]
   ·rw [if_neg ey,if_neg (fun h=>ey h.2)]
  ·rw [e];exact d1
  ·have hq'':q<(aL A (x:Int)).hs.length:=by rw [fA];exact hq'
   unfold sj;rw [φ,List.getElem?_map,List.getElem?_range hq'']
   show (if q=g then ae P (aF oG A l r).1 else tr q).root=_
   by_cases eq:q=g
   ·rw [if_pos eq,if_pos eq]
   ·rw [if_neg eq,if_neg eq];rw [φ,List.getElem?_map,List.getElem?_range hq'];rfl
theorem yA (h:jU w B F A st tr) (g:Nat) (hn:0<cu A g) :
  Calls Tryz.prog 262 #[.pointer (some ⟨B.n0,0,none⟩),.int .i64 (g:Int)] w fun e w'=>∃m:Nat,bL A g=some m∧e=.returned (.tuple #[.int .i64 (m:Int),.bool true])∧aa (B.blk F) w w'∧
   jU w' B F (aL A m) (bC st (De A (tr g) m).2) (fun q=>if q=g then (De A (tr g) m).1 else tr q):=by
 have k:=zD h g hn;have kd:=fun m hm=>Bz h g m hm
 have hroot:∀m:Nat,(tr g).root=m→m∈(tr g).nodes:=fun m hm=>by
  have hne:tr g≠.nil:=fun e=>by rw [e] at hm;have:(-1:Int)=m:=hm;omega
  have:=(bg hne).1;rw [hm] at this;simpa using this
 clear h
 go_enter Tryz.func262,Tryz.ntmps262
 go_wp2_with (first
  | ((go_at_call 265;(with_reducible refine (k).mono ?_));rintro e w1 ⟨m,hm1,hm2,rfl,rfl⟩;(have kd2:=kd m (hroot m hm2)))
  | ((go_at_call 261;(with_reducible refine (kd2).mono ?_));rintro e w2 ⟨rfl,hu2,hL2⟩)
  | fail)
 go_ret2;exact ⟨m,hm1,rfl,hu2,hL2⟩
end
noncomputable def Kz (A':NS) (t:BT) (x:Nat):BT×Nat:=
 match (pathOf t x).1 with
 | []=>(t,0)
 | _::_=>aF oG A' (ae (pathOf t x).1 .nil) (.node x (pathOf t x).2.1 (pathOf t x).2.2)
section
variable {w:World} {B:SB} {F:List Nat} {A:NS} {st:Nat} {tr:Nat→BT} {S:TS} {f:Int→Option Int}
def Az (w':World) (B:SB) (F:List Nat) (A':NS) (st:Nat) (S:TS) (f:Int→Option Int) (g:Nat) (X:List Nat) (T:BT):Prop:=
 ∃S' f',lM w' B F A' st S' f'∧bG S' (-1) T.root T∧(∀y,y∉X→S.at S' y)∧∀y,f' y=if y=(g:Int) then (if T.root=-1 then none else some T.root) else f y
theorem JU (hM:lM w B F A st S f) {g x:Nat} {l r:BT} {k s:Int} (hk:-9223372036854775808≤k∧k≤9223372036854775807∧0≤s∧s≤18446744073709551615) (hB:iy A x k s=true)
  (hg:(A.c x).i=g) (hg0:0<g) (htop:f (g:Int)=some (x:Int)) (hxl:x<A.cs.length) (hT:bG S (-1) (BT.node x l r).root (.node x l r)) :
  Calls Tryz.prog 260 #[.pointer (some ⟨B.n0,0,none⟩),.int .i64 (x:Int),.agg #[.int .i64 k,.int .u64 s]] w fun e w'=>e=.returned (.bool true)∧aa (B.blk F) w w'∧
   Az w' B F (ak A x k s) st S f g (BT.node x l r).nodes (.node x l r):=by
 have hcs:=eB A x k s;have hin':bD (ak A x k s) (x:Int)=true:=(af _ x).2 ⟨by rw [hcs];exact hxl,by rw [fP hB hxl,hg];omega⟩
 have hi':((ak A x k s).c x).i=g:=by rw [fP hB hxl,hg]
 have hux:S.u x=-1:=hT.2.1;have u1:aa [] w (w.alloc (.cells #[.int .i64 k,.int .u64 s] 129)):=(aa.refl _ _).alloc _;have kp:=fun W (hW:aa [] (w.alloc (.cells #[.int .i64 k,.int .u64 s] 129)) W)=>fE (hM.cells.aj (u1.trans hW)) x k s hk hB
 have h0:=hM.h0;have hbF:B.n0∉F:=hM.aZ.1;have hlt:=hM.lt;have hsz:w.heap.size∉F:=fun hm=>by have:=hlt w.heap.size (by simp [SB.blk,hm]);omega
 have r0:∀W,aa F (w.alloc (.cells #[.int .i64 k,.int .u64 s] 129)) W→W.cell? ⟨B.n0,0,none⟩=some (.pointer (some ⟨B.c,0,none⟩)):=fun W hW=>hW.kept (u1.was h0) hbF
 have r1:∀W,aa F (w.alloc (.cells #[.int .i64 k,.int .u64 s] 129)) W→W.cell? ⟨w.heap.size,0,none⟩=some (.int .i64 k):=fun W h=>h.kept σ hsz
 have r2:∀W,aa F (w.alloc (.cells #[.int .i64 k,.int .u64 s] 129)) W→W.cell? ⟨w.heap.size,1,none⟩=some (.int .u64 s):=fun W h=>h.kept σ hsz
 have HM:=χ hM;have HG:=χ (ψ htop hT);clear hM hT htop hlt h0 hg;generalize hA':ak A x k s=A' at *
 go_enter Tryz.func260,Tryz.ntmps260
 go_wp2
 go_region_held3 (aa F (w.alloc (.cells #[.int .i64 k,.int .u64 s] 129))) (repeat (first|assumption|exact aa.refl _ _|refine aa.drew ?_|refine aa.alloc ?_ _|refine aa.setCell ?_ ?_ _|focus (left;simp;done)|focus (right;simp;done)|focus (right;simp;omega)|(apply aa.trans;rotate_left;assumption)))
  ((go_at_call 147;(with_reducible refine (kp _ β).mono ?_);rintro e w1 ⟨rfl,hC1,hu1⟩;(have hu2:aa F (w.alloc (.cells #[.int .i64 k,.int .u64 s] 129)) w1:=by (repeat (first|assumption|exact aa.refl _ _|refine aa.drew ?_|refine aa.alloc ?_ _|refine aa.setCell ?_ ?_ _|focus (left;simp;done)|focus (right;simp;done)|focus (right;simp;omega)|(apply aa.trans;rotate_left;assumption))))))
 have uF:aa F w (w.alloc (.cells #[.int .i64 k,.int .u64 s] 129)):=u1.mono σ;have hM1:=HM.out.bI (uF.trans hu2) hC1 (fun y hy=>Or.inl hy) hcs
 have kh:=bZ hM1.cells x hin';rw [hi'] at kh;have g10:=hM1.h0;have HM1:=χ hM1;have u01:=χ (uF.trans hu2);clear r0 r1 r2 kp hu1 hu2 hC1 hM1 uF
 go_wp2_with (first
  | ((go_at_call 140;(with_reducible refine (kh).mono ?_));rintro e w2 ⟨rfl,hC2,hu2⟩;(have g21:=(HM1.out.bI hu2 hC2 (fun y hy=>Or.inl hy) rfl).h1);(have kc:=zS B.bt B.ba A'.cs.length S (x:Int) w2 (HM1.out.bI hu2 hC2 (fun y hy=>Or.inl hy) rfl).trees (by unfold mF;rw [if_pos ω,π];exact hux)))
  | (go_at_call 244;(with_reducible refine (kc).mono ?_);rintro e w9 ⟨rfl,hw9⟩;rw [hw9];clear hw9 w9)
  | fail)
 go_ret;refine ⟨rfl,(u01.out.trans hu2).mono (fun y hy=>by simp only [SB.blk,List.mem_cons];simp [hy]),S,f,HM1.out.bI hu2 hC2 (fun y hy=>Or.inl hy) rfl,HG.out.2,fun y _=>⟨rfl,rfl,rfl⟩,fun y=>?_⟩
 by_cases e:y=(g:Int)
 ·rw [if_pos e,e,HG.out.1,if_neg (by show ¬ (x:Int)=-1;omega)];rfl
 ·rw [if_neg e]
theorem MP (hM:lM w B F A st S f) {g x:Nat} {fr:Fr} {P:List Fr} {l r:BT} {k s:Int} (hk:-9223372036854775808≤k∧k≤9223372036854775807∧0≤s∧s≤18446744073709551615) (hB:iy A x k s=true)
  (hg:(A.c x).i=g) (hg0:1≤g∧g≤65536) (htop:Ik (f (g:Int))=(ae (fr::P) (.node x l r)).root) (hT:bG S (-1) (ae (fr::P) (.node x l r)).root (ae (fr::P) (.node x l r))) (hn:(ae (fr::P) (.node x l r)).nodes.Nodup)
  (hall:∀y,y∈(ae (fr::P) (.node x l r)).nodes→bD A (y:Int)=true) :
  Calls Tryz.prog 260 #[.pointer (some ⟨B.n0,0,none⟩),.int .i64 (x:Int),.agg #[.int .i64 k,.int .u64 s]] w fun e w'=>e=.returned (.bool true)∧aa (B.blk F) w w'∧
   Az w' B F (ak A x k s) (bC st (aF oG (ak A x k s) (ae (fr::P) .nil) (.node x l r)).2) S f g (ae (fr::P) (.node x l r)).nodes (aF oG (ak A x k s) (ae (fr::P) .nil) (.node x l r)).1:=by
 have hcs:=eB A x k s;have hxl:x<A.cs.length:=by
  have:=hall x (aA.2 (Or.inl (by simp [BT.nodes])))
  exact ((af A x).1 this).1
 have hin':bD (ak A x k s) (x:Int)=true:=(af _ x).2 ⟨by rw [hcs];exact hxl,by rw [fP hB hxl,hg];omega⟩
 have hi':((ak A x k s).c x).i=g:=by rw [fP hB hxl,hg]
 have hall':∀y,y∈(ae (fr::P) (.node x l r)).nodes→bD (ak A x k s) (y:Int)=true:=fun y hy=>by
  have:=(af A y).1 (hall y hy);exact (af _ y).2 ⟨by rw [hcs];exact this.1,by rw [fP hB hxl];exact this.2⟩
 have hlt':∀y,y∈(ae (fr::P) (.node x l r)).nodes→y<(ak A x k s).cs.length:=fun y hy=>((af _ y).1 (hall' y hy)).1
 have hpn:=(aJ (fr::P) (.node x l r)).nodup_iff.1 hn;rw [List.nodup_append] at hpn;have hn0:(ae (fr::P) .nil).nodes.Nodup:=(aJ (fr::P) .nil).nodup_iff.2 (by simpa [BT.nodes] using hpn.2.1)
 have hmem0:∀y,y∈(ae (fr::P) .nil).nodes↔y∈bV (fr::P):=fun y=>by rw [aA];simp [BT.nodes]
 have hXn:((ae (fr::P) .nil).nodes++(BT.node x l r).nodes).Nodup:=by
  rw [List.nodup_append];exact ⟨hn0,hpn.1,fun a ha b hb e=>hpn.2.2 b hb a ((hmem0 a).1 ha) e.symm⟩
 have hXm:∀y,y∈(ae (fr::P) .nil).nodes++(BT.node x l r).nodes→y∈(ae (fr::P) (.node x l r)).nodes:=fun y hy=>by
  rw [List.mem_append,hmem0] at hy;rw [aA];exact hy.symm
 have hrt:(ae (fr::P) (.node x l r)).root=(ae (fr::P) .nil).root:=iO _ _ _ _;rw [hrt] at htop;obtain ⟨mp, -⟩:=jJ ry (ak A x k s) _ (ae (fr::P) .nil) (.node x l r) (Nat.le_refl _);have hmr:-1≤(aF oG (ak A x k s) (ae (fr::P) .nil) (.node x l r)).1.root∧(aF oG (ak A x k s) (ae (fr::P) .nil) (.node x l r)).1.root≤9223372036854775807:=by
  refine ⟨vV _,?_⟩
  by_cases e:(aF oG (ak A x k s) (ae (fr::P) .nil) (.node x l r)).1=.nil
  ·rw [e];show (-1:Int)≤_;omega
  ·have h1:=bg e;have h2:=hlt' _ (hXm _ (mp.mem_iff.1 h1.1));have h3:=hM.cells.ok.c1;rw [hcs] at h2;omega
 have u1:aa [] w (w.alloc (.cells #[.int .i64 k,.int .u64 s] 129)):=(aa.refl _ _).alloc _;have kp:=fun W (hW:aa [] (w.alloc (.cells #[.int .i64 k,.int .u64 s] 129)) W)=>fE (hM.cells.aj (u1.trans hW)) x k s hk hB
 have h0:=hM.h0;have hbF:B.n0∉F:=hM.aZ.1;have hlt:=hM.lt;have hsz:w.heap.size∉F:=fun hm=>by have:=hlt w.heap.size (by simp [SB.blk,hm]);omega
 have r0:∀W,aa F (w.alloc (.cells #[.int .i64 k,.int .u64 s] 129)) W→W.cell? ⟨B.n0,0,none⟩=some (.pointer (some ⟨B.c,0,none⟩)):=fun W hW=>hW.kept (u1.was h0) hbF
 have r1:∀W,aa F (w.alloc (.cells #[.int .i64 k,.int .u64 s] 129)) W→W.cell? ⟨w.heap.size,0,none⟩=some (.int .i64 k):=fun W h=>h.kept σ hsz
 have r2:∀W,aa F (w.alloc (.cells #[.int .i64 k,.int .u64 s] 129)) W→W.cell? ⟨w.heap.size,1,none⟩=some (.int .u64 s):=fun W h=>h.kept σ hsz
 have HM:=χ hM;have hcF:=hM.cF;have HG:=χ (ψ hT (ψ hn (ψ hall' hlt')));have HX:=χ (ψ hXn hXm);have hA:=hM.cells.ok.c1;clear hM hT hn hall hall' hlt' hpn hlt h0 hg hXn hXm hn0 hmem0 hrt hbF hsz mp;generalize hA':ak A x k s=A' at *
 go_enter Tryz.func260,Tryz.ntmps260
 go_wp2
 go_region_held3 (aa F (w.alloc (.cells #[.int .i64 k,.int .u64 s] 129))) (repeat (first|assumption|exact aa.refl _ _|refine aa.drew ?_|refine aa.alloc ?_ _|refine aa.setCell ?_ ?_ _|focus (left;simp;done)|focus (right;simp;done)|focus (right;simp;omega)|(apply aa.trans;rotate_left;assumption)))
  ((go_at_call 147;(with_reducible refine (kp _ β).mono ?_);rintro e w1 ⟨rfl,hC1,hu1⟩;(have hu2:aa F (w.alloc (.cells #[.int .i64 k,.int .u64 s] 129)) w1:=by (repeat (first|assumption|exact aa.refl _ _|refine aa.drew ?_|refine aa.alloc ?_ _|refine aa.setCell ?_ ?_ _|focus (left;simp;done)|focus (right;simp;done)|focus (right;simp;omega)|(apply aa.trans;rotate_left;assumption))))))
 have uF:aa F w (w.alloc (.cells #[.int .i64 k,.int .u64 s] 129)):=u1.mono σ;have hM1:=HM.out.bI (uF.trans hu2) hC1 (fun y hy=>Or.inl hy) hcs
 have kh:=bZ hM1.cells x hin';rw [hi'] at kh;have g10:=hM1.h0;have HM1:=χ hM1;have u01:=χ (uF.trans hu2);clear r0 r1 r2 kp hu1 hu2 hC1 hM1 uF;have kcw:∀w2,aa F w1 w2→az w2 B.c F A' st→_:=fun w2 hu2 hC2=>lG (HM1.out.bI hu2 hC2 (fun y hy=>Or.inl hy) rfl).trees (f:=fr) (P:=P) (t:=.node x l r) HG.out.1 HG.out.2.1 HG.out.2.2.2
 rw [show BT.root (.node x l r)=(x:Int) from rfl,Ab] at kcw
 generalize cutV fr (.node x l r)=cv at kcw
 go_wp2_with (first
  | ((go_at_call 140;(with_reducible refine (kh).mono ?_));rintro e w2 ⟨rfl,hC2,hu2⟩;(have g21:=(HM1.out.bI hu2 hC2 (fun y hy=>Or.inl hy) rfl).h1);(have kc:=kcw w2 hu2 hC2))
  | ((go_at_call 244;(with_reducible refine (kc).mono ?_));rintro e w3 ⟨rfl,hu3,S3,hT3,hx3,hp3,hs3⟩;(have hM3:=(HM1.out.bI hu2 hC2 (fun y hy=>Or.inl hy) rfl).fM hu3 hT3);(have kf:=oo hM3 (g:Int) ω);rw [htop] at kf;(have km:=rQ hM3 (ta:=ae (fr::P) .nil) (tb:=.node x l r) hp3 hx3 HX.out.1 (fun y hy=>HG.out.2.2.1 y (HX.out.2 y hy)));rw [show BT.root (.node x l r)=(x:Int) from rfl] at km)
  | (go_at_call 268;(with_reducible refine (kf).mono ?_);rintro e w9 ⟨rfl,hw9⟩;rw [hw9];clear hw9 w9)
  | ((go_at_call 267;(with_reducible refine (km).mono ?_));rintro e w4 ⟨rfl,hu4,S4,hM4,hT4,hs4⟩;(have kcr:=rE hM4 g _ ω hmr))
  | ((go_at_call 266;(with_reducible refine (kcr).mono ?_));rintro e w5 ⟨rfl,hu5,hM5⟩)
  | fail)
 go_ret;refine ⟨rfl,((((u01.out.trans hu2).mono (fun y hy=>by simp only [SB.blk,List.mem_cons];simp [hy])).trans (hu3.mono (by simp [SB.blk]))).trans (hu4.mono (fun y hy=>?_))).trans (hu5.mono (by simp [SB.blk])),S4,_,hM5,hT4,fun y hy=>dY (hs3 y hy) (hs4 y (fun hm=>hy (HX.out.2 y hm))),fun y=>rfl⟩
 simp only [List.mem_cons,List.not_mem_nil,or_false] at hy;simp only [SB.blk,List.mem_cons];rcases hy with rfl|rfl
 ·simp [hcF]
 ·simp
theorem KC (h:jU w B F A st tr) (g x:Nat) (hx:x∈(tr g).nodes) (k s:Int) (hk:-9223372036854775808≤k∧k≤9223372036854775807∧0≤s∧s≤18446744073709551615) (hB:iy A x k s=true) :
  Calls Tryz.prog 260 #[.pointer (some ⟨B.n0,0,none⟩),.int .i64 (x:Int),.agg #[.int .i64 k,.int .u64 s]] w fun e w'=>e=.returned (.bool true)∧aa (B.blk F) w w'∧
   jU w' B F (ak A x k s) (bC st (Kz (ak A x k s) (tr g) x).2) (fun q=>if q=g then (Kz (ak A x k s) (tr g) x).1 else tr q):=by
 obtain ⟨S,hM,hI⟩:=h;have hm:=(hI.mem g x).1 hx;have e:=kK hx;unfold Kz;generalize (pathOf (tr g) x).1=P at *
 generalize (pathOf (tr g) x).2.1=l at *
 generalize (pathOf (tr g) x).2.2=r at *
 have hq:1≤g∧g<A.hs.length:=by have:=hM.cells.ok.nat x hm.2.1;omega
 have hb65:=hM.cells.ok.h1;have hT:=hI.Aw g;have hn:=hI.nd g;have hH:=hI.heap g;have htp:=xk A tr g hq;rw [e] at hT hn hH htp;obtain ⟨d1,d2⟩:=Bf hB hm.2.1 hn hH;have fin:∀w' T st',Az w' B F (ak A x k s) st' S (oh A tr) g (tr g).nodes T→T.nodes.Perm (tr g).nodes→Heap (ak A x k s) T→jU w' B F (ak A x k s) st' (fun q=>if q=g then T else tr q):=fun w' T st' hE hp hh=>by
  obtain ⟨S',f',q1,q2,q4,q6⟩:=hE;refine ⟨S',q1.ext (fun y=>by rw [q6 y];exact xR (by rw [jm]) hq y),sM.low (tops':=sj (ak A x k s) (fun q=>if q=g then T else tr q)) hI hB hx q2 hp hh q4 (fun q hq'=>?_)⟩
  have hq'':q<(ak A x k s).hs.length:=by rw [jm];exact hq'
  unfold sj;rw [φ,List.getElem?_map,List.getElem?_range hq'']
  show (if q=g then T else tr q).root=_
  by_cases eq:q=g
  ·rw [if_pos eq,if_pos eq]
  ·rw [if_neg eq,if_neg eq];rw [φ,List.getElem?_map,List.getElem?_range hq'];rfl
 cases P with
 | nil=>
  have ht2:oh A tr (g:Int)=some (x:Int):=by
   unfold oh;rw [if_pos ω,π,e]
   show (if (x:Int)=-1 then none else some (x:Int))=_
   rw [if_neg ω]
  refine (JU hM hk hB hm.2.2 hm.1 ht2 hm.2.1 hT).mono ?_;rintro e' w' ⟨rfl,hu,hE⟩;have e2:tr g=.node x l r:=e;refine ⟨rfl,hu,?_⟩
  show jU w' B F (ak A x k s) (bC st 0) (fun q=>if q=g then tr g else tr q)
  rw [dW hM.cells.mE];refine fin w' _ st (by rw [e2];exact hE) (List.Perm.refl _) (by rw [e2];exact d2)
 | cons fr P2=>
  refine (MP hM hk hB hm.2.2 ω htp hT hn (fun y hy=>?_)).mono ?_
  ·rw [←e] at hy;have:=(hI.mem g y).1 hy;exact (af A y).2 ⟨this.2.1,ω⟩
  ·rintro e' w' ⟨rfl,hu,hE⟩;refine ⟨rfl,hu,?_⟩;obtain ⟨mp,mh⟩:=jJ ry (ak A x k s) _ (ae (fr::P2) .nil) (.node x l r) (Nat.le_refl _);have pn:((ae (fr::P2) .nil).nodes++(BT.node x l r).nodes).Perm (tr g).nodes:=by
    rw [e];refine ((aJ (fr::P2) .nil).append_right _).trans ?_;refine List.perm_append_comm.trans ?_;simp only [BT.nodes,List.nil_append];exact (aJ (fr::P2) (.node x l r)).symm
   refine fin w' _ _ (by rw [e];exact hE) (mp.trans pn) (mh d1 d2 (pn.nodup_iff.2 (hI.nd g)))
end
theorem JE (n:Nat) (w:World) (h:n≤65536) :
  Calls Tryz.prog 102 #[.int .i64 (n:Int)] w fun e w'=>∃B F,e=.returned (.tuple #[.pointer (some ⟨B.n0,0,none⟩),.int .i64 0])∧jU w' B F (NS.new n) 0 (fun _=>.nil)∧aa [] w w'∧∀x,x∈B.blk F→w.heap.size≤x:=by
 have hmm:=@run_makeMap Tryz.prog
 go_enter Tryz.func102,Tryz.ntmps102
 go_wp2_with (first
  | ((go_at_call 107;(with_reducible refine (kY n _ h).mono ?_));rintro e w1 ⟨c,F,rfl,hC,hu1,hF⟩)
  | ((go_at_call 112;(with_reducible refine (rU n _ h).mono ?_));rintro e w2 ⟨bt,ba,rfl,hT,hu2,hb1,hb2⟩))
 go_ret2;have hcs:(NS.new n).cs.length=n:=by simp [NS.new]
 have l1:=hu1.size;have l2:=hu2.size;have l5:=hT.head.lt;have l6:=hT.row.lt;have l7:=hC.lt;have lc:=l7 c hC.mem;have hm:=dZ.made w2;have e3:((w2.alloc (.map #[] 0)).heap.size)=w2.heap.size+1:=by rw [World.size_alloc]
 have hv1:aa [] w2 (w2.alloc (.map #[] 0)):=(aa.refl _ _).alloc _;have hv2:aa [] (w2.alloc (.map #[] 0)) ((w2.alloc (.map #[] 0)).alloc (.cells #[.pointer (some ⟨c,0,none⟩),.pointer (some ⟨bt,0,none⟩),.map (some w2.heap.size)] 234)):=(aa.refl _ _).alloc _;have hv:=hv1.trans hv2;have hh:=dm (w2.alloc (.map #[] 0)) [.pointer (some ⟨c,0,none⟩),.pointer (some ⟨bt,0,none⟩),.map (some w2.heap.size)] 234;rw [e3] at hh;have hnF:∀x,w1.heap.size≤x→x∉F:=fun x hx hm=>by have:=l7 x hm;omega
 refine ⟨⟨w2.heap.size+1,c,bt,ba,w2.heap.size⟩,F,rfl,⟨TS.none,⟨hh,(hC.aj hu2).aj hv,by rw [hcs];exact hT.upd hv σ σ,?_,⟨hnF _ (by simp only;omega),hnF _ (by simp only;omega),hnF _ (by simp only;omega),hnF _ (by simp only;omega)⟩,⟨⟨by simp only;omega,by simp only;omega,by simp only;omega⟩,by simp only;omega,by simp only;omega⟩⟩,(Ae n).Kr⟩,(hu1.trans hu2).trans hv,fun x hx=>?_⟩
 ·refine (hm.upd hv2 σ).ext (fun k=>?_)
  unfold oh
  split
  ·rfl
  ·rfl
 ·simp only [SB.blk,List.mem_cons] at hx;rcases hx with rfl|rfl|rfl|rfl|hx
  ·omega
  ·omega
  ·omega
  ·omega
  ·exact hF x hx
section
variable {w:World} {B:SB} {F:List Nat} {A:NS} {st:Nat} {tr:Nat→BT}
theorem jU.make {w':World} {F':List Nat} (h:jU w B F A st tr) (hl:¬65536<A.hs.length) (hu:aa F w w') (hC:az w' B.c F' (aG A) st) (hF:∀x,x∈F'→x∈F∨w.heap.size≤x):jU w' B F' (aG A) st tr:=by
 obtain ⟨S,hM,hI⟩:=h;have ok:=hM.cells.ok;have e1:(aG A).cs.length=A.cs.length:=by unfold aG;rw [if_neg hl]
 have e2:(aG A).hs.length=A.hs.length+1:=by unfold aG;rw [if_neg hl];simp
 have hI2:=hI.make ok (by simp [sj]) hl
 have hnil:(tr A.hs.length)=.nil:=by
  cases e:tr A.hs.length with
  | nil=>rfl
  | node y a b=>
   exfalso;have:=(hI.mem A.hs.length y).1 (by rw [e];simp [BT.nodes])
   have h3:=gN ok ((af A y).2 ⟨this.2.1,ω⟩);have:=(aK _ _).1 h3;rw [π] at this;omega
 refine ⟨S,(hM.bI hu hC hF e1).ext (fun k=>?_),hI2.Kr⟩
 unfold oh;rw [e2]
 by_cases h1:1≤k∧k<A.hs.length
 ·rw [if_pos h1,if_pos (show 1≤k∧k<((A.hs.length+1:Nat):Int) by omega)]
 ·rw [if_neg h1]
  by_cases h2:k=A.hs.length
  ·subst h2;rw [π,hnil]
   split
   ·rfl
   ·rfl
  ·rw [if_neg (show ¬ (1≤k∧k<((A.hs.length+1:Nat):Int)) by omega)]
end
theorem EE (p c:Nat):∀W:World,W.cell? ⟨p,0,none⟩=some (.pointer (some ⟨c,0,none⟩))→(method 429 190 (.pointer (some ⟨p,0,none⟩)) "Has").run Tryz.prog W=.ok (139,.pointer (some ⟨c,0,none⟩)) W:=(by intro W h;unfold method;have hm:∃m,(Array.find? (fun x=>x.name == "Has") Tryz.t190.methods)=some m∧m.path.toList=[⟨234,0,true⟩]∧m.func=some (139,true)∧m.path.isEmpty=false:=⟨(Array.find? (fun x=>x.name == "Has") Tryz.t190.methods).get!,by kernel_rfl,by kernel_rfl,by kernel_rfl,by kernel_rfl⟩;obtain ⟨m,h1,h2,h3,h4⟩:=hm;go_simp;simp only [follow,Place.get];go_simp;(try unfold receiverAt);(try simp only [Place.get]);(try go_simp))
theorem Aa (p c:Nat):∀W:World,W.cell? ⟨p,0,none⟩=some (.pointer (some ⟨c,0,none⟩))→(method 429 190 (.pointer (some ⟨p,0,none⟩)) "Entry").run Tryz.prog W=.ok (137,.pointer (some ⟨c,0,none⟩)) W:=(by intro W h;unfold method;have hm:∃m,(Array.find? (fun x=>x.name == "Entry") Tryz.t190.methods)=some m∧m.path.toList=[⟨234,0,true⟩]∧m.func=some (137,true)∧m.path.isEmpty=false:=⟨(Array.find? (fun x=>x.name == "Entry") Tryz.t190.methods).get!,by kernel_rfl,by kernel_rfl,by kernel_rfl,by kernel_rfl⟩;obtain ⟨m,h1,h2,h3,h4⟩:=hm;go_simp;simp only [follow,Place.get];go_simp;(try unfold receiverAt);(try simp only [Place.get]);(try go_simp))
theorem BO (p c:Nat):∀W:World,W.cell? ⟨p,0,none⟩=some (.pointer (some ⟨c,0,none⟩))→(method 429 190 (.pointer (some ⟨p,0,none⟩)) "Make").run Tryz.prog W=.ok (156,.pointer (some ⟨c,0,none⟩)) W:=(by intro W h;unfold method;have hm:∃m,(Array.find? (fun x=>x.name == "Make") Tryz.t190.methods)=some m∧m.path.toList=[⟨234,0,true⟩]∧m.func=some (156,true)∧m.path.isEmpty=false:=⟨(Array.find? (fun x=>x.name == "Make") Tryz.t190.methods).get!,by kernel_rfl,by kernel_rfl,by kernel_rfl,by kernel_rfl⟩;obtain ⟨m,h1,h2,h3,h4⟩:=hm;go_simp;simp only [follow,Place.get];go_simp;(try unfold receiverAt);(try simp only [Place.get]);(try go_simp))
theorem Gs (p:Nat):∀W:World,(method 429 190 (.pointer (some ⟨p,0,none⟩)) "Insert").run Tryz.prog W=.ok (263,.pointer (some ⟨p,0,none⟩)) W:=fun _=>by kernel_rfl
theorem N9 (p:Nat):∀W:World,(method 429 190 (.pointer (some ⟨p,0,none⟩)) "Min").run Tryz.prog W=.ok (265,.pointer (some ⟨p,0,none⟩)) W:=fun _=>by kernel_rfl
theorem EK (p:Nat):∀W:World,(method 429 190 (.pointer (some ⟨p,0,none⟩)) "Extract").run Tryz.prog W=.ok (262,.pointer (some ⟨p,0,none⟩)) W:=fun _=>by kernel_rfl
theorem CJ (p:Nat):∀W:World,(method 429 190 (.pointer (some ⟨p,0,none⟩)) "Decrease").run Tryz.prog W=.ok (260,.pointer (some ⟨p,0,none⟩)) W:=fun _=>by kernel_rfl
def SkQ (w:World) (p:Nat) (F:List Nat) (A:NS):Prop:=∃B F1 st tr,p=B.n0∧F=B.blk F1∧jU w B F1 A st tr
def vI:fJ where
 ty:=190
 at_:=SkQ
 upd:=fun h hu hS=>by
  obtain ⟨B,F1,st,tr,rfl,rfl,hL⟩:=h;exact ⟨B,F1,st,tr,rfl,rfl,hL.upd hu hS⟩
 lt:=fun h=>by
  obtain ⟨B,F1,st,tr,rfl,rfl,S,hM, -⟩:=h;exact hM.lt
 ok:=fun h=>by
  obtain ⟨B,F1,st,tr,rfl,rfl,S,hM, -⟩:=h;exact hM.cells.ok
 make:=fun {w p F A} h=>by
  obtain ⟨B,F1,st,tr,rfl,rfl,hL⟩:=h;have h0:w.cell? ⟨B.n0,0,none⟩=some (.pointer (some ⟨B.c,0,none⟩)):=by obtain ⟨S,hM, -⟩:=hL;exact hM.h0
  refine fK 156 (fun _ _=>by kernel_rfl) h0 (BO _ _) (fun W hW=>?_)
  have hLW:=hL.aj hW;have hC:az W B.c F1 A st:=by obtain ⟨S,hM, -⟩:=hLW;exact hM.cells
  refine (fT hC).mono ?_;rintro e w' ⟨rfl,F',hC2,hu,hf⟩;have hu2:aa (B.blk F1) W w':=hu.mono (fun z hz=>by simp only [SB.blk,List.mem_cons];simp [hz])
  have hf2:∀z,z∈B.blk F'→z∈B.blk F1∨W.heap.size≤z:=fun z hz=>by
   simp only [SB.blk,List.mem_cons] at hz ⊢;rcases hz with rfl|rfl|rfl|rfl|hz
   ·simp
   ·simp
   ·simp
   ·simp
   ·rcases hf z hz with h1|h1
    ·simp [h1]
    ·exact Or.inr h1
  refine ⟨rfl,B.blk F',?_,hu2,hf2⟩
  by_cases hl:65536<A.hs.length
  ·have e2:aG A=A:=by unfold aG;rw [if_pos hl]
   rw [e2] at hC2 ⊢;obtain ⟨S,hM,hI⟩:=hLW;exact ⟨B,F',st,tr,rfl,rfl,S,hM.bI hu hC2 hf rfl,hI⟩
  ·exact ⟨B,F',st,_,rfl,rfl,hLW.make hl hu hC2 hf⟩
 insert:=fun {w p F A} g y k s hk hB h=>by
  obtain ⟨B,F1,st,tr,rfl,rfl,hL⟩:=h;refine aN 263 (fun _ _=>by kernel_rfl) (Gs _) (fun W hW=>?_)
  refine (Cz (hL.aj hW) g y k s hk hB).mono ?_;rintro e w' ⟨rfl,hu,hL2⟩;exact ⟨rfl,Goes.stay ⟨B,F1,_,_,rfl,rfl,hL2⟩ hu⟩
 min:=fun {w p F A} y hB h=>by
  obtain ⟨B,F1,st,tr,rfl,rfl,hL⟩:=h;refine aN 265 (fun _ _=>by kernel_rfl) (N9 _) (fun W hW=>?_)
  have hLW:=hL.aj hW;have hok:A.Ok:=by obtain ⟨S,hM, -⟩:=hL;exact hM.cells.ok
  by_cases hl:cu A (y:Int)=0
  ·rw [fH.2 hl];have h4:=(aK _ _).1 hB;have h5:=hok.h1;refine (Gi hLW y ω hl).mono ?_;rintro e w' ⟨rfl,rfl⟩;exact ⟨rfl,Goes.stay ⟨B,F1,st,tr,rfl,rfl,hLW⟩ (aa.refl _ _)⟩
  ·refine (zD hLW y ω).mono ?_;rintro e w' ⟨m,hm, -,rfl,rfl⟩;rw [hm];exact ⟨rfl,Goes.stay ⟨B,F1,st,tr,rfl,rfl,hLW⟩ (aa.refl _ _)⟩
 extract:=fun {w p F A} y m hm h=>by
  obtain ⟨B,F1,st,tr,rfl,rfl,hL⟩:=h;refine aN 262 (fun _ _=>by kernel_rfl) (EK _) (fun W hW=>?_)
  have hl:¬cu A (y:Int)=0:=fun e=>by rw [fH.2 e] at hm;cases hm
  refine (yA (hL.aj hW) y ω).mono ?_;rintro e w' ⟨m',hm',rfl,hu,hL2⟩;rw [hm] at hm';cases hm';exact ⟨rfl,Goes.stay ⟨B,F1,_,_,rfl,rfl,hL2⟩ hu⟩
 lQ:=fun {w p F A} y k s hk hB h=>by
  obtain ⟨B,F1,st,tr,rfl,rfl,hL⟩:=h;refine aN 260 (fun _ _=>by kernel_rfl) (CJ _) (fun W hW=>?_)
  have hLW:=hL.aj hW;have hin:=pK hB;have hx:y∈(tr (A.c y).i.toNat).nodes:=by
   obtain ⟨S,hM,hI⟩:=hLW;have:=(af _ _).1 hin;exact (hI.mem _ y).2 ⟨ω,this.1,ω⟩
  refine (KC hLW _ y hx k s hk hB).mono ?_;rintro e w' ⟨rfl,hu,hL2⟩;exact ⟨rfl,Goes.stay ⟨B,F1,_,_,rfl,rfl,hL2⟩ hu⟩
 has:=fun x h=>by
  obtain ⟨B,F1,st,tr,rfl,rfl,S,hM, -⟩:=h;exact fK 139 (fun _ _=>by kernel_rfl) hM.h0 (EE _ _) (fun W hW=>iq (hM.aj hW).cells x)
 entry:=fun {w p F A} x h=>by
  obtain ⟨B,F1,st,tr,rfl,rfl,S,hM, -⟩:=h;refine fK 137 (fun _ _=>by kernel_rfl) hM.h0 (Aa _ _) (fun W hW=>?_)
  cases hin:bD A x with
  | false=>simpa using jB (hM.aj hW).cells x hin
  | true=>
   obtain ⟨y,rfl⟩:=nJ hin;simpa using iI (hM.aj hW).cells y hin
theorem Dx (p:Nat) (w:World):Calls Tryz.prog 101 #[.pointer (some ⟨p,0,none⟩),.int .i64 0] w fun e w'=>e=.returned (.tuple #[.iface 190 (.pointer (some ⟨p,0,none⟩)),.int .i64 0])∧w'=w:=by
 go_enter Tryz.func101,Tryz.ntmps101
 go_wp2;go_ret2;exact ⟨rfl,rfl⟩
theorem LQ (n:Nat) (hn:n≤65536):jX vI 7 0 n:=by
 intro w;have kn:=fun W=>JE n W hn
 have km:=Dx;have hty:vI.ty=190:=rfl;have hat:∀w' B F,jU w' B F (NS.new n) 0 (fun _=>.nil)→vI.at_ w' B.n0 (B.blk F) (NS.new n):=fun w' B F h=>⟨B,F,_,_,rfl,rfl,h⟩
 generalize vI=K at *
 rw [hty]
 go_enter Tryz.func81,Tryz.ntmps81
 go_wp2_with (first
  | ((go_at_call 102;(with_reducible refine (kn _).mono ?_));rintro e w1 ⟨B,F,rfl,hS,hu1,hf⟩)
  | ((go_at_call 101;(with_reducible refine (km _ _).mono ?_));rintro e w2 ⟨rfl,rfl⟩)
  | fail)
 go_ret2;exact ⟨B.n0,B.blk F,rfl,hat _ _ _ hS,aa.trans β hu1,fun x hx=>by have:=hf x hx;simp at this;omega⟩
end Go.Proofs.YtklibcncmbofpaaGreat
