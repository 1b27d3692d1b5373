/-
  Lemmas for PathBest: Lf14, Lf15, Lf16, LfQ, TOps. Conditions: those of each lemma.
-/
import Derived.Test.YtklibcncmbofpaaGreatB06
import Derived.Test.YtklibcncmbofpaaGreatB31
set_option linter.all false
set_option maxHeartbeats 8000000
set_option maxRecDepth 10000
namespace Go.Proofs.YtklibcncmbofpaaGreat
open Go Go.RowKit
theorem Qp (n:Nat):tv (n:Int)=n:=by unfold tv;rw [if_neg ω]
theorem DR (n:Nat):tb (n:Int)=true:=by unfold tb;simp
section
variable {w:World} {B:LB} {F:List Nat} {gt ct:Nat} {A:NS} {st:Nat} {tr:Nat->BT} {S:TS} {rk:Nat->Nat} {ak:List Int}
def Yb (w':World) (B:LB) (F:List Nat) (gt ct:Nat) (A:NS) (st:Nat) (S:TS) (rk:Nat->Nat) (ak:List Int) (g x:Nat) (P:List Fr) (X:List Nat) (T:BT):Prop:=
 ∃S' oD jv,lU w' B F gt ct (bz A x) st S' oD jv/\cO S' (-1) T.root T/\gK oD T/\(∀y,y∉X->S.at S' y/\oD y=rk y)/\(S'.l x=-1/\S'.r x=-1/\S'.u x=-1)/\
  ∀q,q<A.hs.length->jv.getD q 0=if P=[]/\q=g then T.root else ak.getD q 0
theorem gQ {S S' S'':TS} {x:Nat} (h:S.at S' x) (h':S'.at S'' x):S.at S'' x:=⟨h'.1.trans h.1,h'.2.1.trans h.2.1,h'.2.2.trans h.2.2⟩
theorem DZ (hM:lU w B F gt ct A st S rk ak) {g x:Nat} {P:List Fr} {l r:BT} (hin:bX A (x:Int)=true) (hg:(A.c x).i=g) (hgt:g<ak.length)
  (hT:cO S (-1) (aj P (.node x l r)).root (aj P (.node x l r))) (hn:(aj P (.node x l r)).nodes.Nodup) (hR:gK rk (aj P (.node x l r))) (hall:∀y,y∈(aj P (.node x l r)).nodes->bX A (y:Int)=true) :
  Calls Tryz.prog 238 #[.pointer (some ⟨B.n0,0,none⟩),.int .i64 (x:Int)] w fun e w'=>e=.returned (.bool true)/\aa (B.blk F gt) w w'/\
   Yb w' B F gt ct A (bZ st (aK aC A l r).2) S rk ak g x P (aj P (.node x l r)).nodes (om P (.node x l r) (aK aC A l r).1):=by
 have hxl:=((ai A x).1 hin).1;have hlt:∀y,y∈(aj P (.node x l r)).nodes->y<A.cs.length:=fun y hy=>((ai A y).1 (hall y hy)).1;have kh:=eB hM.cells x hin;rw [hg] at kh;have h0:=hM.h0;have HM:=χ hM;have R7:=qG hn;have hrr:=(yM P (.node x l r)).1 hR;have mp:=(mH nM A _ l r (Nat.le_refl _)).1;have hblk:=χ hM.lt;have qA:=χ hM.cF;have hsep:=χ (ψ hM.sep hM.bI);have HT:=χ (ψ hT (ψ hn (ψ hrr (ψ hall hlt))));have HP:=χ R7;have hA:=hM.cells.ok.c1;obtain ⟨m,k,hmk⟩:∃m k,aK aC A l r=(m,k):=⟨_,_,rfl⟩;rw [hmk] at mp;rw [hmk];have VQ:=χ mp;have HMK:=χ hmk;have Oa:=χ hin
 clear hM hT hn hR hall hlt R7 hrr mp hmk hin hg
 go_enter Tryz.func238,Tryz.ntmps238
 go_wp2_with (first|((go_at_call 140;(with_reducible refine (kh).mono ?_));rintro e w1 ⟨rfl,jD,hu1⟩;(have g1:=(HM.out.dB hu1 jD (fun y hy=>Or.inl hy) rfl rfl).h1)))
 have hM1:=HM.out.dB hu1 jD (fun y hy=>Or.inl hy) rfl rfl;have q1:∀d,(w1.drewN d).cell? ⟨B.n0,1,none⟩=some (.pointer (some ⟨B.bt,0,none⟩)):=fun d=>hM1.h1;have kl:=fun d=>CU (hM1.trees.drewN d) ((eU _ _).1 HT.out.1).1 hxl;have kr:=fun d=>vJ (hM1.trees.drewN d) ((eU _ _).1 HT.out.1).1 hxl;have jZ:=χ hM1;clear hM1 jD kh h0 g1
 go_quiet ((first
  | (go_at_call 248;exact Calls.quiet_of (kl _))
  | (go_at_call 249;exact Calls.quiet_of (kr _))
  | (go_at_call 247;exact Calls.quiet_of_same (nX _ _))))
 obtain ⟨w2,hw2⟩:∃w2,w2=w1.drewN nq:=⟨_,rfl⟩;have u2:aa F w w2:=by rw [hw2];exact hu1.drewN nq
 have hM2:lU w2 B F gt ct A st S rk ak:=by rw [hw2];exact jZ.out.aA ((aa.refl [] w1).drewN nq)
 rw [←hw2];clear hw2 kl kr q1 jZ hu1;have Xo:=nW hM2.trees (f:=(x,false,r)) (P:=P) (t:=l) HT.out.1 HT.out.2.1 HT.out.2.2.2.2;have g2:=hM2.h1;have nI:=χ hM2;clear hM2
 go_wp2_with (first
  | ((go_at_call 244;(with_reducible refine (Xo).mono ?_));rintro e w3 ⟨rfl,hu3,S3,Bg,hl3,hp3,hs3⟩;(have g3:=(nI.out.iV hu3 Bg).h1);clear g2)
  | fail)
 have jV:=nI.out.iV hu3 Bg;have OT:cO S3 (-1) (aj ((x,true,.nil)::P) r).root (aj ((x,true,.nil)::P) r):=hp3;have Jm:(aj ((x,true,.nil)::P) r).nodes.Nodup:=by
  have e:=(aP P (.node x .nil r));refine e.nodup_iff.2 ?_;obtain ⟨⟨a1,a2,a3⟩,a4,a5,a6,a7⟩:=HP.out;simp only [BT.nodes,List.nil_append,θ] at a4 ⊢;refine ⟨List.nodup_cons.2 ⟨a2,a4.2.1⟩,a7,fun y hy z hz e=>?_⟩;subst e;rcases ρ.1 hy with e|hy
  ·exact a3 (by rw [←e];exact hz)
  ·exact a6 y hy hz
 have Dc:∀y,y∈(aj ((x,true,.nil)::P) r).nodes->y∈(aj P (.node x l r)).nodes:=fun y hy=>by
  have h':y∈(aj P (.node x .nil r)).nodes:=hy;rw [aH] at h' ⊢;simp only [BT.nodes,List.nil_append,ρ,τ] at h' ⊢;rcases h' with (h'|h')|h'
  ·exact Or.inl (Or.inl h')
  ·exact Or.inl (Or.inr (Or.inr h'))
  ·exact Or.inr h'
 have ZH:=nW jV.trees (f:=(x,true,.nil)) (P:=P) (t:=r) OT Jm (fun y hy=>HT.out.2.2.2.2 y (Dc y hy));have Qw:l.nodes.Nodup/\∀y,y∈l.nodes->y∉(aj ((x,true,.nil)::P) r).nodes:=by
  obtain ⟨⟨a1,a2,a3⟩,a4,a5,a6,a7⟩:=HP.out;rw [θ] at a4;refine ⟨a4.1,fun y hy hm=>?_⟩;have h':y∈(aj P (.node x .nil r)).nodes:=hm;rw [aH] at h';simp only [BT.nodes,List.nil_append,ρ] at h';rcases h' with (h'|h')|h'
  ·exact a1 (by rw [←h'];exact hy)
  ·exact a4.2.2 y hy y h' rfl
  ·exact a5 y hy h'
 have I5:=χ jV;have H3:=χ (ψ hl3 (ψ hs3 (ψ Dc Qw)));have u3:aa (B.ba::F) w w3:=(u2.mono (by simp;intro x hx;exact Or.inr hx)).trans (hu3.mono σ);clear jV Bg hl3 hp3 OT hs3 Jm Dc Qw Xo hu3 u2
 go_wp2_with (first
  | ((go_at_call 244;(with_reducible refine (ZH).mono ?_));rintro e w4 ⟨rfl,iC,S4,Pm,hr4,hp4,hs4⟩)
  | fail)
 have sG:=I5.out.iV iC Pm;have hl4:cO S4 (-1) l.root l:=H3.out.1.frame (fun y hy=>hs4 y (H3.out.2.2.2.2 y hy));have km:=vK sG hl4 hr4 HP.out.2.1 (fun y hy=>HT.out.2.2.2.1 y (aH.2 (Or.inl (by simp only [BT.nodes];exact List.mem_cons_of_mem _ hy)))) HT.out.2.2.1.1.2.1 HT.out.2.2.1.1.2.2;rw [HMK.out] at km;have hp4':cO S4 (-1) (aj P (.node x .nil .nil)).root (aj P (.node x .nil .nil)):=hp4;have u4:aa (B.ba::F) w w4:=u3.trans (iC.mono σ);have f4:∀y,y∉(aj P (.node x l r)).nodes->S.at S4 y:=fun y hy=>gQ (H3.out.2.1 y hy) (hs4 y (fun hm=>hy (H3.out.2.2.1 y hm)));have H4:=χ (ψ hp4' f4)
 clear sG Pm hr4 hp4 hp4' hs4 hl4 ZH iC u3 f4 H3 I5 nI g3
 go_wp2_with (first
  | ((go_at_call 246;(with_reducible refine (km).mono ?_));rintro e w5 ⟨rfl,cu,S5,Xf,wZ,IL,Oc,hs5⟩;(have g5:=wZ.h1))
  | fail)
 have Ut:cO S5 (-1) (aj P (.node x .nil .nil)).root (aj P (.node x .nil .nil)):=H4.out.1.frame (fun y hy=>(hs5 y (fun hm=>by
  obtain ⟨⟨a1,a2,a3⟩,a4,a5,a6,a7⟩:=HP.out;rw [aH] at hy;simp only [BT.nodes,List.nil_append,ρ,ς,or_false] at hy;rw [τ] at hm;rcases hy with e|hy
  ·subst e;rcases hm with hm|hm;exact a1 hm;exact a2 hm
  ·rcases hm with hm|hm;exact a5 y hm hy;exact a6 y hm hy)).1)
 have f5:∀y,y∉(aj P (.node x l r)).nodes->S.at S5 y/\Xf y=rk y:=fun y hy=>by
  have h1:y∉l.nodes++r.nodes:=fun hm=>hy (aH.2 (Or.inl (by simp only [BT.nodes];exact List.mem_cons_of_mem _ hm)));exact ⟨gQ (H4.out.2 y hy) (hs5 y h1).1,(hs5 y h1).2⟩
 have Mm:Rq Xf P (BT.node x l r).rank:=HT.out.2.2.1.2.frame (fun y hy=>(hs5 y (fun hm=>by
  rw [τ] at hm;rcases hm with hm|hm
  ·exact HP.out.2.2.1 y hm hy
  ·exact HP.out.2.2.2.1 y hm hy)).2)
 have u5:aa (B.blk F gt) w w5:=(u4.mono (fun y hy=>by simp only [LB.blk,ρ] at hy ⊢;rcases hy with h|h<;>simp [h])).trans (cu.mono (fun y hy=>by
   have:=qA.out;simp only [ρ,ς,or_false] at hy;simp only [LB.blk,ρ];rcases hy with rfl|rfl|rfl
   ·simp [this]
   ·simp
   ·simp))
 have ku:=LG wZ.trees Ut hxl;have vD:=χ wZ;have H5:=χ (ψ Ut (ψ f5 (ψ Mm (ψ IL Oc))));clear wZ IL Oc hs5 km u4 H4 Ut f5 Mm cu;have hmm:∀y,y∈m.nodes->y∉dU P/\y≠x:=fun y hy=>by
  obtain ⟨⟨a1,a2,a3⟩,a4,a5,a6,a7⟩:=HP.out;have h1:=VQ.out.mem_iff.1 hy;rw [τ] at h1;rcases h1 with h1|h1
  ·exact ⟨a5 y h1,fun e=>a1 (by rw [←e];exact h1)⟩
  ·exact ⟨a6 y h1,fun e=>a2 (by rw [←e];exact h1)⟩
 have hmx:∀y,y∈m.nodes->y∈(aj P (.node x l r)).nodes:=fun y hy=>aH.2 (Or.inl (by
  have h1:=VQ.out.mem_iff.1 hy
  simp only [BT.nodes,ρ];exact Or.inr h1))
 have OG:m.nodes.Nodup:=VQ.out.nodup_iff.2 HP.out.2.1;have HMM:=χ (ψ hmm (ψ hmx OG));clear hmm hmx OG;have sp:=hsep.out;have s1:B.n0≠gt:=sp.1.1.2.2.2;clear sp;cases P with
 | nil=>
  rw [show Ci ([]:List Fr)=-1 from rfl,show tv (-1)=0 from rfl,show tb (-1)=false from rfl] at ku
  go_wp2_with (first
   | ((go_at_call 250;(with_reducible refine (ku).mono ?_));rintro e w6 ⟨rfl,kk,DD⟩;(have u6:aa [] w5 w6:=by (rw [DD];exact (aa.refl _ _).drewN kk));clear DD;(have g60:=(vD.out.aA u6).h0);(have g63:=(vD.out.aA u6).h3);(have d6:=(vD.out.aA u6).jQ.cell g hgt);(have f6:=(vD.out.aA u6).jQ.free g);(have kd:=iD ((vD.out.aA u6).qL g m.root).cells x Oa.out))
   | ((go_at_call 151;(with_reducible refine (kd).mono ?_));rintro e w7 ⟨rfl,hC7,kQ⟩)
   | fail)
  go_ret;obtain ⟨b1,b2,b3,b4,b5⟩:=H5.out;have bx:=((eU _ _).1 b1).1;refine ⟨rfl,((u5.trans (u6.mono σ)).setCell (Or.inl (by simp [LB.blk])) _).trans (kQ.mono (fun y hy=>by simp only [LB.blk,ρ];simp [hy])),S5,Xf,ak.set g m.root,((vD.out.aA u6).qL g m.root).dB kQ hC7 (fun y hy=>Or.inl hy) (fT _ _) (by rw [je]),b4,b5,b2,⟨bx.2.2.1.root,bx.2.2.2.root,bx.2.1⟩,fun q hq=>?_⟩
  by_cases e:q=g
  ·rw [if_pos ⟨rfl,e⟩,e,φ,List.getElem?_set,if_pos rfl,if_pos hgt];rfl
  ·rw [if_neg (fun h=>e h.2),φ,List.getElem?_set,if_neg (fun h=>e h.symm),←φ]
 | cons f P2=>
  rw [show Ci (f::P2)=(f.1:Int) from rfl,Qp,DR] at ku;have hfl:f.1<A.cs.length:=HT.out.2.2.2.2 f.1 (aH.2 (Or.inr (by simp [dU])));have Ov:(aj (f::P2) (.node x .nil .nil)).nodes.Nodup:=by
   refine (aP (f::P2) (.node x .nil .nil)).nodup_iff.2 ?_;obtain ⟨⟨a1,a2,a3⟩,a4,a5,a6,a7⟩:=HP.out;simp only [BT.nodes,List.nil_append,List.singleton_append,List.nodup_cons];exact ⟨a3,a7⟩
  have Jh:∀y,y∈(aj (f::P2) (.node x .nil .nil)).nodes->y∈(aj (f::P2) (.node x l r)).nodes:=fun y hy=>by
   rw [aH] at hy ⊢;simp only [BT.nodes,List.nil_append,ρ,ς,or_false] at hy;rcases hy with hy|hy
   ·exact Or.inl (by simp [BT.nodes,hy])
   ·exact Or.inr hy
  have ksd:∀W,aa [] w5 W->∃z:Int,(z == (x:Int))=f.2.1/\Calls Tryz.prog 249 #[.pointer (some ⟨B.bt,0,none⟩),.int .i64 (f.1:Int)] W fun e w'=>e=.returned (.tuple #[.int .i64 (tv z),.bool (tb z)])/\∃k,w'=W.drewN k:=fun W hW=>Cj (vD.out.aA hW).trees H5.out.1 Ov hfl;have EZ:=fun W (hW:aa [] w5 W)=>nW (vD.out.aA hW).trees (f:=f) (P:=P2) (t:=.node x .nil .nil) H5.out.1 Ov (fun y hy=>HT.out.2.2.2.2 y (Jh y hy));rw [show BT.root (.node x .nil .nil)=(x:Int) from rfl] at EZ;generalize hcv:cutV f (.node x .nil .nil)=cv at EZ;generalize hcb:tb (x:Int)=cb at EZ;have IJ:=χ (ψ Ov Jh);clear Ov Jh hcv hcb
  by_cases hmz:m=.nil
  ·have hmb:(m.root != -1)=false:=by rw [hmz];rfl
   have YG:=χ hmz;clear hmz
   go_wp2_with (first
    | ((go_at_call 250;(with_reducible refine (ku).mono ?_));rintro e w6 ⟨rfl,kk,DD⟩;(have u6:aa [] w5 w6:=by (rw [DD];exact (aa.refl _ _).drewN kk));clear DD;(have g61:=(vD.out.aA u6).h1);obtain ⟨z,hz,kr⟩:=ksd w6 u6)
    | ((go_at_call 249;(with_reducible refine (kr).mono ?_));rintro e w7 ⟨rfl,kk7,hw7⟩;(have u7:aa [] w5 w7:=by (rw [hw7];exact u6.drewN kk7));clear hw7;(have g71:=(vD.out.aA u7).h1);(have kc:=EZ w7 u7))
    | (go_at_call 247;(with_reducible refine (nX _ _).mono ?_);rintro e w9 ⟨rfl,aM⟩;rw [aM];clear aM w9)
    | ((go_at_call 244;(with_reducible refine (kc).mono ?_));rintro e w8 ⟨rfl,Kk,S8,hT8,hx8,hp8,hs8⟩;(have kmd:=A7 ((vD.out.aA u7).iV Kk hT8) (old:=.node x l r) hp8 (by trivial) H5.out.2.2.1 (by first|(refine (aP (f::P2) .nil).nodup_iff.2 ?_;simpa [BT.nodes] using HP.out.2.2.2.2)) (by intro y hy;rw [aH] at hy;exact HT.out.2.2.2.2 y (aH.2 (Or.inr (by simpa [BT.nodes] using hy))))))
    | ((go_at_call 245;(with_reducible refine (kmd).mono ?_));rintro e w9 ⟨rfl,yw,S9,rk9,XU,Wp⟩;(have g90:=XU.h0);(have kd:=iD XU.cells x Oa.out))
    | ((go_at_call 151;(with_reducible refine (kd).mono ?_));rintro e w10 ⟨rfl,J2,Av⟩)
    | fail)
   go_ret;have hz:=YG.out;subst hz;refine ⟨rfl,((((u5.trans (u7.mono σ)).trans (Kk.mono (by simp [LB.blk]))).trans (yw.mono (by simp [LB.blk]))).trans (Av.mono (fun y hy=>by simp only [LB.blk,ρ];simp [hy]))),S9,rk9,ak,XU.dB Av J2 (fun y hy=>Or.inl hy) (fT _ _) (by rw [je]),Wp.Dx,Wp.isR,fun y hy=>?_,?_,fun q hq=>by rw [if_neg σ]⟩
   ·have a1:=H5.out.2.1 y hy;have a2:=hs8 y (fun hm=>hy (IJ.out.2 y hm));have a3:=Wp.far y (fun hm=>hy (aH.2 (Or.inr (by rw [aH] at hm;simpa [BT.nodes] using hm))));exact ⟨gQ (gQ a1.1 a2) a3.1,a3.2.trans a1.2⟩
   ·have a3:=(Wp.far x (fun hm=>HP.out.1.2.2 (by rw [aH] at hm;simpa [BT.nodes] using hm))).1;have a4:=hx8;exact ⟨a3.1.trans a4.2.2.1.root,a3.2.1.trans a4.2.2.2.root,a3.2.2.trans a4.2.1⟩
  ·have hmb:(m.root != -1)=true:=by
    have:=(bM hmz).2;simp;omega
   have YG:=χ hmz;have hxm:∀y,y∈m.nodes->y∉(aj (f::P2) (.node x .nil .nil)).nodes:=fun y hy hm=>by
    have b1:=HMM.out.1 y hy;rw [aH] at hm;simp only [BT.nodes,List.nil_append,ρ,ς,or_false] at hm;rcases hm with hm|hm
    ·exact b1.2 hm
    ·exact b1.1 hm
   have hnd:(m.nodes++dU (f::P2)).Nodup:=by
    rw [θ];exact ⟨HMM.out.2.2,HP.out.2.2.2.2,fun a ha b hb e=>(HMM.out.1 a ha).1 (by rw [e];exact hb)⟩
   have hsm:∀y,y∈m.nodes++dU (f::P2)->y∈(aj (f::P2) (.node x l r)).nodes:=fun y hy=>by
    rw [τ] at hy;rcases hy with hy|hy
    ·exact HMM.out.2.1 y hy
    ·exact aH.2 (Or.inr hy)
   have Po:=χ (ψ hxm (ψ hnd hsm));clear hmz hxm hnd hsm
   go_wp2_with (first
    | ((go_at_call 250;(with_reducible refine (ku).mono ?_));rintro e w6 ⟨rfl,kk,DD⟩;(have u6:aa [] w5 w6:=by (rw [DD];exact (aa.refl _ _).drewN kk));clear DD;(have g61:=(vD.out.aA u6).h1);obtain ⟨z,hz,kr⟩:=ksd w6 u6)
    | ((go_at_call 249;(with_reducible refine (kr).mono ?_));rintro e w7 ⟨rfl,kk7,hw7⟩;(have u7:aa [] w5 w7:=by (rw [hw7];exact u6.drewN kk7));clear hw7;(have g71:=(vD.out.aA u7).h1);(have kc:=EZ w7 u7))
    | (go_at_call 247;(with_reducible refine (nX _ _).mono ?_);rintro e w9 ⟨rfl,aM⟩;rw [aM];clear aM w9)
    | ((go_at_call 244;(with_reducible refine (kc).mono ?_));rintro e w8 ⟨rfl,Kk,S8,hT8,hx8,hp8,hs8⟩;(have g81:=((vD.out.aA u7).iV Kk hT8).h1);(have khg:=CZ hT8 hp8 (H5.out.2.2.2.1.frame (fun y hy=>hs8 y (Po.out.1 y hy))) YG.out Po.out.2.1 (fun y hy=>HT.out.2.2.2.2 y (Po.out.2.2 y hy))))
    | ((go_at_call 251;(with_reducible refine (khg).mono ?_));rintro e w8b ⟨rfl,hu8b,S8b,hT8b,hp8b,hs8b⟩;(have kmd:=A7 (((vD.out.aA u7).iV Kk hT8).iV hu8b hT8b) (old:=.node x l r) hp8b H5.out.2.2.2.2 H5.out.2.2.1 ((aP (f::P2) m).nodup_iff.2 Po.out.2.1) (fun y hy=>HT.out.2.2.2.2 y (Po.out.2.2 y ((aP (f::P2) m).mem_iff.1 hy)))))
    | ((go_at_call 245;(with_reducible refine (kmd).mono ?_));rintro e w9 ⟨rfl,yw,S9,rk9,XU,Wp⟩;(have g90:=XU.h0);(have kd:=iD XU.cells x Oa.out))
    | ((go_at_call 151;(with_reducible refine (kd).mono ?_));rintro e w10 ⟨rfl,J2,Av⟩)
    | fail)
   go_ret;refine ⟨rfl,(((((u5.trans (u7.mono σ)).trans (Kk.mono (by simp [LB.blk]))).trans (hu8b.mono (by simp [LB.blk]))).trans (yw.mono (by simp [LB.blk]))).trans (Av.mono (fun y hy=>by simp only [LB.blk,ρ];simp [hy]))),S9,rk9,ak,XU.dB Av J2 (fun y hy=>Or.inl hy) (fT _ _) (by rw [je]),Wp.Dx,Wp.isR,fun y hy=>?_,?_,fun q hq=>by rw [if_neg σ]⟩
   ·have a1:=H5.out.2.1 y hy;have a2:=hs8 y (fun hm=>hy (IJ.out.2 y hm));have a2b:=hs8b y (fun hm=>hy (Po.out.2.2 y hm));have a3:=Wp.far y (fun hm=>hy (Po.out.2.2 y ((aP (f::P2) m).mem_iff.1 hm)));exact ⟨gQ (gQ (gQ a1.1 a2) a2b) a3.1,a3.2.trans a1.2⟩
   ·have rO:x∉m.nodes++dU (f::P2):=fun hm=>by
     rw [τ] at hm;rcases hm with hm|hm
     ·exact (HMM.out.1 x hm).2 rfl
     ·exact HP.out.1.2.2 hm
    have a3:=gQ (hs8b x rO) (Wp.far x (fun hm=>rO ((aP (f::P2) m).mem_iff.1 hm))).1;have a4:=hx8;exact ⟨a3.1.trans a4.2.2.1.root,a3.2.1.trans a4.2.2.2.root,a3.2.2.trans a4.2.1⟩
theorem Gp (h:mG w B F gt ct A st tr) (g x:Nat) (hx:x∈(tr g).nodes) :
  Calls Tryz.prog 238 #[.pointer (some ⟨B.n0,0,none⟩),.int .i64 (x:Int)] w fun e w'=>e=.returned (.bool true)/\aa (B.blk F gt) w w'/\
   mG w' B F gt ct (bz A x) (bZ st (GU A (tr g) x).2) (fun q=>if q=g then (GU A (tr g) x).1 else tr q):=by
 obtain ⟨S,rk,ak,hM,hI,hL,hR⟩:=h;have hm:=(hI.mem g x).1 hx;have hin:bX A (x:Int)=true:=(ai A x).2 ⟨hm.2.1,ω⟩;have e:=nH hx;unfold GU;generalize (pathOf (tr g) x).1=P at *;generalize (pathOf (tr g) x).2.1=l at *;generalize (pathOf (tr g) x).2.2=r at *;have hgt:g<ak.length:=by rw [hM.jE];have:=(hM.cells.ok.nat x hm.2.1);omega
 have hgh:g<A.hs.length:=by rw [←hM.jE];exact hgt
 have hT:=hI.Dx g;have hn:=hI.nd g;have hH:=hI.heap g;have hRg:=hR g;have JV:=hL g;rw [e] at hT hn hH hRg JV;obtain ⟨d1,d2,d3⟩:=GI nM hn hH;obtain ⟨l1,l2⟩:=(uI _ _).1 JV;have ml:=ve A _ l r (Nat.le_refl _) l1.2.1 l1.2.2;refine (DZ hM hin hm.2.2 hgt hT hn hRg (fun y hy=>?_)).mono ?_
 ·rw [←e] at hy;have:=(hI.mem g y).1 hy;exact (ai A y).2 ⟨this.2.1,ω⟩
 ·rintro e' w' ⟨rfl,hu,S',oD,jv,q1,q2,q3,q4,q5,q6⟩;refine ⟨rfl,hu,S',oD,jv,q1,hI.del hx q2 ?_ (GV _ _ _ d2) (fun y hy=>(q4 y (by rw [←e];exact hy)).1) q5 (fun q hq=>?_),fun q=>?_,fun q=>?_⟩
  ·rw [e];exact ((tY _ _ _).cons x).trans d1
  ·rw [q6 q hq]
   by_cases hq':q=g
   ·rw [if_pos hq']
    by_cases hp:P=[]
    ·rw [if_pos ⟨hp,hq'⟩]
    ·rw [if_neg (fun h=>hp h.1),hq',hI.top g hgh,e];cases P with
     | nil=>exact absurd rfl hp
     | cons f P2=>rw [Fy];exact kH _ _ _ _
   ·rw [if_neg hq',if_neg (fun h=>hq' h.2)]
  ·show Lean (if q=g then _ else _)
   split
   ·exact Hz _ _ _ ml l2
   ·exact hL q
  ·show gK oD (if q=g then _ else _)
   split
   ·exact q3
   ·rename_i hq
    refine (hR q).frame (fun y hy=>(q4 y (fun hm'=>?_)).2);rw [←e] at hm';have c1:=(hI.mem g y).1 hm';have c2:=(hI.mem q y).1 hy;omega
end
theorem Hm {A:NS} {P:List Fr} {x:Nat} {l r:BT} {k s:Int} (hB:jo A x k s=true) (hx:x<A.cs.length) (hn:(aj P (.node x l r)).nodes.Nodup) (hH:Heap A (aj P (.node x l r))) :
  Heap (aB A x k s) (aj P .nil)/\Heap (aB A x k s) (.node x l r):=by
 have h1:=qG hn;have hs:=rY hH;refine ⟨(uh (t':=.nil) hH trivial (fun y hy=>by cases hy)).frame (fun y hy=>?_),Qx hB hx hs ?_⟩
 ·rw [rA hB hx,if_neg];intro e;rw [e,aH] at hy;rcases hy with hy|hy
  ·cases hy
  ·exact h1.1.2.2 hy
 ·have:=(aP P (.node x l r)).nodup_iff.1 hn;rw [θ] at this;exact this.1
section
variable {w:World} {B:LB} {F:List Nat} {gt ct:Nat} {A:NS} {st:Nat} {tr:Nat->BT} {S:TS} {rk:Nat->Nat} {ak:List Int}
def Kg (w':World) (B:LB) (F:List Nat) (gt ct:Nat) (A':NS) (st:Nat) (S:TS) (rk:Nat->Nat) (ak:List Int) (g:Nat) (X:List Nat) (T:BT):Prop:=
 ∃S' oD jv,lU w' B F gt ct A' st S' oD jv/\cO S' (-1) T.root T/\gK oD T/\(∀y,y∉X->S.at S' y/\oD y=rk y)/\
  ∀q,q<A'.hs.length->jv.getD q 0=if q=g then T.root else ak.getD q 0
theorem TE (hM:lU w B F gt ct A st S rk ak) {g x:Nat} {l r:BT} {k s:Int} (hk:-9223372036854775808<=k/\k<=9223372036854775807/\0<=s/\s<=18446744073709551615) (hB:jo A x k s=true)
  (hg:(A.c x).i=g) (hg0:0<g) (htop:ak.getD g 0=x) (hxl:x<A.cs.length) (hT:cO S (-1) (BT.node x l r).root (.node x l r)) (hR:gK rk (.node x l r)) :
  Calls Tryz.prog 237 #[.pointer (some ⟨B.n0,0,none⟩),.int .i64 (x:Int),.agg #[.int .i64 k,.int .u64 s]] w fun e w'=>e=.returned (.bool true)/\aa (B.blk F gt) w w'/\
   Kg w' B F gt ct (aB A x k s) st S rk ak g (BT.node x l r).nodes (.node x l r):=by
 have hcs:=fJ A x k s;have lX:=lN A x k s;have hin':bX (aB A x k s) (x:Int)=true:=(ai _ x).2 ⟨by rw [hcs];exact hxl,by rw [iR hB hxl,hg];omega⟩;have hi':((aB A x k s).c x).i=g:=by rw [iR hB hxl,hg]
 have hux:S.u x=-1:=hT.2.1;have u1:aa [] w (w.alloc (.cells #[.int .i64 k,.int .u64 s] 129)):=(aa.refl _ _).alloc _;have kp:=fun W (hW:aa [] (w.alloc (.cells #[.int .i64 k,.int .u64 s] 129)) W)=>iP (hM.cells.aA (u1.trans hW)) x k s hk hB;have h0:=hM.h0;have uQ:B.n0∉F:=hM.bI.1;have hlt:=hM.lt;have hsz:w.heap.size∉F:=fun hm=>by have:=hlt w.heap.size (by simp [LB.blk,hm]);omega
 have r0:∀W,aa F (w.alloc (.cells #[.int .i64 k,.int .u64 s] 129)) W->W.cell? ⟨B.n0,0,none⟩=some (.pointer (some ⟨B.c,0,none⟩)):=fun W hW=>hW.kept (u1.was h0) uQ;have r1:∀W,aa F (w.alloc (.cells #[.int .i64 k,.int .u64 s] 129)) W->W.cell? ⟨w.heap.size,0,none⟩=some (.int .i64 k):=fun W h=>h.kept σ hsz;have r2:∀W,aa F (w.alloc (.cells #[.int .i64 k,.int .u64 s] 129)) W->W.cell? ⟨w.heap.size,1,none⟩=some (.int .u64 s):=fun W h=>h.kept σ hsz;have HM:=χ hM;have HG:=χ (ψ htop (ψ hT hR));clear hM hT hR htop hlt h0 hg;generalize hA':aB A x k s=A' at *
 go_enter Tryz.func237,Tryz.ntmps237
 go_wp2
 go_region_held3 (aa F (w.alloc (.cells #[.int .i64 k,.int .u64 s] 129))) (exact ν)
  ((go_at_call 147;(with_reducible refine (kp _ β).mono ?_);rintro e w1 ⟨rfl,jD,hu1⟩;(have hu2:aa F (w.alloc (.cells #[.int .i64 k,.int .u64 s] 129)) w1:=ν)))
 have uF:aa F w (w.alloc (.cells #[.int .i64 k,.int .u64 s] 129)):=u1.mono σ;have hM1:=HM.out.dB (uF.trans hu2) jD (fun y hy=>Or.inl hy) hcs (by rw [lX]);have kh:=eB hM1.cells x hin';rw [hi'] at kh;have g10:=hM1.h0;have jZ:=χ hM1;have Fq:=χ (uF.trans hu2);clear r0 r1 r2 kp hu1 hu2 jD hM1 uF
 go_wp2_with (first
  | ((go_at_call 140;(with_reducible refine (kh).mono ?_));rintro e w2 ⟨rfl,hC2,hu2⟩;(have g21:=(jZ.out.dB hu2 hC2 (fun y hy=>Or.inl hy) rfl rfl).h1);(have kc:=Ej B.bt B.ba A'.cs.length S (x:Int) w2 (jZ.out.dB hu2 hC2 (fun y hy=>Or.inl hy) rfl rfl).trees (by unfold pF;rw [if_pos ω,π];exact hux)))
  | (go_at_call 244;(with_reducible refine (kc).mono ?_);rintro e w9 ⟨rfl,aM⟩;rw [aM];clear aM w9)
  | fail)
 go_ret;refine ⟨rfl,(Fq.out.trans hu2).mono (fun y hy=>by simp only [LB.blk,ρ];simp [hy]),S,rk,ak,jZ.out.dB hu2 hC2 (fun y hy=>Or.inl hy) rfl rfl,HG.out.2.1,HG.out.2.2,fun y _=>⟨⟨rfl,rfl,rfl⟩,rfl⟩,fun q hq=>?_⟩
 by_cases e:q=g
 ·rw [if_pos e,e,HG.out.1];rfl
 ·rw [if_neg e]
theorem WG (hM:lU w B F gt ct A st S rk ak) {g x:Nat} {f:Fr} {P:List Fr} {l r:BT} {k s:Int} (hk:-9223372036854775808<=k/\k<=9223372036854775807/\0<=s/\s<=18446744073709551615) (hB:jo A x k s=true)
  (hg:(A.c x).i=g) (hg0:0<g) (hgt:g<ak.length) (htop:ak.getD g 0=(aj (f::P) (.node x l r)).root) (hT:cO S (-1) (aj (f::P) (.node x l r)).root (aj (f::P) (.node x l r))) (hn:(aj (f::P) (.node x l r)).nodes.Nodup)
  (hR:gK rk (aj (f::P) (.node x l r))) (hall:∀y,y∈(aj (f::P) (.node x l r)).nodes->bX A (y:Int)=true) :
  Calls Tryz.prog 237 #[.pointer (some ⟨B.n0,0,none⟩),.int .i64 (x:Int),.agg #[.int .i64 k,.int .u64 s]] w fun e w'=>e=.returned (.bool true)/\aa (B.blk F gt) w w'/\
   Kg w' B F gt ct (aB A x k s) (bZ st (aK aC (aB A x k s) (om (f::P) (.node x l r) .nil) (.node x l r)).2) S rk ak g (aj (f::P) (.node x l r)).nodes (aK aC (aB A x k s) (om (f::P) (.node x l r) .nil) (.node x l r)).1:=by
 have hcs:=fJ A x k s;have lX:=lN A x k s;have hxl:x<A.cs.length:=by
  have:=hall x (aH.2 (Or.inl (by simp [BT.nodes])));exact ((ai A x).1 this).1
 have hin':bX (aB A x k s) (x:Int)=true:=(ai _ x).2 ⟨by rw [hcs];exact hxl,by rw [iR hB hxl,hg];omega⟩;have hi':((aB A x k s).c x).i=g:=by rw [iR hB hxl,hg]
 have si:∀y,y∈(aj (f::P) (.node x l r)).nodes->bX (aB A x k s) (y:Int)=true:=fun y hy=>by
  have:=(ai A y).1 (hall y hy);exact (ai _ y).2 ⟨by rw [hcs];exact this.1,by rw [iR hB hxl];exact this.2⟩
 have hlt':∀y,y∈(aj (f::P) (.node x l r)).nodes->y<(aB A x k s).cs.length:=fun y hy=>((ai _ y).1 (si y hy)).1;have hpn:=(aP (f::P) (.node x l r)).nodup_iff.1 hn;have hrr:=(yM _ _).1 hR;rw [θ] at hpn;have hn0:(aj (f::P) .nil).nodes.Nodup:=(aP (f::P) .nil).nodup_iff.2 (by simpa [BT.nodes] using hpn.2.1);have Az:∀y,y∈(aj (f::P) .nil).nodes↔y∈dU (f::P):=fun y=>by rw [aH];simp [BT.nodes]
 have hfm:∀y,y∈(om (f::P) (.node x l r) .nil).nodes↔y∈dU (f::P):=fun y=>by rw [(tY _ _ _).mem_iff];exact Az y
 have hfn:(om (f::P) (.node x l r) .nil).nodes.Nodup:=(tY _ _ _).nodup_iff.2 hn0;have sZ:((om (f::P) (.node x l r) .nil).nodes++(BT.node x l r).nodes).Nodup:=by
  rw [θ];exact ⟨hfn,hpn.1,fun a ha b hb e=>hpn.2.2 b hb a ((hfm a).1 ha) e.symm⟩
 have IK:∀y,y∈(om (f::P) (.node x l r) .nil).nodes++(BT.node x l r).nodes->y∈(aj (f::P) (.node x l r)).nodes:=fun y hy=>by
  rw [τ,hfm] at hy;rw [aH];exact hy.symm
 have hrt:(aj (f::P) (.node x l r)).root=(om (f::P) (.node x l r) .nil).root:=by rw [Fy];exact kH _ _ _ _
 rw [hrt] at htop;have u1:aa [] w (w.alloc (.cells #[.int .i64 k,.int .u64 s] 129)):=(aa.refl _ _).alloc _;have kp:=fun W (hW:aa [] (w.alloc (.cells #[.int .i64 k,.int .u64 s] 129)) W)=>iP (hM.cells.aA (u1.trans hW)) x k s hk hB;have h0:=hM.h0;have uQ:B.n0∉F:=hM.bI.1;have hlt:=hM.lt;have hsz:w.heap.size∉F:=fun hm=>by have:=hlt w.heap.size (by simp [LB.blk,hm]);omega
 have r0:∀W,aa F (w.alloc (.cells #[.int .i64 k,.int .u64 s] 129)) W->W.cell? ⟨B.n0,0,none⟩=some (.pointer (some ⟨B.c,0,none⟩)):=fun W hW=>hW.kept (u1.was h0) uQ;have r1:∀W,aa F (w.alloc (.cells #[.int .i64 k,.int .u64 s] 129)) W->W.cell? ⟨w.heap.size,0,none⟩=some (.int .i64 k):=fun W h=>h.kept σ hsz;have r2:∀W,aa F (w.alloc (.cells #[.int .i64 k,.int .u64 s] 129)) W->W.cell? ⟨w.heap.size,1,none⟩=some (.int .u64 s):=fun W h=>h.kept σ hsz;have HM:=χ hM;have HSE:=χ (ψ hM.sep hM.bI);have HG:=χ (ψ hT (ψ hn (ψ hrr (ψ si hlt'))));have HX:=χ (ψ sZ IK);have H0:=χ (ψ hn0 (ψ Az hfm))
 have Xb:=hM.cells.ok.h1;have hA:=hM.cells.ok.c1;clear hM hT hR hn hall si hlt' hpn hrr hlt h0 hg sZ IK hn0 Az hfm hfn hrt uQ hsz;generalize hA':aB A x k s=A' at *
 go_enter Tryz.func237,Tryz.ntmps237
 go_wp2
 go_region_held3 (aa F (w.alloc (.cells #[.int .i64 k,.int .u64 s] 129))) (exact ν)
  ((go_at_call 147;(with_reducible refine (kp _ β).mono ?_);rintro e w1 ⟨rfl,jD,hu1⟩;(have hu2:aa F (w.alloc (.cells #[.int .i64 k,.int .u64 s] 129)) w1:=ν)))
 have uF:aa F w (w.alloc (.cells #[.int .i64 k,.int .u64 s] 129)):=u1.mono σ;have hM1:=HM.out.dB (uF.trans hu2) jD (fun y hy=>Or.inl hy) hcs (by rw [lX]);have kh:=eB hM1.cells x hin';rw [hi'] at kh;have g10:=hM1.h0;have jZ:=χ hM1;have Fq:=χ (uF.trans hu2);clear r0 r1 r2 kp hu1 hu2 jD hM1 uF;have EZ:∀w2,aa F w1 w2->aG w2 B.c F A' st->_:=fun w2 hu2 hC2=>nW (jZ.out.dB hu2 hC2 (fun y hy=>Or.inl hy) rfl rfl).trees (f:=f) (P:=P) (t:=.node x l r) HG.out.1 HG.out.2.1 HG.out.2.2.2.2
 rw [show BT.root (.node x l r)=(x:Int) from rfl,show cutV f (.node x l r)=(f.1:Int) by unfold cutV;rw [if_neg (by show ¬ (x:Int)=-1;omega)],DR] at EZ
 go_wp2_with (first
  | ((go_at_call 140;(with_reducible refine (kh).mono ?_));rintro e w2 ⟨rfl,hC2,hu2⟩;(have g21:=(jZ.out.dB hu2 hC2 (fun y hy=>Or.inl hy) rfl rfl).h1);(have kc:=EZ w2 hu2 hC2))
  | ((go_at_call 244;(with_reducible refine (kc).mono ?_));rintro e w3 ⟨rfl,hu3,S3,Bg,hx3,hp3,hs3⟩;(have kmd:=A7 ((jZ.out.dB hu2 hC2 (fun y hy=>Or.inl hy) rfl rfl).iV hu3 Bg) (old:=.node x l r) (m:=.nil) hp3 trivial HG.out.2.2.1.2 H0.out.1 (fun y hy=>HG.out.2.2.2.2 y (aH.2 (Or.inr ((H0.out.2.1 y).1 hy))))))
  | ((go_at_call 245;(with_reducible refine (kmd).mono ?_));rintro e w4 ⟨rfl,iC,S4,rk4,sG,ZP⟩)
  | fail)
 have hx4:cO S4 (-1) (x:Int) (.node x l r):=cO.frame hx3 (fun y hy=>(ZP.far y (fun hm=>by
  have h1:=(H0.out.2.1 y).1 hm;have h2:=(aP (f::P) (.node x l r)).nodup_iff.1 HG.out.2.1;rw [θ] at h2
  exact h2.2.2 y hy y h1 rfl)).1)
 have hr4:gK rk4 (.node x l r):=HG.out.2.2.1.1.frame (fun y hy=>(ZP.far y (fun hm=>by
  have h1:=(H0.out.2.1 y).1 hm;have h2:=(aP (f::P) (.node x l r)).nodup_iff.1 HG.out.2.1;rw [θ] at h2
  exact h2.2.2 y hy y h1 rfl)).2)
 have f4:∀y,y∉(aj (f::P) (.node x l r)).nodes->S.at S4 y/\rk4 y=rk y:=fun y hy=>by
  have a1:=hs3 y hy;have a2:=ZP.far y (fun hm=>hy (aH.2 (Or.inr ((H0.out.2.1 y).1 hm))));exact ⟨gQ a1 a2.1,a2.2⟩
 have u4:aa (B.blk F gt) w w4:=(((Fq.out.trans hu2).mono (fun y hy=>by simp only [LB.blk,ρ];simp [hy])).trans (hu3.mono (by simp [LB.blk]))).trans (iC.mono (by simp [LB.blk]));have hE:=χ (ψ ZP f4);have qA:=HM.out.cF;have km:=fun W (hW:aa [] w4 W)=>vK (sG.aA hW) (tb:=.node x l r) ZP.Dx hx4 HX.out.1 (fun y hy=>HG.out.2.2.2.1 y (HX.out.2 y hy)) ZP.isR hr4;rw [show BT.root (.node x l r)=(x:Int) from rfl] at km;have d4:=sG.jQ.cell g hgt;rw [htop] at d4;have f4':=sG.jQ.free g;have h3:=sG.h3;have hgl:=sG.lt gt (by simp [LB.blk]);have Ef:B.n0∉[B.c,B.ba,B.br,gt]:=by
  have a1:=HSE.out;have a2:B.n0≠B.c:=fun e=>a1.2.1 (by rw [e];exact qA);simp;omega
 have hgc:gt∉[B.c,B.ba,B.br]:=by
  have a1:=HSE.out;have a2:gt≠B.c:=fun e=>a1.2.2.2.2.2 (by rw [e];exact qA);simp;omega
 have r3:∀W,aa [B.c,B.ba,B.br,gt] w4 W->W.cell? ⟨B.n0,3,none⟩=some (.slice (some ⟨gt,0,none⟩) ak.length ct):=fun W hW=>hW.kept h3 Ef;have r4:∀W,aa [B.c,B.ba,B.br] w4 W->W.cell? ⟨gt,g,none⟩=some (.int .i64 (om (f::P) (.node x l r) .nil).root)/\W.frozen? ⟨gt,g,none⟩=false:=fun W hW=>⟨hW.kept d4 hgc,hW.aR d4 hgc f4'⟩
 have BP:(0:Int)<=(g:Int):=ω;have Gs:(g:Int)<(ak.length:Int):=ω;have HF:Hid (∀ (W:World) (S':TS) (oD:Nat->Nat) (st':Nat),(∀y,y∉(om (f::P) (.node x l r) .nil).nodes++(BT.node x l r).nodes->S4.at S' y/\oD y=rk4 y)->∀y,y∉(aj (f::P) (.node x l r)).nodes->S.at S' y/\oD y=rk y):=fun W S' oD st' a y hy=>by
  have b1:=hE.out.2 y hy;have b2:=a y (fun hm=>hy (HX.out.2 y hm));exact ⟨gQ b1.1 b2.1,b2.2.trans b1.2⟩
 clear hE f4 ZP hx4 hr4 hs3 hp3 hx3 Bg;generalize hmt:(aK aC A' (om (f::P) (.node x l r) .nil) (.node x l r)).1=mt at *;generalize hmk:(aK aC A' (om (f::P) (.node x l r) .nil) (.node x l r)).2=mk at *;generalize hth:om (f::P) (.node x l r) .nil=th at *;clear sG f4' h3;have q3:=r3 _ (aa.refl _ _);have q4:=(r4 _ (aa.refl _ _)).1
 go_region_law
  (first
   | (go_simp;go_at_call 246;(with_reducible refine (km _ β).mono ?_);rintro e w5 ⟨rfl,xL,S5,Xf,wZ,IL,Oc,hs5⟩;(have cu:aa [B.c,B.ba,B.br] w4 w5:=aa.trans β xL);(have iB:aa [B.c,B.ba,B.br,gt] w4 w5:=cu.mono σ);obtain ⟨d5,f5⟩:=r4 _ cu;(have q5:=r3 _ iB)))
 all_goals
  go_wp2;go_ret
  have v3:aa (B.blk F gt) w w5:=u4.trans (cu.mono (fun y hy=>by
   simp only [ρ,ς,or_false] at hy;simp only [LB.blk,ρ];rcases hy with rfl|rfl|rfl
   ·simp [qA]
   ·simp
   ·simp))
  subst hth hmt hmk;refine ⟨rfl,v3.setCell (Or.inl (by simp [LB.blk])) _,S5,Xf,_,wZ.qL g _,IL,Oc,HF.out w5 S5 Xf 0 hs5,fun q hq=>?_⟩
  by_cases e:q=g
  ·rw [if_pos e,e,φ,List.getElem?_set,if_pos rfl,if_pos hgt];rfl
  ·rw [if_neg e,φ,List.getElem?_set,if_neg (fun h=>e h.symm),←φ]
theorem Rj (h:mG w B F gt ct A st tr) (g x:Nat) (hx:x∈(tr g).nodes) (k s:Int) (hk:-9223372036854775808<=k/\k<=9223372036854775807/\0<=s/\s<=18446744073709551615) (hB:jo A x k s=true) :
  Calls Tryz.prog 237 #[.pointer (some ⟨B.n0,0,none⟩),.int .i64 (x:Int),.agg #[.int .i64 k,.int .u64 s]] w fun e w'=>e=.returned (.bool true)/\aa (B.blk F gt) w w'/\
   mG w' B F gt ct (aB A x k s) (bZ st (Q7 (aB A x k s) (tr g) x).2) (fun q=>if q=g then (Q7 (aB A x k s) (tr g) x).1 else tr q):=by
 obtain ⟨S,rk,ak,hM,hI,hL,hR⟩:=h;have hm:=(hI.mem g x).1 hx;have e:=nH hx;unfold Q7;generalize (pathOf (tr g) x).1=P at *;generalize (pathOf (tr g) x).2.1=l at *;generalize (pathOf (tr g) x).2.2=r at *;have hgt:g<ak.length:=by rw [hM.jE];have:=(hM.cells.ok.nat x hm.2.1);omega
 have hgh:g<A.hs.length:=by rw [←hM.jE];exact hgt
 have hT:=hI.Dx g;have hn:=hI.nd g;have hH:=hI.heap g;have hRg:=hR g;have JV:=hL g;have htp:=hI.top g hgh;rw [e] at hT hn hH hRg JV htp;obtain ⟨d1,d2⟩:=Hm hB hm.2.1 hn hH;obtain ⟨l1,l2⟩:=(uI _ _).1 JV;have fin:∀w' T st',Kg w' B F gt ct (aB A x k s) st' S rk ak g (tr g).nodes T->T.nodes.Perm (tr g).nodes->Heap (aB A x k s) T->Lean T->mG w' B F gt ct (aB A x k s) st' (fun q=>if q=g then T else tr q):=fun w' T st' hE hp hh hl=>by
  obtain ⟨S',oD,jv,q1,q2,q3,q4,q6⟩:=hE;refine ⟨S',oD,jv,q1,hI.low hB hx q2 hp hh (fun y hy=>(q4 y hy).1) (fun q hq=>q6 q (by rw [lN];exact hq)),fun q=>?_,fun q=>?_⟩
  ·show Lean (if q=g then _ else _)
   split
   ·exact hl
   ·exact hL q
  ·show gK oD (if q=g then _ else _)
   split
   ·exact q3
   ·rename_i hq
    refine (hR q).frame (fun y hy=>(q4 y (fun hm'=>?_)).2);have c1:=(hI.mem g y).1 hm';have c2:=(hI.mem q y).1 hy;omega
 cases P with
 | nil=>
  refine (TE hM hk hB hm.2.2 hm.1 htp hm.2.1 hT hRg).mono ?_;rintro e' w' ⟨rfl,hu,hE⟩;have e2:tr g=.node x l r:=e;refine ⟨rfl,hu,?_⟩
  show mG w' B F gt ct (aB A x k s) (bZ st 0) (fun q=>if q=g then tr g else tr q)
  rw [gL hM.cells.pI];refine fin w' _ st (by rw [e2];exact hE) (List.Perm.refl _) (by rw [e2];exact d2) (hL g)
 | cons f P2=>
  refine (WG hM hk hB hm.2.2 hm.1 hgt htp hT hn hRg (fun y hy=>?_)).mono ?_
  ·rw [←e] at hy;have:=(hI.mem g y).1 hy;exact (ai A y).2 ⟨this.2.1,ω⟩
  ·rintro e' w' ⟨rfl,hu,hE⟩;refine ⟨rfl,hu,?_⟩;have hpn:=(aP (f::P2) (.node x l r)).nodup_iff.1 hn;obtain ⟨mp,mh⟩:=mH nM (aB A x k s) _ (om (f::P2) (.node x l r) .nil) (.node x l r) (Nat.le_refl _);have pn:((om (f::P2) (.node x l r) .nil).nodes++(BT.node x l r).nodes).Perm (tr g).nodes:=by
    rw [e];refine (((tY _ _ _).trans (aP (f::P2) .nil)).append_right _).trans ?_;refine List.perm_append_comm.trans ?_;simp only [BT.nodes,List.nil_append];exact (aP (f::P2) (.node x l r)).symm
   refine fin w' _ _ (by rw [e];exact hE) (mp.trans pn) (mh (GV _ _ _ d1) d2 (pn.nodup_iff.2 (hI.nd g))) (ve _ _ _ _ (Nat.le_refl _) (Hz _ _ _ trivial l2) l1)
end
section
variable {w:World} {B:LB} {F:List Nat} {gt ct:Nat} {A:NS} {st:Nat} {tr:Nat->BT} {S:TS} {rk:Nat->Nat} {ak:List Int}
theorem Bv (h:mG w B F gt ct A st tr) (g:Nat) (hn:0<dZ A g) :
  Calls Tryz.prog 239 #[.pointer (some ⟨B.n0,0,none⟩),.int .i64 (g:Int)] w fun e w'=>∃m:Nat,dW A g=some m/\e=.returned (.tuple #[.int .i64 (m:Int),.bool true])/\aa (B.blk F gt) w w'/\
   mG w' B F gt ct (bz A m) (bZ st (GU A (tr g) m).2) (fun q=>if q=g then (GU A (tr g) m).1 else tr q):=by
 have k:=Di h g hn;have h':=h;obtain ⟨S,rk,ak,hM,hI,hL,hR⟩:=h';have kd:=fun m hm=>Gp h g m hm;have hroot:∀m:Nat,(tr g).root=m->m∈(tr g).nodes:=fun m hm=>by
  have hne:tr g≠.nil:=fun e=>by rw [e] at hm;have:(-1:Int)=m:=hm;omega
  have:=(bM hne).1;rw [hm] at this;simpa using this
 clear hM hI hL hR h
 go_enter Tryz.func239,Tryz.ntmps239
 go_wp2_with (first
  | ((go_at_call 243;(with_reducible refine (k).mono ?_));rintro e w1 ⟨m,hm1,hm2,rfl,rfl⟩;(have XV:=kd m (hroot m hm2)))
  | ((go_at_call 238;(with_reducible refine (XV).mono ?_));rintro e w2 ⟨rfl,hu2,hL2⟩)
  | fail)
 go_ret2;exact ⟨m,hm1,rfl,hu2,hL2⟩
end
theorem Jf (p c:Nat):∀W:World,W.cell? ⟨p,0,none⟩=some (.pointer (some ⟨c,0,none⟩))->(method 429 186 (.pointer (some ⟨p,0,none⟩)) "Has").run Tryz.prog W=.ok (139,.pointer (some ⟨c,0,none⟩)) W:=(by intro W h;unfold method;have hm:∃m,(Array.find? (fun x=>x.name == "Has") Tryz.t186.methods)=some m/\m.path.toList=[⟨231,0,true⟩]/\m.func=some (139,true)/\m.path.isEmpty=false:=⟨(Array.find? (fun x=>x.name == "Has") Tryz.t186.methods).get!,by kernel_rfl,by kernel_rfl,by kernel_rfl,by kernel_rfl⟩;obtain ⟨m,h1,h2,h3,h4⟩:=hm;go_simp;simp only [follow,Place.get];go_simp;(try unfold receiverAt);(try simp only [Place.get]);(try go_simp))
theorem EH (p c:Nat):∀W:World,W.cell? ⟨p,0,none⟩=some (.pointer (some ⟨c,0,none⟩))->(method 429 186 (.pointer (some ⟨p,0,none⟩)) "Entry").run Tryz.prog W=.ok (137,.pointer (some ⟨c,0,none⟩)) W:=(by intro W h;unfold method;have hm:∃m,(Array.find? (fun x=>x.name == "Entry") Tryz.t186.methods)=some m/\m.path.toList=[⟨231,0,true⟩]/\m.func=some (137,true)/\m.path.isEmpty=false:=⟨(Array.find? (fun x=>x.name == "Entry") Tryz.t186.methods).get!,by kernel_rfl,by kernel_rfl,by kernel_rfl,by kernel_rfl⟩;obtain ⟨m,h1,h2,h3,h4⟩:=hm;go_simp;simp only [follow,Place.get];go_simp;(try unfold receiverAt);(try simp only [Place.get]);(try go_simp))
theorem Vn (p:Nat):∀W:World,(method 429 186 (.pointer (some ⟨p,0,none⟩)) "Make").run Tryz.prog W=.ok (241,.pointer (some ⟨p,0,none⟩)) W:=fun _=>by kernel_rfl
theorem MN (p:Nat):∀W:World,(method 429 186 (.pointer (some ⟨p,0,none⟩)) "Insert").run Tryz.prog W=.ok (240,.pointer (some ⟨p,0,none⟩)) W:=fun _=>by kernel_rfl
theorem X3 (p:Nat):∀W:World,(method 429 186 (.pointer (some ⟨p,0,none⟩)) "Min").run Tryz.prog W=.ok (243,.pointer (some ⟨p,0,none⟩)) W:=fun _=>by kernel_rfl
theorem Jd (p:Nat):∀W:World,(method 429 186 (.pointer (some ⟨p,0,none⟩)) "Extract").run Tryz.prog W=.ok (239,.pointer (some ⟨p,0,none⟩)) W:=fun _=>by kernel_rfl
theorem GY (p:Nat):∀W:World,(method 429 186 (.pointer (some ⟨p,0,none⟩)) "Decrease").run Tryz.prog W=.ok (237,.pointer (some ⟨p,0,none⟩)) W:=fun _=>by kernel_rfl
def LfQ (w:World) (p:Nat) (F:List Nat) (A:NS):Prop:=∃B F1 gt ct st tr,p=B.n0/\F=B.blk F1 gt/\mG w B F1 gt ct A st tr
def yK:gV where
 ty:=186
 at_:=LfQ
 upd:=fun h hu hS=>by
  obtain ⟨B,F1,gt,ct,st,tr,rfl,rfl,hL⟩:=h;exact ⟨B,F1,gt,ct,st,tr,rfl,rfl,hL.upd hu hS⟩
 lt:=fun h=>by
  obtain ⟨B,F1,gt,ct,st,tr,rfl,rfl,S,rk,ak,hM, -⟩:=h;exact hM.lt
 ok:=fun h=>by
  obtain ⟨B,F1,gt,ct,st,tr,rfl,rfl,S,rk,ak,hM, -⟩:=h;exact hM.cells.ok
 make:=fun {w p F A} h=>by
  obtain ⟨B,F1,gt,ct,st,tr,rfl,rfl,hL⟩:=h;refine aZ 241 (fun _ _=>by kernel_rfl) (Vn _) (fun W hW=>?_);have mF:=hL.aA hW
  by_cases hl:65536<A.hs.length
  ·have e1:dF A=0:=by unfold dF;rw [if_pos hl]
   have e2:aQ A=A:=by unfold aQ;rw [if_pos hl]
   rw [e1,e2];refine (QI mF hl).mono ?_;rintro e w' ⟨rfl,F',⟨F2,rfl,hA⟩,hu,hf⟩;exact ⟨rfl,_,⟨B,F2,gt,ct,st,tr,rfl,rfl,hA⟩,hu,hf⟩
  ·have e1:dF A=A.hs.length:=by unfold dF;rw [if_neg hl]
   rw [e1];refine (O9 mF hl).mono ?_;rintro e w' ⟨rfl,F',⟨F2,gt2,ct2,rfl,hA⟩,hu,hf⟩;exact ⟨rfl,_,⟨B,F2,gt2,ct2,st,tr,rfl,rfl,hA⟩,hu,hf⟩
 insert:=fun {w p F A} g y k s hk hB h=>by
  obtain ⟨B,F1,gt,ct,st,tr,rfl,rfl,hL⟩:=h;refine aZ 240 (fun _ _=>by kernel_rfl) (MN _) (fun W hW=>?_);refine (GK (hL.aA hW) g y k s hk hB).mono ?_;rintro e w' ⟨rfl,hu,hL2⟩;exact ⟨rfl,Goes.stay ⟨B,F1,gt,ct,_,_,rfl,rfl,hL2⟩ hu⟩
 min:=fun {w p F A} y hB h=>by
  obtain ⟨B,F1,gt,ct,st,tr,rfl,rfl,hL⟩:=h;refine aZ 243 (fun _ _=>by kernel_rfl) (X3 _) (fun W hW=>?_);have mF:=hL.aA hW;have hok:A.Ok:=by obtain ⟨S,rk,ak,hM, -⟩:=hL;exact hM.cells.ok
  by_cases hl:dZ A (y:Int)=0
  ·rw [iQ.2 hl];have h4:=(aT _ _).1 hB;have h5:=hok.h1;refine (Oi mF y ω hl).mono ?_;rintro e w' ⟨rfl,rfl⟩;exact ⟨rfl,Goes.stay ⟨B,F1,gt,ct,st,tr,rfl,rfl,mF⟩ (aa.refl _ _)⟩
  ·refine (Di mF y ω).mono ?_;rintro e w' ⟨m,hm, -,rfl,rfl⟩;rw [hm];exact ⟨rfl,Goes.stay ⟨B,F1,gt,ct,st,tr,rfl,rfl,mF⟩ (aa.refl _ _)⟩
 extract:=fun {w p F A} y m hm h=>by
  obtain ⟨B,F1,gt,ct,st,tr,rfl,rfl,hL⟩:=h;refine aZ 239 (fun _ _=>by kernel_rfl) (Jd _) (fun W hW=>?_);have hl:¬dZ A (y:Int)=0:=fun e=>by rw [iQ.2 e] at hm;cases hm
  refine (Bv (hL.aA hW) y ω).mono ?_;rintro e w' ⟨m',hm',rfl,hu,hL2⟩;rw [hm] at hm';cases hm';exact ⟨rfl,Goes.stay ⟨B,F1,gt,ct,_,_,rfl,rfl,hL2⟩ hu⟩
 mV:=fun {w p F A} y k s hk hB h=>by
  obtain ⟨B,F1,gt,ct,st,tr,rfl,rfl,hL⟩:=h;refine aZ 237 (fun _ _=>by kernel_rfl) (GY _) (fun W hW=>?_);have mF:=hL.aA hW;have hin:=qE hB;have hx:y∈(tr (A.c y).i.toNat).nodes:=by
   obtain ⟨S,rk,ak,hM,hI, -⟩:=mF;have:=(ai _ _).1 hin;exact (hI.mem _ y).2 ⟨ω,this.1,ω⟩
  refine (Rj mF _ y hx k s hk hB).mono ?_;rintro e w' ⟨rfl,hu,hL2⟩;exact ⟨rfl,Goes.stay ⟨B,F1,gt,ct,_,_,rfl,rfl,hL2⟩ hu⟩
 has:=fun x h=>by
  obtain ⟨B,F1,gt,ct,st,tr,rfl,rfl,S,rk,ak,hM, -⟩:=h;exact iT 139 (fun _ _=>by kernel_rfl) hM.h0 (Jf _ _) (fun W hW=>jN (hM.aA hW).cells x)
 entry:=fun {w p F A} x h=>by
  obtain ⟨B,F1,gt,ct,st,tr,rfl,rfl,S,rk,ak,hM, -⟩:=h;refine iT 137 (fun _ _=>by kernel_rfl) hM.h0 (EH _ _) (fun W hW=>?_);cases hin:bX A x with
  | false=>simpa using mi (hM.aA hW).cells x hin
  | true=>
   obtain ⟨y,rfl⟩:=qD hin;simpa using kN (hM.aA hW).cells y hin
theorem I8 (p:Nat) (w:World):Calls Tryz.prog 99 #[.pointer (some ⟨p,0,none⟩),.int .i64 0] w fun e w'=>e=.returned (.tuple #[.iface 186 (.pointer (some ⟨p,0,none⟩)),.int .i64 0])/\w'=w:=by
 go_enter Tryz.func99,Tryz.ntmps99
 go_wp2;go_ret2;exact ⟨rfl,rfl⟩
theorem TN (n:Nat) (hn:n<=65536):oW yK 6 0 n:=by
 intro w;have kn:=fun W=>TU n W hn;have km:=I8;have hty:yK.ty=186:=rfl;have hat:∀w' B F gt,mG w' B F gt 1 (NS.new n) 0 (fun _=>.nil)->yK.at_ w' B.n0 (B.blk F gt) (NS.new n):=fun w' B F gt h=>⟨B,F,gt,_,_,_,rfl,rfl,h⟩
 generalize yK=K at *;rw [hty]
 go_enter Tryz.func81,Tryz.ntmps81
 go_wp2_with (first
  | ((go_at_call 100;(with_reducible refine (kn _).mono ?_));rintro e w1 ⟨B,F,gt,rfl,hS,hu1,hf⟩)
  | ((go_at_call 99;(with_reducible refine (km _ _).mono ?_));rintro e w2 ⟨rfl,rfl⟩)
  | fail)
 go_ret2;exact ⟨B.n0,B.blk F gt,rfl,hat _ _ _ _ hS,aa.trans β hu1,fun x hx=>by have:=hf x hx;simp at this;omega⟩
def iV (tr:Nat->BT) (h:Nat) (t:BT):Nat->BT:=fun q=>if q=h then t else tr q
end Go.Proofs.YtklibcncmbofpaaGreat
