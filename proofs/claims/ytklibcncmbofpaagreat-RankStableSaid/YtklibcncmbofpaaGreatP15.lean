/-
  Lemmas for RankSorts: Lf13, Lf14. Conditions: those of each lemma.
-/
import Derived.Test.YtklibcncmbofpaaGreatP09
import Derived.Test.YtklibcncmbofpaaGreatP14
set_option maxHeartbeats 8000000
set_option maxRecDepth 10000
set_option linter.unusedVariables false
set_option linter.unusedSimpArgs false
namespace Go.Proofs.YtklibcncmbofpaaGreat
open Go Go.RowKit
def lL:List Fr→BT→BT→BT
 | [],_,m=>m
 | f::P,old,m=>if f.2.1 then iT P (jg f old.rank) f.1 f.2.2 m else iT P (jg f old.rank) f.1 m f.2.2
theorem nC (f:Fr) (P:List Fr) (old m:BT):lL (f::P) old m=if f.2.1 then iT P (jg f old.rank) f.1 f.2.2 m else iT P (jg f old.rank) f.1 m f.2.2:=rfl
theorem qc:∀ (P:List Fr) (old m:BT),(lL P old m).nodes.Perm (ae P m).nodes
 | [],_,_=>List.Perm.refl _
 | f::P,old,m=>by
  rw [nC]
  show List.Perm _ (ae P (aW f m)).nodes
  unfold aW
  split
  ·exact nR _ _ _ _ _
  ·exact nR _ _ _ _ _
theorem Bp (f:Fr) (P:List Fr) (old m:BT):(lL (f::P) old m).root=(ae (f::P) m).root:=by
 rw [nC]
 show _=(ae P (aW f m)).root
 unfold aW
 split
 ·exact pX _ _ _ _ _
 ·exact pX _ _ _ _ _
theorem Cn {A:NS}:∀ (P:List Fr) (old m:BT),Heap A (ae P m)→Heap A (lL P old m)
 | [],_,_,h=>h
 | f::P,old,m,h=>by
  have h1:Heap A (ae P (aW f m)):=h;rw [nC];unfold aW at h1
  split at h1
  ·rename_i e;rw [if_pos e];exact pU _ _ _ _ _ h1
  ·rename_i e;rw [if_neg e];exact pU _ _ _ _ _ h1
theorem CP:∀ (P:List Fr) (old m:BT),Lean m→zi P old.rank→Lean (lL P old m)
 | [],_,_,h,_=>h
 | f::P,old,m,h,hp=>by
  rw [nC]
  split
  ·exact pR _ _ _ _ _ hp.1 h hp.2.2
  ·exact pR _ _ _ _ _ h hp.1 hp.2.2
noncomputable def Ct (A:NS) (t:BT) (x:Nat):BT×Nat:=
 (lL (pathOf t x).1 (.node x (pathOf t x).2.1 (pathOf t x).2.2) (aF au A (pathOf t x).2.1 (pathOf t x).2.2).1,(aF au A (pathOf t x).2.1 (pathOf t x).2.2).2)
noncomputable def K8 (A':NS) (t:BT) (x:Nat):BT×Nat:=
 match (pathOf t x).1 with
 | []=>(t,0)
 | _::_=>aF au A' (lL (pathOf t x).1 (.node x (pathOf t x).2.1 (pathOf t x).2.2) .nil) (.node x (pathOf t x).2.1 (pathOf t x).2.2)
theorem nH {P:List Fr} {x:Nat} {l r:BT} (hn:(ae P (.node x l r)).nodes.Nodup) :
  (x∉l.nodes∧x∉r.nodes∧x∉bV P)∧(l.nodes++r.nodes).Nodup∧(∀y,y∈l.nodes→y∉bV P)∧(∀y,y∈r.nodes→y∉bV P)∧(bV P).Nodup:=by
 have h:=(aJ P (.node x l r)).nodup_iff.1 hn;rw [List.nodup_append] at h;obtain ⟨h1,h2,h3⟩:=h;simp only [BT.nodes,List.nodup_cons,List.mem_append,not_or] at h1;exact ⟨⟨h1.1.1,h1.1.2,fun hm=>h3 x (by simp [BT.nodes]) x hm rfl⟩,h1.2,fun y hy hm=>h3 y (by simp [BT.nodes,hy]) y hm rfl,fun y hy hm=>h3 y (by simp [BT.nodes,hy]) y hm rfl,h2⟩
theorem Dg {up:Nat→BT→BT→BT} (U:Jj up) {A:NS} {P:List Fr} {x:Nat} {l r:BT} (hn:(ae P (.node x l r)).nodes.Nodup) (hH:Heap A (ae P (.node x l r))) :
  (x::(ae P (aF up A l r).1).nodes).Perm (ae P (.node x l r)).nodes∧Heap A (ae P (aF up A l r).1)∧(aF up A l r).1.nodes.Perm (l.nodes++r.nodes):=by
 obtain ⟨mp,mh⟩:=jJ U A _ l r (Nat.le_refl _);have h1:=nH hn;have hs:=pF hH;have mh':=mh hs.2.2.1 hs.2.2.2 h1.2.1;refine ⟨?_,qi hH mh' (fun y hy=>?_),mp⟩
 ·refine ((((aJ P _).trans (mp.append_right _)).cons x)).trans ?_;exact (aJ P (.node x l r)).symm
 ·have:=mp.mem_iff.1 hy;simp only [BT.nodes,List.mem_cons];exact Or.inr this
section
variable {w:World} {B:LB} {F:List Nat} {gt ct:Nat} {A:NS} {st:Nat} {S:TS} {rk:Nat→Nat} {ah:List Int}
theorem wJ (h:jh w B F gt ct A st S rk ah) {f:Fr} {P:List Fr} {old m:BT} (hT:bG S (-1) (ae (f::P) m).root (ae (f::P) m)) (hm:dV rk m) (hP:Jd rk (f::P) old.rank) (hX:(ae (f::P) m).nodes.Nodup)
  (hlt:∀y,y∈(ae (f::P) m).nodes→y<A.cs.length) :
  Calls Tryz.prog 245 #[.pointer (some ⟨B.n0,0,none⟩),.int .i64 (f.1:Int)] w fun e w'=>e=.returned (.tuple #[])∧aa [B.ba,B.br] w w'∧
   ∃S' rk',jh w' B F gt ct A st S' rk' ah∧qd S rk (lL (f::P) old m) (ae (f::P) m).nodes S' rk':=by
 rw [nC];have hT1:bG S (-1) (ae P (aW f m)).root (ae P (aW f m)):=hT;have hX1:(ae P (aW f m)).nodes.Nodup:=hX;have hlt1:∀y,y∈(ae P (aW f m)).nodes→y<A.cs.length:=hlt
 show Calls _ _ _ _ fun e w'=>e=_∧_∧∃S' rk',_∧qd S rk _ (ae P (aW f m)).nodes S' rk'
 by_cases hs:f.2.1=true
 ·have e1:aW f m=.node f.1 f.2.2 m:=by unfold aW;rw [if_pos hs]
  rw [e1] at hT1 hX1 hlt1 ⊢;rw [if_pos hs];exact yG h ⟨hT1,List.Perm.refl _,hP.1,hm,hP.2.1,hP.2.2,fun y _=>⟨⟨rfl,rfl,rfl⟩,rfl⟩,rfl⟩ hX1 hlt1
 ·have e1:aW f m=.node f.1 m f.2.2:=by unfold aW;rw [if_neg hs]
  rw [e1] at hT1 hX1 hlt1 ⊢;rw [if_neg hs];exact yG h ⟨hT1,List.Perm.refl _,hm,hP.1,hP.2.1,hP.2.2,fun y _=>⟨⟨rfl,rfl,rfl⟩,rfl⟩,rfl⟩ hX1 hlt1
end
theorem Ji (n:Nat):tv (n:Int)=n:=by unfold tv;rw [if_neg ω]
theorem Ab (n:Nat):tb (n:Int)=true:=by unfold tb;simp
section
variable {w:World} {B:LB} {F:List Nat} {gt ct:Nat} {A:NS} {st:Nat} {tr:Nat→BT} {S:TS} {rk:Nat→Nat} {ah:List Int}
def Oa (w':World) (B:LB) (F:List Nat) (gt ct:Nat) (A:NS) (st:Nat) (S:TS) (rk:Nat→Nat) (ah:List Int) (g x:Nat) (P:List Fr) (X:List Nat) (T:BT):Prop:=
 ∃S' rk' tops',jh w' B F gt ct (aL A x) st S' rk' tops'∧bG S' (-1) T.root T∧dV rk' T∧(∀y,y∉X→S.at S' y∧rk' y=rk y)∧(S'.l x=-1∧S'.r x=-1∧S'.u x=-1)∧
  ∀q,q<A.hs.length→tops'.getD q 0=if P=[]∧q=g then T.root else ah.getD q 0
theorem dY {S S' S'':TS} {x:Nat} (h:S.at S' x) (h':S'.at S'' x):S.at S'' x:=⟨h'.1.trans h.1,h'.2.1.trans h.2.1,h'.2.2.trans h.2.2⟩
theorem AU (hM:jh w B F gt ct A st S rk ah) {g x:Nat} {P:List Fr} {l r:BT} (hin:bD A (x:Int)=true) (hg:(A.c x).i=g) (hgt:g<ah.length)
  (hT:bG S (-1) (ae P (.node x l r)).root (ae P (.node x l r))) (hn:(ae P (.node x l r)).nodes.Nodup) (hR:dV rk (ae P (.node x l r))) (hall:∀y,y∈(ae P (.node x l r)).nodes→bD A (y:Int)=true) :
  Calls Tryz.prog 238 #[.pointer (some ⟨B.n0,0,none⟩),.int .i64 (x:Int)] w fun e w'=>e=.returned (.bool true)∧aa (B.blk F gt) w w'∧
   Oa w' B F gt ct A (bC st (aF au A l r).2) S rk ah g x P (ae P (.node x l r)).nodes (lL P (.node x l r) (aF au A l r).1):=by
 have hxl:=((af A x).1 hin).1;have hlt:∀y,y∈(ae P (.node x l r)).nodes→y<A.cs.length:=fun y hy=>((af A y).1 (hall y hy)).1
 have kh:=bZ hM.cells x hin;rw [hg] at kh;have h0:=hM.h0;have HM:=χ hM;have hpp:=nH hn;have hrr:=(vR P (.node x l r)).1 hR;have mp:=(jJ kP A _ l r (Nat.le_refl _)).1;have hblk:=χ hM.lt;have hcF:=χ hM.cF;have hsep:=χ (ψ hM.sep hM.aZ);have HT:=χ (ψ hT (ψ hn (ψ hrr (ψ hall hlt))));have HP:=χ hpp;have hA:=hM.cells.ok.c1;obtain ⟨m,k,hmk⟩:∃m k,aF au A l r=(m,k):=⟨_,_,rfl⟩
 rw [hmk] at mp;rw [hmk];have HMP:=χ mp;have HMK:=χ hmk;have HIN:=χ hin;clear hM hT hn hR hall hlt hpp hrr mp hmk hin hg
 go_enter Tryz.func238,Tryz.ntmps238
 go_wp2_with (first|((go_at_call 140;(with_reducible refine (kh).mono ?_));rintro e w1 ⟨rfl,hC1,hu1⟩;(have g1:=(HM.out.bI hu1 hC1 (fun y hy=>Or.inl hy) rfl rfl).h1)))
 have hM1:=HM.out.bI hu1 hC1 (fun y hy=>Or.inl hy) rfl rfl
 have q1:∀d,(w1.drewN d).cell? ⟨B.n0,1,none⟩=some (.pointer (some ⟨B.bt,0,none⟩)):=fun d=>hM1.h1
 have kl:=fun d=>zB (hM1.trees.drewN d) ((cz _ _).1 HT.out.1).1 hxl
 have kr:=fun d=>rO (hM1.trees.drewN d) ((cz _ _).1 HT.out.1).1 hxl
 have HM1:=χ hM1;clear hM1 hC1 kh h0 g1
 go_quiet ((first
  | (go_at_call 248;exact Calls.quiet_of (kl _))
  | (go_at_call 249;exact Calls.quiet_of (kr _))
  | (go_at_call 247;exact Calls.quiet_of_same (kZ _ _))))
 obtain ⟨w2,hw2⟩:∃w2,w2=w1.drewN nq:=⟨_,rfl⟩
 have u2:aa F w w2:=by rw [hw2];exact hu1.drewN nq
 have hM2:jh w2 B F gt ct A st S rk ah:=by rw [hw2];exact HM1.out.aj ((aa.refl [] w1).drewN nq)
 rw [←hw2];clear hw2 kl kr q1 HM1 hu1;have kc1:=lG hM2.trees (f:=(x,false,r)) (P:=P) (t:=l) HT.out.1 HT.out.2.1 HT.out.2.2.2.2;have g2:=hM2.h1;have HM2:=χ hM2;clear hM2
 go_wp2_with (first
  | ((go_at_call 244;(with_reducible refine (kc1).mono ?_));rintro e w3 ⟨rfl,hu3,S3,hT3,hl3,hp3,hs3⟩;(have g3:=(HM2.out.fM hu3 hT3).h1);clear g2)
  | fail)
 have hM3:=HM2.out.fM hu3 hT3;have hp3':bG S3 (-1) (ae ((x,true,.nil)::P) r).root (ae ((x,true,.nil)::P) r):=hp3;have hn3:(ae ((x,true,.nil)::P) r).nodes.Nodup:=by
  have e:=(aJ P (.node x .nil r));refine e.nodup_iff.2 ?_;obtain ⟨⟨a1,a2,a3⟩,a4,a5,a6,a7⟩:=HP.out;simp only [BT.nodes,List.nil_append,List.nodup_append] at a4 ⊢;refine ⟨List.nodup_cons.2 ⟨a2,a4.2.1⟩,a7,fun y hy z hz e=>?_⟩
  subst e;rcases List.mem_cons.1 hy with e|hy
  ·exact a3 (by rw [←e];exact hz)
  ·exact a6 y hy hz
 have hsub3:∀y,y∈(ae ((x,true,.nil)::P) r).nodes→y∈(ae P (.node x l r)).nodes:=fun y hy=>by
  have h':y∈(ae P (.node x .nil r)).nodes:=hy;rw [aA] at h' ⊢;simp only [BT.nodes,List.nil_append,List.mem_cons,List.mem_append] at h' ⊢;rcases h' with (h'|h')|h'
  ·exact Or.inl (Or.inl h')
  ·exact Or.inl (Or.inr (Or.inr h'))
  ·exact Or.inr h'
 have kc2:=lG hM3.trees (f:=(x,true,.nil)) (P:=P) (t:=r) hp3' hn3 (fun y hy=>HT.out.2.2.2.2 y (hsub3 y hy))
 have hl3':l.nodes.Nodup∧∀y,y∈l.nodes→y∉(ae ((x,true,.nil)::P) r).nodes:=by
  obtain ⟨⟨a1,a2,a3⟩,a4,a5,a6,a7⟩:=HP.out;rw [List.nodup_append] at a4;refine ⟨a4.1,fun y hy hm=>?_⟩
  have h':y∈(ae P (.node x .nil r)).nodes:=hm;rw [aA] at h';simp only [BT.nodes,List.nil_append,List.mem_cons] at h';rcases h' with (h'|h')|h'
  ·exact a1 (by rw [←h'];exact hy)
  ·exact a4.2.2 y hy y h' rfl
  ·exact a5 y hy h'
 have HM3:=χ hM3;have H3:=χ (ψ hl3 (ψ hs3 (ψ hsub3 hl3')));have u3:aa (B.ba::F) w w3:=(u2.mono (by simp;intro x hx;exact Or.inr hx)).trans (hu3.mono σ)
 clear hM3 hT3 hl3 hp3 hp3' hs3 hn3 hsub3 hl3' kc1 hu3 u2
 go_wp2_with (first
  | ((go_at_call 244;(with_reducible refine (kc2).mono ?_));rintro e w4 ⟨rfl,hu4,S4,hT4,hr4,hp4,hs4⟩)
  | fail)
 have hM4:=HM3.out.fM hu4 hT4;have hl4:bG S4 (-1) l.root l:=H3.out.1.frame (fun y hy=>hs4 y (H3.out.2.2.2.2 y hy))
 have km:=qZ hM4 hl4 hr4 HP.out.2.1 (fun y hy=>HT.out.2.2.2.1 y (aA.2 (Or.inl (by simp only [BT.nodes];exact List.mem_cons_of_mem _ hy)))) HT.out.2.2.1.1.2.1 HT.out.2.2.1.1.2.2
 rw [HMK.out] at km;have hp4':bG S4 (-1) (ae P (.node x .nil .nil)).root (ae P (.node x .nil .nil)):=hp4;have u4:aa (B.ba::F) w w4:=u3.trans (hu4.mono σ);have f4:∀y,y∉(ae P (.node x l r)).nodes→S.at S4 y:=fun y hy=>dY (H3.out.2.1 y hy) (hs4 y (fun hm=>hy (H3.out.2.2.1 y hm)))
 have H4:=χ (ψ hp4' f4);clear hM4 hT4 hr4 hp4 hp4' hs4 hl4 kc2 hu4 u3 f4 H3 HM3 HM2 g3
 go_wp2_with (first
  | ((go_at_call 246;(with_reducible refine (km).mono ?_));rintro e w5 ⟨rfl,hu5,S5,rk5,hM5,hT5,hr5,hs5⟩;(have g5:=hM5.h1))
  | fail)
 have hp5:bG S5 (-1) (ae P (.node x .nil .nil)).root (ae P (.node x .nil .nil)):=H4.out.1.frame (fun y hy=>(hs5 y (fun hm=>by
  obtain ⟨⟨a1,a2,a3⟩,a4,a5,a6,a7⟩:=HP.out;rw [aA] at hy;simp only [BT.nodes,List.nil_append,List.mem_cons,List.not_mem_nil,or_false] at hy;rw [List.mem_append] at hm;rcases hy with e|hy
  ·subst e;rcases hm with hm|hm;exact a1 hm;exact a2 hm
  ·rcases hm with hm|hm;exact a5 y hm hy;exact a6 y hm hy)).1)
 have f5:∀y,y∉(ae P (.node x l r)).nodes→S.at S5 y∧rk5 y=rk y:=fun y hy=>by
  have h1:y∉l.nodes++r.nodes:=fun hm=>hy (aA.2 (Or.inl (by simp only [BT.nodes];exact List.mem_cons_of_mem _ hm)))
  exact ⟨dY (H4.out.2 y hy) (hs5 y h1).1,(hs5 y h1).2⟩
 have hR5:Jd rk5 P (BT.node x l r).rank:=HT.out.2.2.1.2.frame (fun y hy=>(hs5 y (fun hm=>by
  rw [List.mem_append] at hm;rcases hm with hm|hm
  ·exact HP.out.2.2.1 y hm hy
  ·exact HP.out.2.2.2.1 y hm hy)).2)
 have u5:aa (B.blk F gt) w w5:=(u4.mono (fun y hy=>by simp only [LB.blk,List.mem_cons] at hy ⊢;rcases hy with h|h<;>simp [h])).trans (hu5.mono (fun y hy=>by
   have:=hcF.out;simp only [List.mem_cons,List.not_mem_nil,or_false] at hy;simp only [LB.blk,List.mem_cons];rcases hy with rfl|rfl|rfl
   ·simp [this]
   ·simp
   ·simp))
 have ku:=FQ hM5.trees hp5 hxl;have HM5:=χ hM5;have H5:=χ (ψ hp5 (ψ f5 (ψ hR5 (ψ hT5 hr5))));clear hM5 hT5 hr5 hs5 km u4 H4 hp5 f5 hR5 hu5;have hmm:∀y,y∈m.nodes→y∉bV P∧y≠x:=fun y hy=>by
  obtain ⟨⟨a1,a2,a3⟩,a4,a5,a6,a7⟩:=HP.out;have h1:=HMP.out.mem_iff.1 hy;rw [List.mem_append] at h1;rcases h1 with h1|h1
  ·exact ⟨a5 y h1,fun e=>a1 (by rw [←e];exact h1)⟩
  ·exact ⟨a6 y h1,fun e=>a2 (by rw [←e];exact h1)⟩
 have hmx:∀y,y∈m.nodes→y∈(ae P (.node x l r)).nodes:=fun y hy=>aA.2 (Or.inl (by
  have h1:=HMP.out.mem_iff.1 hy
  simp only [BT.nodes,List.mem_cons];exact Or.inr h1))
 have hmn:m.nodes.Nodup:=HMP.out.nodup_iff.2 HP.out.2.1;have HMM:=χ (ψ hmm (ψ hmx hmn));clear hmm hmx hmn;have sp:=hsep.out;have s1:B.n0≠gt:=sp.1.1.2.2.2;clear sp;cases P with
 | nil=>
  rw [show zG ([]:List Fr)=-1 from rfl,show tv (-1)=0 from rfl,show tb (-1)=false from rfl] at ku
  go_wp2_with (first
   | ((go_at_call 250;(with_reducible refine (ku).mono ?_));rintro e w6 ⟨rfl,kk,hw6⟩;(have u6:aa [] w5 w6:=by (rw [hw6];exact (aa.refl _ _).drewN kk));clear hw6;(have g60:=(HM5.out.aj u6).h0);(have g63:=(HM5.out.aj u6).h3);(have d6:=(HM5.out.aj u6).ic.cell g hgt);(have f6:=(HM5.out.aj u6).ic.free g);(have kd:=fw ((HM5.out.aj u6).nT g m.root).cells x HIN.out))
   | ((go_at_call 151;(with_reducible refine (kd).mono ?_));rintro e w7 ⟨rfl,hC7,hu7⟩)
   | fail)
  go_ret;obtain ⟨b1,b2,b3,b4,b5⟩:=H5.out;have bx:=((cz _ _).1 b1).1;refine ⟨rfl,((u5.trans (u6.mono σ)).setCell (Or.inl (by simp [LB.blk])) _).trans (hu7.mono (fun y hy=>by simp only [LB.blk,List.mem_cons];simp [hy])),S5,rk5,ah.set g m.root,((HM5.out.aj u6).nT g m.root).bI hu7 hC7 (fun y hy=>Or.inl hy) (dw _ _) (by rw [fA]),b4,b5,b2,⟨bx.2.2.1.root,bx.2.2.2.root,bx.2.1⟩,fun q hq=>?_⟩
  by_cases e:q=g
  ·rw [if_pos ⟨rfl,e⟩,e,φ,List.getElem?_set,if_pos rfl,if_pos hgt];rfl
  ·rw [if_neg (fun h=>e h.2),φ,List.getElem?_set,if_neg (fun h=>e h.symm),←φ]
 | cons f P2=>
  rw [show zG (f::P2)=(f.1:Int) from rfl,Ji,Ab] at ku
  have hfl:f.1<A.cs.length:=HT.out.2.2.2.2 f.1 (aA.2 (Or.inr (by simp [bV])))
  have hn5:(ae (f::P2) (.node x .nil .nil)).nodes.Nodup:=by
   refine (aJ (f::P2) (.node x .nil .nil)).nodup_iff.2 ?_;obtain ⟨⟨a1,a2,a3⟩,a4,a5,a6,a7⟩:=HP.out;simp only [BT.nodes,List.nil_append,List.singleton_append,List.nodup_cons];exact ⟨a3,a7⟩
  have hlt5:∀y,y∈(ae (f::P2) (.node x .nil .nil)).nodes→y∈(ae (f::P2) (.node x l r)).nodes:=fun y hy=>by
   rw [aA] at hy ⊢;simp only [BT.nodes,List.nil_append,List.mem_cons,List.not_mem_nil,or_false] at hy;rcases hy with hy|hy
   ·exact Or.inl (by simp [BT.nodes,hy])
   ·exact Or.inr hy
  have ksd:∀W,aa [] w5 W→∃z:Int,(z == (x:Int))=f.2.1∧Calls Tryz.prog 249 #[.pointer (some ⟨B.bt,0,none⟩),.int .i64 (f.1:Int)] W fun e w'=>e=.returned (.tuple #[.int .i64 (tv z),.bool (tb z)])∧∃k,w'=W.drewN k:=fun W hW=>zx (HM5.out.aj hW).trees H5.out.1 hn5 hfl
  have kcw:=fun W (hW:aa [] w5 W)=>lG (HM5.out.aj hW).trees (f:=f) (P:=P2) (t:=.node x .nil .nil) H5.out.1 hn5 (fun y hy=>HT.out.2.2.2.2 y (hlt5 y hy))
  rw [show BT.root (.node x .nil .nil)=(x:Int) from rfl] at kcw
  generalize hcv:cutV f (.node x .nil .nil)=cv at kcw;generalize hcb:tb (x:Int)=cb at kcw;have HN5:=χ (ψ hn5 hlt5);clear hn5 hlt5 hcv hcb
  by_cases hmz:m=.nil
  ·have hmb:(m.root != -1)=false:=by rw [hmz];rfl
   have HMZ:=χ hmz;clear hmz
   go_wp2_with (first
    | ((go_at_call 250;(with_reducible refine (ku).mono ?_));rintro e w6 ⟨rfl,kk,hw6⟩;(have u6:aa [] w5 w6:=by (rw [hw6];exact (aa.refl _ _).drewN kk));clear hw6;(have g61:=(HM5.out.aj u6).h1);obtain ⟨z,hz,kr⟩:=ksd w6 u6)
    | ((go_at_call 249;(with_reducible refine (kr).mono ?_));rintro e w7 ⟨rfl,kk7,hw7⟩;(have u7:aa [] w5 w7:=by (rw [hw7];exact u6.drewN kk7));clear hw7;(have g71:=(HM5.out.aj u7).h1);(have kc:=kcw w7 u7))
    | (go_at_call 247;(with_reducible refine (kZ _ _).mono ?_);rintro e w9 ⟨rfl,hw9⟩;rw [hw9];clear hw9 w9)
    | ((go_at_call 244;(with_reducible refine (kc).mono ?_));rintro e w8 ⟨rfl,hu8,S8,hT8,hx8,hp8,hs8⟩;(have kmd:=wJ ((HM5.out.aj u7).fM hu8 hT8) (old:=.node x l r) hp8 (by trivial) H5.out.2.2.1 (by first|(refine (aJ (f::P2) .nil).nodup_iff.2 ?_;simpa [BT.nodes] using HP.out.2.2.2.2)) (by intro y hy;rw [aA] at hy;exact HT.out.2.2.2.2 y (aA.2 (Or.inr (by simpa [BT.nodes] using hy))))))
    | ((go_at_call 245;(with_reducible refine (kmd).mono ?_));rintro e w9 ⟨rfl,hu9,S9,rk9,hM9,hE9⟩;(have g90:=hM9.h0);(have kd:=fw hM9.cells x HIN.out))
    | ((go_at_call 151;(with_reducible refine (kd).mono ?_));rintro e w10 ⟨rfl,hC10,hu10⟩)
    | fail)
   go_ret;have hz:=HMZ.out;subst hz;refine ⟨rfl,((((u5.trans (u7.mono σ)).trans (hu8.mono (by simp [LB.blk]))).trans (hu9.mono (by simp [LB.blk]))).trans (hu10.mono (fun y hy=>by simp only [LB.blk,List.mem_cons];simp [hy]))),S9,rk9,ah,hM9.bI hu10 hC10 (fun y hy=>Or.inl hy) (dw _ _) (by rw [fA]),hE9.Aw,hE9.P5,fun y hy=>?_,?_,fun q hq=>by rw [if_neg σ]⟩
   ·have a1:=H5.out.2.1 y hy;have a2:=hs8 y (fun hm=>hy (HN5.out.2 y hm))
    have a3:=hE9.far y (fun hm=>hy (aA.2 (Or.inr (by rw [aA] at hm;simpa [BT.nodes] using hm))))
    exact ⟨dY (dY a1.1 a2) a3.1,a3.2.trans a1.2⟩
   ·have a3:=(hE9.far x (fun hm=>HP.out.1.2.2 (by rw [aA] at hm;simpa [BT.nodes] using hm))).1
    have a4:=hx8;exact ⟨a3.1.trans a4.2.2.1.root,a3.2.1.trans a4.2.2.2.root,a3.2.2.trans a4.2.1⟩
  ·have hmb:(m.root != -1)=true:=by
    have:=(bg hmz).2;simp;omega
   have HMZ:=χ hmz;have hxm:∀y,y∈m.nodes→y∉(ae (f::P2) (.node x .nil .nil)).nodes:=fun y hy hm=>by
    have b1:=HMM.out.1 y hy;rw [aA] at hm;simp only [BT.nodes,List.nil_append,List.mem_cons,List.not_mem_nil,or_false] at hm;rcases hm with hm|hm
    ·exact b1.2 hm
    ·exact b1.1 hm
   have hnd:(m.nodes++bV (f::P2)).Nodup:=by
    rw [List.nodup_append];exact ⟨HMM.out.2.2,HP.out.2.2.2.2,fun a ha b hb e=>(HMM.out.1 a ha).1 (by rw [e];exact hb)⟩
   have hsm:∀y,y∈m.nodes++bV (f::P2)→y∈(ae (f::P2) (.node x l r)).nodes:=fun y hy=>by
    rw [List.mem_append] at hy;rcases hy with hy|hy
    ·exact HMM.out.2.1 y hy
    ·exact aA.2 (Or.inr hy)
   have HXM:=χ (ψ hxm (ψ hnd hsm));clear hmz hxm hnd hsm
   go_wp2_with (first
    | ((go_at_call 250;(with_reducible refine (ku).mono ?_));rintro e w6 ⟨rfl,kk,hw6⟩;(have u6:aa [] w5 w6:=by (rw [hw6];exact (aa.refl _ _).drewN kk));clear hw6;(have g61:=(HM5.out.aj u6).h1);obtain ⟨z,hz,kr⟩:=ksd w6 u6)
    | ((go_at_call 249;(with_reducible refine (kr).mono ?_));rintro e w7 ⟨rfl,kk7,hw7⟩;(have u7:aa [] w5 w7:=by (rw [hw7];exact u6.drewN kk7));clear hw7;(have g71:=(HM5.out.aj u7).h1);(have kc:=kcw w7 u7))
    | (go_at_call 247;(with_reducible refine (kZ _ _).mono ?_);rintro e w9 ⟨rfl,hw9⟩;rw [hw9];clear hw9 w9)
    | ((go_at_call 244;(with_reducible refine (kc).mono ?_));rintro e w8 ⟨rfl,hu8,S8,hT8,hx8,hp8,hs8⟩;(have g81:=((HM5.out.aj u7).fM hu8 hT8).h1);(have khg:=zu hT8 hp8 (H5.out.2.2.2.1.frame (fun y hy=>hs8 y (HXM.out.1 y hy))) HMZ.out HXM.out.2.1 (fun y hy=>HT.out.2.2.2.2 y (HXM.out.2.2 y hy))))
    | ((go_at_call 251;(with_reducible refine (khg).mono ?_));rintro e w8b ⟨rfl,hu8b,S8b,hT8b,hp8b,hs8b⟩;(have kmd:=wJ (((HM5.out.aj u7).fM hu8 hT8).fM hu8b hT8b) (old:=.node x l r) hp8b H5.out.2.2.2.2 H5.out.2.2.1 ((aJ (f::P2) m).nodup_iff.2 HXM.out.2.1) (fun y hy=>HT.out.2.2.2.2 y (HXM.out.2.2 y ((aJ (f::P2) m).mem_iff.1 hy)))))
    | ((go_at_call 245;(with_reducible refine (kmd).mono ?_));rintro e w9 ⟨rfl,hu9,S9,rk9,hM9,hE9⟩;(have g90:=hM9.h0);(have kd:=fw hM9.cells x HIN.out))
    | ((go_at_call 151;(with_reducible refine (kd).mono ?_));rintro e w10 ⟨rfl,hC10,hu10⟩)
    | fail)
   go_ret;refine ⟨rfl,(((((u5.trans (u7.mono σ)).trans (hu8.mono (by simp [LB.blk]))).trans (hu8b.mono (by simp [LB.blk]))).trans (hu9.mono (by simp [LB.blk]))).trans (hu10.mono (fun y hy=>by simp only [LB.blk,List.mem_cons];simp [hy]))),S9,rk9,ah,hM9.bI hu10 hC10 (fun y hy=>Or.inl hy) (dw _ _) (by rw [fA]),hE9.Aw,hE9.P5,fun y hy=>?_,?_,fun q hq=>by rw [if_neg σ]⟩
   ·have a1:=H5.out.2.1 y hy;have a2:=hs8 y (fun hm=>hy (HN5.out.2 y hm))
    have a2b:=hs8b y (fun hm=>hy (HXM.out.2.2 y hm))
    have a3:=hE9.far y (fun hm=>hy (HXM.out.2.2 y ((aJ (f::P2) m).mem_iff.1 hm)))
    exact ⟨dY (dY (dY a1.1 a2) a2b) a3.1,a3.2.trans a1.2⟩
   ·have hxn:x∉m.nodes++bV (f::P2):=fun hm=>by
     rw [List.mem_append] at hm;rcases hm with hm|hm
     ·exact (HMM.out.1 x hm).2 rfl
     ·exact HP.out.1.2.2 hm
    have a3:=dY (hs8b x hxn) (hE9.far x (fun hm=>hxn ((aJ (f::P2) m).mem_iff.1 hm))).1
    have a4:=hx8;exact ⟨a3.1.trans a4.2.2.1.root,a3.2.1.trans a4.2.2.2.root,a3.2.2.trans a4.2.1⟩
theorem BR (h:jO w B F gt ct A st tr) (g x:Nat) (hx:x∈(tr g).nodes) :
  Calls Tryz.prog 238 #[.pointer (some ⟨B.n0,0,none⟩),.int .i64 (x:Int)] w fun e w'=>e=.returned (.bool true)∧aa (B.blk F gt) w w'∧
   jO w' B F gt ct (aL A x) (bC st (Ct A (tr g) x).2) (fun q=>if q=g then (Ct A (tr g) x).1 else tr q):=by
 obtain ⟨S,rk,ah,hM,hI,hL,hR⟩:=h;have hm:=(hI.mem g x).1 hx;have hin:bD A (x:Int)=true:=(af A x).2 ⟨hm.2.1,ω⟩;have e:=kK hx;unfold Ct;generalize (pathOf (tr g) x).1=P at *
 generalize (pathOf (tr g) x).2.1=l at *
 generalize (pathOf (tr g) x).2.2=r at *
 have hgt:g<ah.length:=by rw [hM.gP];have:=(hM.cells.ok.nat x hm.2.1);omega
 have hgh:g<A.hs.length:=by rw [←hM.gP];exact hgt
 have hT:=hI.Aw g;have hn:=hI.nd g;have hH:=hI.heap g;have hRg:=hR g;have hLg:=hL g;rw [e] at hT hn hH hRg hLg;obtain ⟨d1,d2,d3⟩:=Dg kP hn hH;obtain ⟨l1,l2⟩:=(qJ _ _).1 hLg;have ml:=rA A _ l r (Nat.le_refl _) l1.2.1 l1.2.2;refine (AU hM hin hm.2.2 hgt hT hn hRg (fun y hy=>?_)).mono ?_
 ·rw [←e] at hy;have:=(hI.mem g y).1 hy;exact (af A y).2 ⟨this.2.1,ω⟩
 ·rintro e' w' ⟨rfl,hu,S',rk',tops',q1,q2,q3,q4,q5,q6⟩;refine ⟨rfl,hu,S',rk',tops',q1,hI.del hx q2 ?_ (Cn _ _ _ d2) (fun y hy=>(q4 y (by rw [←e];exact hy)).1) q5 (fun q hq=>?_),fun q=>?_,fun q=>?_⟩
  ·rw [e];exact ((qc _ _ _).cons x).trans d1
  ·rw [q6 q hq]
   by_cases hq':q=g
   ·rw [if_pos hq']
    by_cases hp:P=[]
    ·rw [if_pos ⟨hp,hq'⟩]
    ·rw [if_neg (fun h=>hp h.1),hq',hI.top g hgh,e]
     cases P with
     | nil=>exact absurd rfl hp
     | cons f P2=>rw [Bp];exact iO _ _ _ _
   ·rw [if_neg hq',if_neg (fun h=>hq' h.2)]
  ·show Lean (if q=g then _ else _)
   split
   ·exact CP _ _ _ ml l2
   ·exact hL q
  ·show dV rk' (if q=g then _ else _)
   split
   ·exact q3
   ·rename_i hq
    refine (hR q).frame (fun y hy=>(q4 y (fun hm'=>?_)).2)
    rw [←e] at hm';have c1:=(hI.mem g y).1 hm';have c2:=(hI.mem q y).1 hy;omega
end
end Go.Proofs.YtklibcncmbofpaaGreat
