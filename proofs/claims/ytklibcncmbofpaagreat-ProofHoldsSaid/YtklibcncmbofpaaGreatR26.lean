/-
  Lemmas for ProofHolds: Lf7, Lf8, Lf9, Bt5, Lf13, Lf14, Lf15, Lf16, LfQ. Conditions: those of each lemma.
-/
import Derived.Test.YtklibcncmbofpaaGreatR05
import Derived.Test.YtklibcncmbofpaaGreatR07
import Derived.Test.YtklibcncmbofpaaGreatR25
set_option linter.all false
set_option maxHeartbeats 8000000
set_option maxRecDepth 10000
namespace Go.Proofs.YtklibcncmbofpaaGreat
open Go Go.RowKit
theorem SY(n j:Nat)(hj:j<n):(madeCells #[Value.int .i64 0] (n*1)).toList.getD j undef=.int .i64 0:=by
 rw[φ,ε (by simp[madeCells];omega)];simp[madeCells,Nat.mod_one]
theorem Qe(n:Nat)(w:World)(h:n<=65536) :
  Calls Tryz.prog 100 #[.int .i64 (n:Int)] w fun e w'=>∃B F gt,e=.returned (.tuple #[.pointer (some ⟨B.n0,0,none⟩),.int .i64 0])/\mK w' B F gt 1 (NS.new n) 0 (fun _=>.nil)/\aa [] w w'/\∀x,x∈B.blk F gt->w.heap.size<=x:=by
 go_enter Tryz.func100,Tryz.ntmps100
 go_wp2_with (first
  | ((go_at_call 107;(with_reducible refine(oo n _ h).mono ?_));rintro e w1 ⟨c,F,rfl,hC,hu1,hF⟩)
  | ((go_at_call 112;(with_reducible refine(wQ n _ h).mono ?_));rintro e w2 ⟨bt,ba,rfl,hT,hu2,hb1,hb2⟩)
  | (at_make;refine wpList_make_row rfl _ 26 rfl 3 (.int .i64 0) 1 8 Tryz.underlying26 fF n rfl ω μ ?_;intro w3 hr3 hu3))
 go_ret2;have hcs:(NS.new n).cs.length=n:=by simp[NS.new]
 have l1:=hu1.size;have l2:=hu2.size;have l3:=hu3.size;have l4:=hr3.lt;have l5:=hT.head.lt;have l6:=hT.row.lt;have l7:=hC.lt;have lc:=l7 c hC.mem;have e3:((w3.alloc (.cells #[.int .i64 (-1)] 3)).heap.size)=w3.heap.size+1:=by rw[World.size_alloc]
 have hv:aa [] w3 (w3.alloc (.cells #[.int .i64 (-1)] 3)):=(aa.refl _ _).alloc _;have hw:aa [] w3 ((w3.alloc (.cells #[.int .i64 (-1)] 3)).alloc (.cells #[.pointer (some ⟨c,0,none⟩),.pointer (some ⟨bt,0,none⟩),.slice (some ⟨w2.heap.size,0,none⟩) n n,.slice (some ⟨w3.heap.size,0,none⟩) 1 1] 231)):=hv.alloc _;have hh:=dP (w3.alloc (.cells #[.int .i64 (-1)] 3)) [.pointer (some ⟨c,0,none⟩),.pointer (some ⟨bt,0,none⟩),.slice (some ⟨w2.heap.size,0,none⟩) n n,.slice (some ⟨w3.heap.size,0,none⟩) 1 1] 231;rw[e3]at hh
 have hi:IZ (w3.alloc (.cells #[.int .i64 (-1)] 3)) w3.heap.size 1 [-1]:=IZ.lit w3 [-1] σ;have hF':∀x,x∈F->x<w1.heap.size:=l7;have hnF:∀x,w1.heap.size<=x->x∉F:=fun x hx hm=>by have:=hF' x hm;omega
 refine⟨⟨w3.heap.size+1,c,bt,ba,w2.heap.size⟩,F,w3.heap.size,rfl,⟨TS.none,fun _=>0,[-1],⟨by rw[hcs];exact hh,((hC.au hu2).au hu3).au hw,by rw[hcs];exact(hT.upd hu3 σ σ).upd hw σ σ,?_,hi.upd ((aa.refl [] _).alloc _) σ,rfl,⟨hnF _ (by first|omega|(simp only;omega)),hnF _ (by first|omega|(simp only;omega)),hnF _ (by first|omega|(simp only;omega)),hnF _ (by first|omega|(simp only;omega)),hnF _ (by first|omega|(simp only;omega))⟩,⟨⟨by simp only;omega,by simp only;omega,by simp only;omega,by simp only;omega⟩,by simp only;omega,by simp only;omega,by simp only;omega,by simp only;omega,by simp only;omega⟩⟩,ED n,fun _=>trivial,fun _=>trivial⟩,((hu1.trans hu2).trans hu3).trans hw,fun x hx=>?_⟩
 ·rw[hcs];have:=hr3.upd hw σ;rw[Nat.mul_one]at this;refine this.ext (fun j hj=>?_);have hz:(Value.int .i64 0).cells=#[.int .i64 0]:=rfl;have e:=SY n j hj;rw[Nat.mul_one]at e;rw[hz,e];rfl
 ·simp only[LB.blk,ρ]at hx;rcases hx with rfl|rfl|rfl|rfl|rfl|hx
  ·omega
  ·omega
  ·omega
  ·omega
  ·omega
  ·exact hF x hx
section
variable {w:World}{B:LB}{F:List Nat}{gt ct:Nat}{A:NS}{st:Nat}{tr:Nat->BT}
theorem Tn(h:mK w B F gt ct A st tr)(hl:65536<A.hs.length) :
  Calls Tryz.prog 241 #[.pointer (some ⟨B.n0,0,none⟩)] w fun e w'=>e=.returned (.int .i64 0)/\Goes (B.blk F gt) w w' (fun F'=>∃F1,F'=B.blk F1 gt/\mK w' B F1 gt ct A st tr):=by
 obtain⟨S,rk,aj,hM,hI⟩:=h;have k:=iR hM.cells;have e1:dm A=0:=by unfold dm;rw[if_pos hl]
 have e2:aR A=A:=by unfold aR;rw[if_pos hl]
 rw[e1,e2]at k;have h0:=hM.h0;have HM:=χ hM;have HI:=χ hI;clear hM hI e1 e2
 go_enter Tryz.func241,Tryz.ntmps241
 go_wp2_with (first|((go_at_call 156;(with_reducible refine(k).mono ?_));rintro e w1 ⟨rfl,F1,hC,hu,hF⟩))
 go_ret
 exact⟨rfl,B.blk F1 gt,⟨F1,rfl,S,rk,aj,HM.out.cB hu hC hF rfl rfl,HI.out⟩,hu.mono (fun y hy=>by simp[LB.blk,hy]),fun x hx=>by
  simp only[LB.blk,ρ]at hx⊢;rcases hx with rfl|rfl|rfl|rfl|rfl|hx
  ·simp
  ·simp
  ·simp
  ·simp
  ·simp
  ·rcases hF x hx with h|h
   ·simp[h]
   ·exact Or.inr h⟩
theorem PI(h:mK w B F gt ct A st tr)(hl:¬65536<A.hs.length) :
  Calls Tryz.prog 241 #[.pointer (some ⟨B.n0,0,none⟩)] w fun e w'=>e=.returned (.int .i64 (A.hs.length:Int))/\Goes (B.blk F gt) w w' (fun F'=>∃F1 pI Hu,F'=B.blk F1 pI/\mK w' B F1 pI Hu (aR A) st tr):=by
 obtain⟨S,rk,aj,hM,hI,hL,hR⟩:=h;have k:=iR hM.cells;have e1:dm A=A.hs.length:=by unfold dm;rw[if_neg hl]
 rw[e1]at k;have hcs:(aR A).cs.length=A.cs.length:=by unfold aR;rw[if_neg hl]
 have lT:(aR A).hs.length=A.hs.length+1:=by unfold aR;rw[if_neg hl];simp
 have hI2:=hI.make hM.cells.ok hM.jw hl;have h0:=hM.h0;have hh0:=hM.cells.ok.h0;have HTN:=χ hM.jw;have htb:aj.length<=65536:=by rw[hM.jw];omega
 have HM:=χ hM;have HI:=χ (ψ hI2 (ψ hL hR));clear hM hI hL hR e1 hI2
 go_enter Tryz.func241,Tryz.ntmps241
 go_wp2_with (first
  | ((go_at_call 156;(with_reducible refine(k).mono ?_));rintro e w1 ⟨rfl,F1,hC,hu,hF⟩;(have d3:=hu.kept HM.out.h3 HM.out.bG.1);(have f3:=hu.aS HM.out.h3 HM.out.bG.1 (HM.out.head.free 3));(have ho1:=(HM.out.jH.upd hu HM.out.bG.2.2.2.2).own);(have g0:B.n0≠gt:=HM.out.sep.1.2.2.2);(have gl:=(HM.out.jH.upd hu HM.out.bG.2.2.2.2).lt))
  | ((at_builtin;refine aX rfl _ _ 26 rfl 0 3 (.int .i64 0) 1 8 Tryz.underlying26 fF rfl δ _ _ _ rfl (ho1) [.int .i64 (-1)] rfl (by simp[Value.oneCell']) (by first|rfl|(rw[World.size_alloc];rfl)) μ ω (ω) ?_;intro v2 w2 ho2 hu2 mQ);(have hu2:aa [gt] w1 w2:=hu2);obtain⟨pI,Hu,ev,hI2, -⟩:=IZ.iY (l:=aj++[-1]) (by rw[bM,υ];exact ho2) σ;rw[υ,List.length_singleton]at ev;subst ev;(have d4:=hu2.kept d3 ζ);(have f4:=hu2.aS d3 ζ f3)))
 go_ret;have hM:=HM.out;have hlt:=hM.lt;have f:=hM.bG;have q:=hM.sep;have hw3:aa [B.n0] w2 (w2.setCell ⟨B.n0,3,none⟩ (.slice (some ⟨pI,0,none⟩) (aj.length+1) Hu)):=β;have hg1:pI=gt\/w1.heap.size<pI:=by
  rcases mQ with h|h
  ·exact Or.inl (Option.some.inj h)
  ·exact Or.inr (h pI rfl)
 have hws:=hu.size;have jr:=hC.lt;have l0:=hlt B.n0 (by simp[LB.blk]);have l1:=hlt B.bt (by simp[LB.blk]);have l2:=hlt B.ba (by simp[LB.blk]);have l3:=hlt B.br (by simp[LB.blk]);have l4:=hlt gt (by simp[LB.blk]);have hnF:∀y,y<w.heap.size->y∉F->y∉F1:=fun y hy hn hm=>by rcases hF y hm with h'|h';exact hn h';omega
 have Fs:pI∉F1:=by
  rcases hg1 with e|e
  ·rw[e];exact hnF gt l4 f.2.2.2.2
  ·exact fun hm=>by have:=jr pI hm;omega
 have hb:w.heap.size<=pI\/pI=gt:=ω;have hhd:=((hM.head.upd hu f.1).upd hu2 ζ).set 3 (.slice (some ⟨pI,0,none⟩) (aj.length+1) Hu);refine⟨rfl,B.blk F1 pI,⟨F1,pI,Hu,rfl,S,rk,aj++[-1],⟨?_,?_,?_,?_,hI2.upd hw3 ζ,?_,⟨hnF _ l0 f.1,hnF _ l1 f.2.1,hnF _ l2 f.2.2.1,hnF _ l3 f.2.2.2.1,Fs⟩,⟨⟨q.1.1,q.1.2.1,q.1.2.2.1,ω⟩,q.2.1,ω,q.2.2.2.1,ω,ω⟩⟩,HI.out⟩,?_,fun y hy=>?_⟩
 ·rw[hcs,υ,List.length_singleton];refine hhd.ext (fun j hj=>?_);rcases(ω:j=0\/j=1\/j=2\/j=3)with rfl|rfl|rfl|rfl<;>rfl
 ·exact(hC.upd hu2 (fun y hy=>by simp at hy;rw[hy];exact hnF gt l4 f.2.2.2.2)).upd hw3 (fun y hy=>by simp at hy;rw[hy];exact hnF _ l0 f.1)
 ·rw[hcs];exact((hM.trees.upd hu f.2.1 f.2.2.1).upd hu2 ζ ζ).upd hw3 ζ ζ
 ·rw[hcs];exact((hM.ranks.upd hu f.2.2.2.1).upd hu2 ζ).upd hw3 ζ
 ·rw[υ,List.length_singleton,lT,HTN.out]
 ·have u1:aa (B.blk F gt) w w1:=hu.mono (fun y hy=>by simp[LB.blk,hy]);exact(u1.trans (hu2.mono (fun y hy=>by simp at hy;simp[LB.blk,hy]))).trans (hw3.mono (fun y hy=>by simp at hy;simp[LB.blk,hy]))
 ·simp only[LB.blk,ρ]at hy⊢;rcases hy with rfl|rfl|rfl|rfl|rfl|hy
  ·simp
  ·simp
  ·simp
  ·simp
  ·rcases hb with h|h
   ·exact Or.inr h
   ·exact Or.inl (by simp[h])
  ·rcases hF y hy with h|h
   ·simp[h]
   ·exact Or.inr h
end
theorem xA.first{A:NS}{S:TS}{aj:List Int}{tr:Nat->BT}(h:TrI A S aj tr){g:Nat}(hg:0<dO A g):∃m:Nat,(tr g).root=m/\dL A g=some m:=by
 obtain⟨x,hx,hi,h0⟩:=fH.1 hg;have hxm:x∈(tr g).nodes:=(h.mem g x).2 ⟨ω,hx,hi⟩;cases ht:tr g with
 | nil=>rw[ht]at hxm;cases hxm
 | node m l r=>
  have hm:=(h.mem g m).1 (by rw[ht];simp[BT.nodes]);have hH:=h.heap g;rw[ht]at hH;refine⟨m,rfl,(iT h0).2 ⟨hm.2.1,hm.2.2,fun y hy hyi=>?_⟩⟩;have hym:=(h.mem g y).2 ⟨ω,hy,hyi⟩;rw[ht]at hym;simp only[BT.nodes,ρ,τ]at hym;rcases hym with e|e|e
  ·exact Or.inl e
  ·exact Or.inr (hH.1 y e)
  ·exact Or.inr (hH.2.1 y e)
section
variable {w:World}{B:LB}{F:List Nat}{gt ct:Nat}{A:NS}{st:Nat}{tr:Nat->BT}
theorem Nt(h:mK w B F gt ct A st tr)(x:Int)(hx:-9223372036854775808<=x/\x<=9223372036854775807)(hn:dO A x=0) :
  Calls Tryz.prog 243 #[.pointer (some ⟨B.n0,0,none⟩),.int .i64 x] w fun e w'=>e=.returned (.tuple #[.int .i64 0,.bool false])/\w'=w:=by
 obtain⟨S,rk,aj,hM, -, -, -⟩:=h;have k:=pV hM.cells x hx;rw[hn]at k;have h0:=hM.h0;clear hM hn
 go_enter Tryz.func243,Tryz.ntmps243
 go_wp2_with (first|(go_at_call 142;(with_reducible refine(k).mono ?_);rintro e w9 ⟨rfl,aJ⟩;rw[aJ];clear aJ w9))
 go_ret2;exact⟨rfl,rfl⟩
theorem Co(h:mK w B F gt ct A st tr)(g:Nat)(hn:0<dO A g) :
  Calls Tryz.prog 243 #[.pointer (some ⟨B.n0,0,none⟩),.int .i64 (g:Int)] w fun e w'=>∃m:Nat,dL A g=some m/\(tr g).root=m/\e=.returned (.tuple #[.int .i64 (m:Int),.bool true])/\w'=w:=by
 obtain⟨S,rk,aj,hM,hI, -, -⟩:=h;obtain⟨m,hm,hf⟩:=hI.first hn;obtain⟨x,hx,hi,h0⟩:=fH.1 hn;have ok:=hM.cells.ok;have hgl:g<A.hs.length:=by have:=(ok.nat x hx).2;omega
 have XZ:=ok.h1;have k:=pV hM.cells (g:Int) ω;have hh0:=hM.h0;have h3:=hM.h3;have d:=hM.jH.cell g (by rw[hM.jw];exact hgl);rw[hI.top g hgl,hm]at d;have htl:g<aj.length:=by rw[hM.jw];exact hgl
 generalize hl:dO A (g:Int)=n at *;have hb:((n:Int) == 0)=false:=ζ;have HF:=χ (ψ hf hm);clear hM hI hm hf hx hi h0 ok hl
 go_enter Tryz.func243,Tryz.ntmps243
 go_wp2_with (first|(go_at_call 142;(with_reducible refine(k).mono ?_);rintro e w9 ⟨rfl,aJ⟩;rw[aJ];clear aJ w9))
 go_ret2;exact⟨m,HF.out.1,HF.out.2,rfl,rfl⟩
end
theorem aG{P:List Fr}{t:BT}{y:Nat}:y∈(ai P t).nodes↔y∈t.nodes\/y∈dJ P:=by
 rw[(aP P t).mem_iff,τ]
def cutV(f:Fr)(t:BT):Int:=if t.root=-1 then 0 else (f.1:Int)
section
variable {w:World}{bt ba n:Nat}{S:TS}
theorem oq(h:bA w bt ba n S){f:Fr}{P:List Fr}{t:BT}(hT:bY S (-1) (ai (f::P) t).root (ai (f::P) t))(hn:(ai (f::P) t).nodes.Nodup)(hlt:∀y,y∈(ai (f::P) t).nodes->y<n) :
  Calls Tryz.prog 244 #[.pointer (some ⟨bt,0,none⟩),.int .i64 t.root] w fun e w'=>e=.returned (.tuple #[.int .i64 (cutV f t),.bool (tb t.root)])/\aa [ba] w w'/\
   ∃S',bA w' bt ba n S'/\bY S' (-1) t.root t/\bY S' (-1) (ai (f::P) .nil).root (ai (f::P) .nil)/\∀y,y∉(ai (f::P) t).nodes->S.at S' y:=by
 by_cases ht:t=.nil
 ·subst ht;refine(D9 bt ba n S (-1) w h (by unfold pE;simp)).mono ?_;rintro e w' ⟨rfl,rfl⟩;exact⟨by simp[cutV,BT.root,tb],aa.refl _ _,S,h,rfl,hT,fun y _=>⟨rfl,rfl,rfl⟩⟩
 ·obtain⟨c1,c2,c3⟩:=TG hT ht hn;obtain⟨m1,m2⟩:=bL ht;have hp:=(dZ _ _).1 hT;have hu:S.u t.root.toNat=(f.1:Int):=by
   cases t with
   | nil=>exact absurd rfl ht
   | node y a b=>exact hp.1.2.1
  have hf:f.1<n:=hlt _ (aG.2 (Or.inr (by simp[dJ])));have hr:t.root.toNat<n:=hlt _ (aG.2 (Or.inl m1));have hne:t.root≠-1:=ω;have k:=DV bt ba n S f.1 t.root.toNat w h hf hr hu;rw[←m2]at k;refine k.mono ?_;rintro e w' ⟨rfl,h',hu'⟩;refine⟨by unfold cutV tb;rw[if_neg hne];simp[hne],hu',_,h',c1,c2,fun y hy=>c3 y (fun e=>hy ?_) (fun e=>hy ?_)⟩
  ·rw[e];exact aG.2 (Or.inr (by simp[dJ]))
  ·rw[e];exact aG.2 (Or.inl m1)
theorem Dy(h:bA w bt ba n S){f:Fr}{P:List Fr}{m:BT}(hT:bY S (-1) (ai (f::P) .nil).root (ai (f::P) .nil))(hM:bY S (-1) m.root m)(hm:m≠.nil)(hn:(m.nodes++dJ (f::P)).Nodup)(hlt:∀y,y∈m.nodes++dJ (f::P)->y<n) :
  Calls Tryz.prog 251 #[.pointer (some ⟨bt,0,none⟩),.int .i64 (f.1:Int),.int .i64 m.root,.bool f.2.1] w fun e w'=>e=.returned (.bool true)/\aa [ba] w w'/\
   ∃S',bA w' bt ba n S'/\bY S' (-1) (ai (f::P) m).root (ai (f::P) m)/\∀y,y∉m.nodes++dJ (f::P)->S.at S' y:=by
 obtain⟨c1,c2⟩:=M8 hT hM hm hn;obtain⟨m1,m2⟩:=bL hm;have hp:=(dZ _ _).1 hT;have hk:S.kid f.2.1 f.1=-1:=hp.2.1;have hu:S.u m.root.toNat=-1:=by
  cases m with
  | nil=>exact absurd rfl hm
  | node y a b=>exact hM.2.1
 have hf:f.1<n:=hlt _ (by simp[dJ]);have hr:m.root.toNat<n:=hlt _ (by simp[m1]);have hne:f.1≠m.root.toNat:=fun e=>by
  rw[θ]at hn;exact hn.2.2 _ m1 f.1 (by simp[dJ]) e.symm
 have k:=Ac bt ba n S f.1 m.root.toNat f.2.1 w h hf hr hne hu hk;rw[←m2]at k;refine k.mono ?_;rintro e w' ⟨rfl,h',hu'⟩;refine⟨rfl,hu',_,h',c1,fun y hy=>c2 y (fun e=>hy ?_) (fun e=>hy ?_)⟩
 ·rw[e];simp[dJ]
 ·rw[e];simp[m1]
theorem LX(h:bA w bt ba n S){P:List Fr}{x:Nat}{l r:BT}(hT:bY S (-1) (ai P (.node x l r)).root (ai P (.node x l r)))(hx:x<n) :
  Calls Tryz.prog 250 #[.pointer (some ⟨bt,0,none⟩),.int .i64 (x:Int)] w fun e w'=>e=.returned (.tuple #[.int .i64 (tv (CR P)),.bool (tb (CR P))])/\∃k,w'=w.drewN k:=by
 have k:=QT bt ba n S (x:Int) w h;have e:pE n S (x:Int)=CR P:=by
  unfold pE;rw[if_pos ω,π];exact((dZ _ _).1 hT).1.2.1
 rw[e]at k;exact k
theorem DD(h:bA w bt ba n S){p:Int}{x:Nat}{l r:BT}(hT:bY S p x (.node x l r))(hx:x<n) :
  Calls Tryz.prog 248 #[.pointer (some ⟨bt,0,none⟩),.int .i64 (x:Int)] w fun e w'=>e=.returned (.tuple #[.int .i64 (tv l.root),.bool (tb l.root)])/\∃k,w'=w.drewN k:=by
 have e:gY n S (x:Int) false=l.root:=by
  unfold gY TS.kid;rw[if_pos ω];simp only[π];exact hT.2.2.1.root
 have k:=zy bt ba n S (x:Int) w h;rw[e]at k;exact k
theorem vR(h:bA w bt ba n S){p:Int}{x:Nat}{l r:BT}(hT:bY S p x (.node x l r))(hx:x<n) :
  Calls Tryz.prog 249 #[.pointer (some ⟨bt,0,none⟩),.int .i64 (x:Int)] w fun e w'=>e=.returned (.tuple #[.int .i64 (tv r.root),.bool (tb r.root)])/\∃k,w'=w.drewN k:=by
 have e:gY n S (x:Int) true=r.root:=by
  unfold gY TS.kid;rw[if_pos ω];simp only[if_true,π];exact hT.2.2.2.root
 have k:=qg bt ba n S (x:Int) w h;rw[e]at k;exact k
theorem Dz(h:bA w bt ba n S){f:Fr}{P:List Fr}{x:Nat}{l r:BT}(hT:bY S (-1) (ai (f::P) (.node x l r)).root (ai (f::P) (.node x l r)))(hn:(ai (f::P) (.node x l r)).nodes.Nodup)(hf:f.1<n) :
  ∃z:Int,(z == (x:Int))=f.2.1/\Calls Tryz.prog 249 #[.pointer (some ⟨bt,0,none⟩),.int .i64 (f.1:Int)] w fun e w'=>e=.returned (.tuple #[.int .i64 (tv z),.bool (tb z)])/\∃k,w'=w.drewN k:=by
 refine⟨S.r f.1,?_,?_⟩
 ·have hp:=(dZ _ _).1 hT;obtain⟨q1,q2,_,_⟩:=hp.2;unfold TS.kid at q1 q2;cases hs:f.2.1
  ·rw[hs]at q1 q2;simp only[Bool.not_false,if_true]at q2;have e2:=q2.root;have hx:x∉f.2.2.nodes:=fun hm=>by
    have h1:=(aP (f::P) (.node x l r)).nodup_iff.1 hn;rw[θ]at h1;exact h1.2.2 x (by simp[BT.nodes]) x (by simp[dJ,hm]) rfl
   have:S.r f.1≠(x:Int):=fun e=>by
    rw[e2]at e
    by_cases hnil:f.2.2=.nil
    ·rw[hnil]at e;have e:(-1:Int)=x:=e;omega
    ·have:=(bL hnil).1;rw[e]at this;exact hx this
   simpa using this
  ·rw[hs]at q1;simp only[if_true]at q1;rw[q1];simp[BT.root]
 ·have k:=qg bt ba n S (f.1:Int) w h;have e:gY n S (f.1:Int) true=S.r f.1:=by unfold gY TS.kid;rw[if_pos ω];simp
  rw[e]at k;exact k
end
def ou:List Fr->BT->BT->BT
 | [],_,m=>m
 | f::P,old,m=>if f.2.1 then lq P (lG f old.rank) f.1 f.2.2 m else lq P (lG f old.rank) f.1 m f.2.2
theorem qi(f:Fr)(P:List Fr)(old m:BT):ou (f::P) old m=if f.2.1 then lq P (lG f old.rank) f.1 f.2.2 m else lq P (lG f old.rank) f.1 m f.2.2:=rfl
theorem uo:∀ (P:List Fr) (old m:BT),(ou P old m).nodes.Perm (ai P m).nodes
 | [],_,_=>List.Perm.refl _
 | f::P,old,m=>by
  rw[qi]
  show List.Perm _ (ai P (bB f m)).nodes
  unfold bB
  split
  ·exact qR _ _ _ _ _
  ·exact qR _ _ _ _ _
theorem FK(f:Fr)(P:List Fr)(old m:BT):(ou (f::P) old m).root=(ai (f::P) m).root:=by
 rw[qi]
 show _=(ai P (bB f m)).root
 unfold bB
 split
 ·exact uP _ _ _ _ _
 ·exact uP _ _ _ _ _
theorem Il{A:NS}:∀ (P:List Fr) (old m:BT),Heap A (ai P m)->Heap A (ou P old m)
 | [],_,_,h=>h
 | f::P,old,m,h=>by
  have h1:Heap A (ai P (bB f m)):=h;rw[qi];unfold bB at h1
  split at h1
  ·rename_i e;rw[if_pos e];exact uM _ _ _ _ _ h1
  ·rename_i e;rw[if_neg e];exact uM _ _ _ _ _ h1
theorem IC:∀ (P:List Fr) (old m:BT),Lean m->Dq P old.rank->Lean (ou P old m)
 | [],_,_,h,_=>h
 | f::P,old,m,h,hp=>by
  rw[qi]
  split
  ·exact tX _ _ _ _ _ hp.1 h hp.2.2
  ·exact tX _ _ _ _ _ h hp.1 hp.2.2
noncomputable def FU(A:NS)(t:BT)(x:Nat):BT×Nat:=
 (ou (pathOf t x).1 (.node x (pathOf t x).2.1 (pathOf t x).2.2) (aI aB A (pathOf t x).2.1 (pathOf t x).2.2).1,(aI aB A (pathOf t x).2.1 (pathOf t x).2.2).2)
noncomputable def QM(A':NS)(t:BT)(x:Nat):BT×Nat:=
 match (pathOf t x).1 with
 | []=>(t,0)
 | _::_=>aI aB A' (ou (pathOf t x).1 (.node x (pathOf t x).2.1 (pathOf t x).2.2) .nil) (.node x (pathOf t x).2.1 (pathOf t x).2.2)
theorem qW{P:List Fr}{x:Nat}{l r:BT}(hn:(ai P (.node x l r)).nodes.Nodup) :
  (x∉l.nodes/\x∉r.nodes/\x∉dJ P)/\(l.nodes++r.nodes).Nodup/\(∀y,y∈l.nodes->y∉dJ P)/\(∀y,y∈r.nodes->y∉dJ P)/\(dJ P).Nodup:=by
 have h:=(aP P (.node x l r)).nodup_iff.1 hn;rw[θ]at h;obtain⟨h1,h2,h3⟩:=h;simp only[BT.nodes,List.nodup_cons,τ,not_or]at h1;exact⟨⟨h1.1.1,h1.1.2,fun hm=>h3 x (by simp[BT.nodes]) x hm rfl⟩,h1.2,fun y hy hm=>h3 y (by simp[BT.nodes,hy]) y hm rfl,fun y hy hm=>h3 y (by simp[BT.nodes,hy]) y hm rfl,h2⟩
theorem Iu{up:Nat->BT->BT->BT}(U:Uc up){A:NS}{P:List Fr}{x:Nat}{l r:BT}(hn:(ai P (.node x l r)).nodes.Nodup)(hH:Heap A (ai P (.node x l r))) :
  (x::(ai P (aI up A l r).1).nodes).Perm (ai P (.node x l r)).nodes/\Heap A (ai P (aI up A l r).1)/\(aI up A l r).1.nodes.Perm (l.nodes++r.nodes):=by
 obtain⟨mp,mh⟩:=mM U A _ l r (Nat.le_refl _);have h1:=qW hn;have hs:=sK hH;have Yg:=mh hs.2.2.1 hs.2.2.2 h1.2.1;refine⟨?_,uK hH Yg (fun y hy=>?_),mp⟩
 ·refine((((aP P _).trans (mp.append_right _)).cons x)).trans ?_;exact(aP P (.node x l r)).symm
 ·have:=mp.mem_iff.1 hy;simp only[BT.nodes,ρ];exact Or.inr this
section
variable {w:World}{B:LB}{F:List Nat}{gt ct:Nat}{A:NS}{st:Nat}{S:TS}{rk:Nat->Nat}{aj:List Int}
theorem Br(h:lQ w B F gt ct A st S rk aj){f:Fr}{P:List Fr}{old m:BT}(hT:bY S (-1) (ai (f::P) m).root (ai (f::P) m))(hm:gH rk m)(hP:Ro rk (f::P) old.rank)(hX:(ai (f::P) m).nodes.Nodup)
  (hlt:∀y,y∈(ai (f::P) m).nodes->y<A.cs.length) :
  Calls Tryz.prog 245 #[.pointer (some ⟨B.n0,0,none⟩),.int .i64 (f.1:Int)] w fun e w'=>e=.returned (.tuple #[])/\aa [B.ba,B.br] w w'/\
   ∃S' oF,lQ w' B F gt ct A st S' oF aj/\tL S rk (ou (f::P) old m) (ai (f::P) m).nodes S' oF:=by
 rw[qi];have hT1:bY S (-1) (ai P (bB f m)).root (ai P (bB f m)):=hT;have hX1:(ai P (bB f m)).nodes.Nodup:=hX;have hlt1:∀y,y∈(ai P (bB f m)).nodes->y<A.cs.length:=hlt
 show Calls _ _ _ _ fun e w'=>e=_/\_/\∃S' oF,_/\tL S rk _ (ai P (bB f m)).nodes S' oF
 by_cases hs:f.2.1=true
 ·have e1:bB f m=.node f.1 f.2.2 m:=by unfold bB;rw[if_pos hs]
  rw[e1]at hT1 hX1 hlt1⊢;rw[if_pos hs];exact Cs h ⟨hT1,List.Perm.refl _,hP.1,hm,hP.2.1,hP.2.2,fun y _=>⟨⟨rfl,rfl,rfl⟩,rfl⟩,rfl⟩ hX1 hlt1
 ·have e1:bB f m=.node f.1 m f.2.2:=by unfold bB;rw[if_neg hs]
  rw[e1]at hT1 hX1 hlt1⊢;rw[if_neg hs];exact Cs h ⟨hT1,List.Perm.refl _,hm,hP.1,hP.2.1,hP.2.2,fun y _=>⟨⟨rfl,rfl,rfl⟩,rfl⟩,rfl⟩ hX1 hlt1
end
theorem Rh(n:Nat):tv (n:Int)=n:=by unfold tv;rw[if_neg ω]
theorem Fp(n:Nat):tb (n:Int)=true:=by unfold tb;simp
section
variable {w:World}{B:LB}{F:List Nat}{gt ct:Nat}{A:NS}{st:Nat}{tr:Nat->BT}{S:TS}{rk:Nat->Nat}{aj:List Int}
def Zo(w':World)(B:LB)(F:List Nat)(gt ct:Nat)(A:NS)(st:Nat)(S:TS)(rk:Nat->Nat)(aj:List Int)(g x:Nat)(P:List Fr)(X:List Nat)(T:BT):Prop:=
 ∃S' oF ji,lQ w' B F gt ct (bz A x) st S' oF ji/\bY S' (-1) T.root T/\gH oF T/\(∀y,y∉X->S.at S' y/\oF y=rk y)/\(S'.l x=-1/\S'.r x=-1/\S'.u x=-1)/\
  ∀q,q<A.hs.length->ji.getD q 0=if P=[]/\q=g then T.root else aj.getD q 0
theorem gL{S S' S'':TS}{x:Nat}(h:S.at S' x)(h':S'.at S'' x):S.at S'' x:=⟨h'.1.trans h.1,h'.2.1.trans h.2.1,h'.2.2.trans h.2.2⟩
theorem E9(hM:lQ w B F gt ct A st S rk aj){g x:Nat}{P:List Fr}{l r:BT}(hin:bS A (x:Int)=true)(hg:(A.c x).i=g)(hgt:g<aj.length)
  (hT:bY S (-1) (ai P (.node x l r)).root (ai P (.node x l r))) (hn:(ai P (.node x l r)).nodes.Nodup) (hR:gH rk (ai P (.node x l r))) (hall:∀y,y∈(ai P (.node x l r)).nodes->bS A (y:Int)=true) :
  Calls Tryz.prog 238 #[.pointer (some ⟨B.n0,0,none⟩),.int .i64 (x:Int)] w fun e w'=>e=.returned (.bool true)/\aa (B.blk F gt) w w'/\
   Zo w' B F gt ct A (bT st (aI aB A l r).2) S rk aj g x P (ai P (.node x l r)).nodes (ou P (.node x l r) (aI aB A l r).1):=by
 have hxl:=((ah A x).1 hin).1;have hlt:∀y,y∈(ai P (.node x l r)).nodes->y<A.cs.length:=fun y hy=>((ah A y).1 (hall y hy)).1;have kh:=dQ hM.cells x hin;rw[hg]at kh;have h0:=hM.h0;have HM:=χ hM;have Qc:=qW hn;have hrr:=(yX P (.node x l r)).1 hR;have mp:=(mM nQ A _ l r (Nat.le_refl _)).1;have hblk:=χ hM.lt;have qz:=χ hM.cF;have hsep:=χ (ψ hM.sep hM.bG);have HT:=χ (ψ hT (ψ hn (ψ hrr (ψ hall hlt))));have HP:=χ Qc;have hA:=hM.cells.ok.c1;obtain⟨m,k,hmk⟩:∃m k,aI aB A l r=(m,k):=⟨_,_,rfl⟩;rw[hmk]at mp;rw[hmk];have VD:=χ mp;have HMK:=χ hmk;have Pk:=χ hin;clear hM hT hn hR hall hlt Qc hrr mp hmk hin hg
 go_enter Tryz.func238,Tryz.ntmps238
 go_wp2_with (first|((go_at_call 140;(with_reducible refine(kh).mono ?_));rintro e w1 ⟨rfl,jr,hu1⟩;(have g1:=(HM.out.cB hu1 jr (fun y hy=>Or.inl hy) rfl rfl).h1)))
 have hM1:=HM.out.cB hu1 jr (fun y hy=>Or.inl hy) rfl rfl;have q1:∀d,(w1.drewN d).cell? ⟨B.n0,1,none⟩=some (.pointer (some ⟨B.bt,0,none⟩)):=fun d=>hM1.h1;have kl:=fun d=>DD (hM1.trees.drewN d) ((dZ _ _).1 HT.out.1).1 hxl;have kr:=fun d=>vR (hM1.trees.drewN d) ((dZ _ _).1 HT.out.1).1 hxl;have jT:=χ hM1;clear hM1 jr kh h0 g1
 go_quiet ((first
  | (go_at_call 248;exact Calls.quiet_of (kl _))
  | (go_at_call 249;exact Calls.quiet_of (kr _))
  | (go_at_call 247;exact Calls.quiet_of_same (om _ _))))
 obtain⟨w2,hw2⟩:∃w2,w2=w1.drewN nq:=⟨_,rfl⟩;have u2:aa F w w2:=by rw[hw2];exact hu1.drewN nq
 have hM2:lQ w2 B F gt ct A st S rk aj:=by rw[hw2];exact jT.out.au ((aa.refl [] w1).drewN nq)
 rw[←hw2];clear hw2 kl kr q1 jT hu1;have XA:=oq hM2.trees (f:=(x,false,r)) (P:=P) (t:=l) HT.out.1 HT.out.2.1 HT.out.2.2.2.2;have g2:=hM2.h1;have nR:=χ hM2;clear hM2
 go_wp2_with (first
  | ((go_at_call 244;(with_reducible refine(XA).mono ?_));rintro e w3 ⟨rfl,hu3,S3,BA,hl3,hp3,hs3⟩;(have g3:=(nR.out.iO hu3 BA).h1);clear g2)
  | fail)
 have jR:=nR.out.iO hu3 BA;have Oz:bY S3 (-1) (ai ((x,true,.nil)::P) r).root (ai ((x,true,.nil)::P) r):=hp3;have Kl:(ai ((x,true,.nil)::P) r).nodes.Nodup:=by
  have e:=(aP P (.node x .nil r));refine e.nodup_iff.2 ?_;obtain⟨⟨a1,a2,a3⟩,a4,a5,a6,a7⟩:=HP.out;simp only[BT.nodes,List.nil_append,θ]at a4⊢;refine⟨List.nodup_cons.2 ⟨a2,a4.2.1⟩,a7,fun y hy z hz e=>?_⟩;subst e;rcases ρ.1 hy with e|hy
  ·exact a3 (by rw[←e];exact hz)
  ·exact a6 y hy hz
 have CU:∀y,y∈(ai ((x,true,.nil)::P) r).nodes->y∈(ai P (.node x l r)).nodes:=fun y hy=>by
  have h':y∈(ai P (.node x .nil r)).nodes:=hy;rw[aG]at h' ⊢;simp only[BT.nodes,List.nil_append,ρ,τ]at h' ⊢;rcases h' with(h'|h')|h'
  ·exact Or.inl (Or.inl h')
  ·exact Or.inl (Or.inr (Or.inr h'))
  ·exact Or.inr h'
 have ZP:=oq jR.trees (f:=(x,true,.nil)) (P:=P) (t:=r) Oz Kl (fun y hy=>HT.out.2.2.2.2 y (CU y hy));have RJ:l.nodes.Nodup/\∀y,y∈l.nodes->y∉(ai ((x,true,.nil)::P) r).nodes:=by
  obtain⟨⟨a1,a2,a3⟩,a4,a5,a6,a7⟩:=HP.out;rw[θ]at a4;refine⟨a4.1,fun y hy hm=>?_⟩;have h':y∈(ai P (.node x .nil r)).nodes:=hm;rw[aG]at h';simp only[BT.nodes,List.nil_append,ρ]at h';rcases h' with(h'|h')|h'
  ·exact a1 (by rw[←h'];exact hy)
  ·exact a4.2.2 y hy y h' rfl
  ·exact a5 y hy h'
 have Kh:=χ jR;have H3:=χ (ψ hl3 (ψ hs3 (ψ CU RJ)));have u3:aa (B.ba::F) w w3:=(u2.mono (by simp;intro x hx;exact Or.inr hx)).trans (hu3.mono σ);clear jR BA hl3 hp3 Oz hs3 Kl CU RJ XA hu3 u2
 go_wp2_with (first
  | ((go_at_call 244;(with_reducible refine(ZP).mono ?_));rintro e w4 ⟨rfl,gX,S4,PU,hr4,hp4,hs4⟩)
  | fail)
 have rW:=Kh.out.iO gX PU;have hl4:bY S4 (-1) l.root l:=H3.out.1.frame (fun y hy=>hs4 y (H3.out.2.2.2.2 y hy));have km:=vL rW hl4 hr4 HP.out.2.1 (fun y hy=>HT.out.2.2.2.1 y (aG.2 (Or.inl (by simp only[BT.nodes];exact List.mem_cons_of_mem _ hy)))) HT.out.2.2.1.1.2.1 HT.out.2.2.1.1.2.2;rw[HMK.out]at km;have hp4':bY S4 (-1) (ai P (.node x .nil .nil)).root (ai P (.node x .nil .nil)):=hp4;have u4:aa (B.ba::F) w w4:=u3.trans (gX.mono σ);have f4:∀y,y∉(ai P (.node x l r)).nodes->S.at S4 y:=fun y hy=>gL (H3.out.2.1 y hy) (hs4 y (fun hm=>hy (H3.out.2.2.1 y hm)));have H4:=χ (ψ hp4' f4)
 clear rW PU hr4 hp4 hp4' hs4 hl4 ZP gX u3 f4 H3 Kh nR g3
 go_wp2_with (first
  | ((go_at_call 246;(with_reducible refine(km).mono ?_));rintro e w5 ⟨rfl,bW,S5,Xt,wL,I1,Nl,hs5⟩;(have g5:=wL.h1))
  | fail)
 have UG:bY S5 (-1) (ai P (.node x .nil .nil)).root (ai P (.node x .nil .nil)):=H4.out.1.frame (fun y hy=>(hs5 y (fun hm=>by
  obtain⟨⟨a1,a2,a3⟩,a4,a5,a6,a7⟩:=HP.out;rw[aG]at hy;simp only[BT.nodes,List.nil_append,ρ,ς,or_false]at hy;rw[τ]at hm;rcases hy with e|hy
  ·subst e;rcases hm with hm|hm;exact a1 hm;exact a2 hm
  ·rcases hm with hm|hm;exact a5 y hm hy;exact a6 y hm hy)).1)
 have f5:∀y,y∉(ai P (.node x l r)).nodes->S.at S5 y/\Xt y=rk y:=fun y hy=>by
  have h1:y∉l.nodes++r.nodes:=fun hm=>hy (aG.2 (Or.inl (by simp only[BT.nodes];exact List.mem_cons_of_mem _ hm)));exact⟨gL (H4.out.2 y hy) (hs5 y h1).1,(hs5 y h1).2⟩
 have Mt:Ro Xt P (BT.node x l r).rank:=HT.out.2.2.1.2.frame (fun y hy=>(hs5 y (fun hm=>by
  rw[τ]at hm;rcases hm with hm|hm
  ·exact HP.out.2.2.1 y hm hy
  ·exact HP.out.2.2.2.1 y hm hy)).2)
 have u5:aa (B.blk F gt) w w5:=(u4.mono (fun y hy=>by simp only[LB.blk,ρ]at hy⊢;rcases hy with h|h<;>simp[h])).trans (bW.mono (fun y hy=>by
   have:=qz.out;simp only[ρ,ς,or_false]at hy;simp only[LB.blk,ρ];rcases hy with rfl|rfl|rfl
   ·simp[this]
   ·simp
   ·simp))
 have ku:=LX wL.trees UG hxl;have vQ:=χ wL;have H5:=χ (ψ UG (ψ f5 (ψ Mt (ψ I1 Nl))));clear wL I1 Nl hs5 km u4 H4 UG f5 Mt bW;have hmm:∀y,y∈m.nodes->y∉dJ P/\y≠x:=fun y hy=>by
  obtain⟨⟨a1,a2,a3⟩,a4,a5,a6,a7⟩:=HP.out;have h1:=VD.out.mem_iff.1 hy;rw[τ]at h1;rcases h1 with h1|h1
  ·exact⟨a5 y h1,fun e=>a1 (by rw[←e];exact h1)⟩
  ·exact⟨a6 y h1,fun e=>a2 (by rw[←e];exact h1)⟩
 have hmx:∀y,y∈m.nodes->y∈(ai P (.node x l r)).nodes:=fun y hy=>aG.2 (Or.inl (by
  have h1:=VD.out.mem_iff.1 hy
  simp only[BT.nodes,ρ];exact Or.inr h1))
 have Oh:m.nodes.Nodup:=VD.out.nodup_iff.2 HP.out.2.1;have HMM:=χ (ψ hmm (ψ hmx Oh));clear hmm hmx Oh;have sp:=hsep.out;have s1:B.n0≠gt:=sp.1.1.2.2.2;clear sp;cases P with
 | nil=>
  rw[show CR ([]:List Fr)=-1 from rfl,show tv (-1)=0 from rfl,show tb (-1)=false from rfl]at ku
  go_wp2_with (first
   | ((go_at_call 250;(with_reducible refine(ku).mono ?_));rintro e w6 ⟨rfl,kk,Cr⟩;(have u6:aa [] w5 w6:=by(rw[Cr];exact(aa.refl _ _).drewN kk));clear Cr;(have g60:=(vQ.out.au u6).h0);(have g63:=(vQ.out.au u6).h3);(have d6:=(vQ.out.au u6).jH.cell g hgt);(have f6:=(vQ.out.au u6).jH.free g);(have kd:=iq ((vQ.out.au u6).qQ g m.root).cells x Pk.out))
   | ((go_at_call 151;(with_reducible refine(kd).mono ?_));rintro e w7 ⟨rfl,hC7,kE⟩)
   | fail)
  go_ret;obtain⟨b1,b2,b3,b4,b5⟩:=H5.out;have bx:=((dZ _ _).1 b1).1;refine⟨rfl,((u5.trans (u6.mono σ)).setCell (Or.inl (by simp[LB.blk])) _).trans (kE.mono (fun y hy=>by simp only[LB.blk,ρ];simp[hy])),S5,Xt,aj.set g m.root,((vQ.out.au u6).qQ g m.root).cB kE hC7 (fun y hy=>Or.inl hy) (fG _ _) (by rw[iW]),b4,b5,b2,⟨bx.2.2.1.root,bx.2.2.2.root,bx.2.1⟩,fun q hq=>?_⟩
  by_cases e:q=g
  ·rw[if_pos ⟨rfl,e⟩,e,φ,List.getElem?_set,if_pos rfl,if_pos hgt];rfl
  ·rw[if_neg (fun h=>e h.2),φ,List.getElem?_set,if_neg (fun h=>e h.symm),←φ]
 | cons f P2=>
  rw[show CR (f::P2)=(f.1:Int)from rfl,Rh,Fp]at ku;have hfl:f.1<A.cs.length:=HT.out.2.2.2.2 f.1 (aG.2 (Or.inr (by simp[dJ])));have OU:(ai (f::P2) (.node x .nil .nil)).nodes.Nodup:=by
   refine(aP (f::P2) (.node x .nil .nil)).nodup_iff.2 ?_;obtain⟨⟨a1,a2,a3⟩,a4,a5,a6,a7⟩:=HP.out;simp only[BT.nodes,List.nil_append,List.singleton_append,List.nodup_cons];exact⟨a3,a7⟩
  have JC:∀y,y∈(ai (f::P2) (.node x .nil .nil)).nodes->y∈(ai (f::P2) (.node x l r)).nodes:=fun y hy=>by
   rw[aG]at hy⊢;simp only[BT.nodes,List.nil_append,ρ,ς,or_false]at hy;rcases hy with hy|hy
   ·exact Or.inl (by simp[BT.nodes,hy])
   ·exact Or.inr hy
  have ksd:∀W,aa [] w5 W->∃z:Int,(z == (x:Int))=f.2.1/\Calls Tryz.prog 249 #[.pointer (some ⟨B.bt,0,none⟩),.int .i64 (f.1:Int)] W fun e w'=>e=.returned (.tuple #[.int .i64 (tv z),.bool (tb z)])/\∃k,w'=W.drewN k:=fun W hW=>Dz (vQ.out.au hW).trees H5.out.1 OU hfl;have Fz:=fun W (hW:aa [] w5 W)=>oq (vQ.out.au hW).trees (f:=f) (P:=P2) (t:=.node x .nil .nil) H5.out.1 OU (fun y hy=>HT.out.2.2.2.2 y (JC y hy));rw[show BT.root (.node x .nil .nil)=(x:Int)from rfl]at Fz;generalize hcv:cutV f (.node x .nil .nil)=cv at Fz;generalize hcb:tb (x:Int)=cb at Fz;have Ja:=χ (ψ OU JC);clear OU JC hcv hcb
  by_cases hmz:m=.nil
  ·have hmb:(m.root != -1)=false:=by rw[hmz];rfl
   have ZQ:=χ hmz;clear hmz
   go_wp2_with (first
    | ((go_at_call 250;(with_reducible refine(ku).mono ?_));rintro e w6 ⟨rfl,kk,Cr⟩;(have u6:aa [] w5 w6:=by(rw[Cr];exact(aa.refl _ _).drewN kk));clear Cr;(have g61:=(vQ.out.au u6).h1);obtain⟨z,hz,kr⟩:=ksd w6 u6)
    | ((go_at_call 249;(with_reducible refine(kr).mono ?_));rintro e w7 ⟨rfl,kk7,hw7⟩;(have u7:aa [] w5 w7:=by(rw[hw7];exact u6.drewN kk7));clear hw7;(have g71:=(vQ.out.au u7).h1);(have kc:=Fz w7 u7))
    | (go_at_call 247;(with_reducible refine(om _ _).mono ?_);rintro e w9 ⟨rfl,aJ⟩;rw[aJ];clear aJ w9)
    | ((go_at_call 244;(with_reducible refine(kc).mono ?_));rintro e w8 ⟨rfl,Jv,S8,hT8,hx8,hp8,hs8⟩;(have kmd:=Br ((vQ.out.au u7).iO Jv hT8) (old:=.node x l r) hp8 (by trivial) H5.out.2.2.1 (by first|(refine(aP (f::P2) .nil).nodup_iff.2 ?_;simpa[BT.nodes]using HP.out.2.2.2.2)) (by intro y hy;rw[aG]at hy;exact HT.out.2.2.2.2 y (aG.2 (Or.inr (by simpa[BT.nodes]using hy))))))
    | ((go_at_call 245;(with_reducible refine(kmd).mono ?_));rintro e w9 ⟨rfl,wU,S9,rk9,YJ,WB⟩;(have g90:=YJ.h0);(have kd:=iq YJ.cells x Pk.out))
    | ((go_at_call 151;(with_reducible refine(kd).mono ?_));rintro e w10 ⟨rfl,KT,zA⟩)
    | fail)
   go_ret;have hz:=ZQ.out;subst hz;refine⟨rfl,((((u5.trans (u7.mono σ)).trans (Jv.mono (by simp[LB.blk]))).trans (wU.mono (by simp[LB.blk]))).trans (zA.mono (fun y hy=>by simp only[LB.blk,ρ];simp[hy]))),S9,rk9,aj,YJ.cB zA KT (fun y hy=>Or.inl hy) (fG _ _) (by rw[iW]),WB.Ec,WB.isR,fun y hy=>?_,?_,fun q hq=>by rw[if_neg σ]⟩
   ·have a1:=H5.out.2.1 y hy;have a2:=hs8 y (fun hm=>hy (Ja.out.2 y hm));have a3:=WB.far y (fun hm=>hy (aG.2 (Or.inr (by rw[aG]at hm;simpa[BT.nodes]using hm))));exact⟨gL (gL a1.1 a2) a3.1,a3.2.trans a1.2⟩
   ·have a3:=(WB.far x (fun hm=>HP.out.1.2.2 (by rw[aG]at hm;simpa[BT.nodes]using hm))).1;have a4:=hx8;exact⟨a3.1.trans a4.2.2.1.root,a3.2.1.trans a4.2.2.2.root,a3.2.2.trans a4.2.1⟩
  ·have hmb:(m.root != -1)=true:=by
    have:=(bL hmz).2;simp;omega
   have ZQ:=χ hmz;have hxm:∀y,y∈m.nodes->y∉(ai (f::P2) (.node x .nil .nil)).nodes:=fun y hy hm=>by
    have b1:=HMM.out.1 y hy;rw[aG]at hm;simp only[BT.nodes,List.nil_append,ρ,ς,or_false]at hm;rcases hm with hm|hm
    ·exact b1.2 hm
    ·exact b1.1 hm
   have hnd:(m.nodes++dJ (f::P2)).Nodup:=by
    rw[θ];exact⟨HMM.out.2.2,HP.out.2.2.2.2,fun a ha b hb e=>(HMM.out.1 a ha).1 (by rw[e];exact hb)⟩
   have hsm:∀y,y∈m.nodes++dJ (f::P2)->y∈(ai (f::P2) (.node x l r)).nodes:=fun y hy=>by
    rw[τ]at hy;rcases hy with hy|hy
    ·exact HMM.out.2.1 y hy
    ·exact aG.2 (Or.inr hy)
   have PQ:=χ (ψ hxm (ψ hnd hsm));clear hmz hxm hnd hsm
   go_wp2_with (first
    | ((go_at_call 250;(with_reducible refine(ku).mono ?_));rintro e w6 ⟨rfl,kk,Cr⟩;(have u6:aa [] w5 w6:=by(rw[Cr];exact(aa.refl _ _).drewN kk));clear Cr;(have g61:=(vQ.out.au u6).h1);obtain⟨z,hz,kr⟩:=ksd w6 u6)
    | ((go_at_call 249;(with_reducible refine(kr).mono ?_));rintro e w7 ⟨rfl,kk7,hw7⟩;(have u7:aa [] w5 w7:=by(rw[hw7];exact u6.drewN kk7));clear hw7;(have g71:=(vQ.out.au u7).h1);(have kc:=Fz w7 u7))
    | (go_at_call 247;(with_reducible refine(om _ _).mono ?_);rintro e w9 ⟨rfl,aJ⟩;rw[aJ];clear aJ w9)
    | ((go_at_call 244;(with_reducible refine(kc).mono ?_));rintro e w8 ⟨rfl,Jv,S8,hT8,hx8,hp8,hs8⟩;(have g81:=((vQ.out.au u7).iO Jv hT8).h1);(have khg:=Dy hT8 hp8 (H5.out.2.2.2.1.frame (fun y hy=>hs8 y (PQ.out.1 y hy))) ZQ.out PQ.out.2.1 (fun y hy=>HT.out.2.2.2.2 y (PQ.out.2.2 y hy))))
    | ((go_at_call 251;(with_reducible refine(khg).mono ?_));rintro e w8b ⟨rfl,hu8b,S8b,hT8b,hp8b,hs8b⟩;(have kmd:=Br (((vQ.out.au u7).iO Jv hT8).iO hu8b hT8b) (old:=.node x l r) hp8b H5.out.2.2.2.2 H5.out.2.2.1 ((aP (f::P2) m).nodup_iff.2 PQ.out.2.1) (fun y hy=>HT.out.2.2.2.2 y (PQ.out.2.2 y ((aP (f::P2) m).mem_iff.1 hy)))))
    | ((go_at_call 245;(with_reducible refine(kmd).mono ?_));rintro e w9 ⟨rfl,wU,S9,rk9,YJ,WB⟩;(have g90:=YJ.h0);(have kd:=iq YJ.cells x Pk.out))
    | ((go_at_call 151;(with_reducible refine(kd).mono ?_));rintro e w10 ⟨rfl,KT,zA⟩)
    | fail)
   go_ret;refine⟨rfl,(((((u5.trans (u7.mono σ)).trans (Jv.mono (by simp[LB.blk]))).trans (hu8b.mono (by simp[LB.blk]))).trans (wU.mono (by simp[LB.blk]))).trans (zA.mono (fun y hy=>by simp only[LB.blk,ρ];simp[hy]))),S9,rk9,aj,YJ.cB zA KT (fun y hy=>Or.inl hy) (fG _ _) (by rw[iW]),WB.Ec,WB.isR,fun y hy=>?_,?_,fun q hq=>by rw[if_neg σ]⟩
   ·have a1:=H5.out.2.1 y hy;have a2:=hs8 y (fun hm=>hy (Ja.out.2 y hm));have a2b:=hs8b y (fun hm=>hy (PQ.out.2.2 y hm));have a3:=WB.far y (fun hm=>hy (PQ.out.2.2 y ((aP (f::P2) m).mem_iff.1 hm)));exact⟨gL (gL (gL a1.1 a2) a2b) a3.1,a3.2.trans a1.2⟩
   ·have vv:x∉m.nodes++dJ (f::P2):=fun hm=>by
     rw[τ]at hm;rcases hm with hm|hm
     ·exact(HMM.out.1 x hm).2 rfl
     ·exact HP.out.1.2.2 hm
    have a3:=gL (hs8b x vv) (WB.far x (fun hm=>vv ((aP (f::P2) m).mem_iff.1 hm))).1;have a4:=hx8;exact⟨a3.1.trans a4.2.2.1.root,a3.2.1.trans a4.2.2.2.root,a3.2.2.trans a4.2.1⟩
theorem FM(h:mK w B F gt ct A st tr)(g x:Nat)(hx:x∈(tr g).nodes) :
  Calls Tryz.prog 238 #[.pointer (some ⟨B.n0,0,none⟩),.int .i64 (x:Int)] w fun e w'=>e=.returned (.bool true)/\aa (B.blk F gt) w w'/\
   mK w' B F gt ct (bz A x) (bT st (FU A (tr g) x).2) (fun q=>if q=g then (FU A (tr g) x).1 else tr q):=by
 obtain⟨S,rk,aj,hM,hI,hL,hR⟩:=h;have hm:=(hI.mem g x).1 hx;have hin:bS A (x:Int)=true:=(ah A x).2 ⟨hm.2.1,ω⟩;have e:=nM hx;unfold FU;generalize (pathOf (tr g) x).1=P at *;generalize (pathOf (tr g) x).2.1=l at *;generalize (pathOf (tr g) x).2.2=r at *;have hgt:g<aj.length:=by rw[hM.jw];have:=(hM.cells.ok.nat x hm.2.1);omega
 have hgh:g<A.hs.length:=by rw[←hM.jw];exact hgt
 have hT:=hI.Ec g;have hn:=hI.nd g;have hH:=hI.heap g;have hRg:=hR g;have Jo:=hL g;rw[e]at hT hn hH hRg Jo;obtain⟨d1,d2,d3⟩:=Iu nQ hn hH;obtain⟨l1,l2⟩:=(uD _ _).1 Jo;have ml:=vD A _ l r (Nat.le_refl _) l1.2.1 l1.2.2;refine(E9 hM hin hm.2.2 hgt hT hn hRg (fun y hy=>?_)).mono ?_
 ·rw[←e]at hy;have:=(hI.mem g y).1 hy;exact(ah A y).2 ⟨this.2.1,ω⟩
 ·rintro e' w' ⟨rfl,hu,S',oF,ji,q1,q2,q3,q4,q5,q6⟩;refine⟨rfl,hu,S',oF,ji,q1,hI.del hx q2 ?_ (Il _ _ _ d2) (fun y hy=>(q4 y (by rw[←e];exact hy)).1) q5 (fun q hq=>?_),fun q=>?_,fun q=>?_⟩
  ·rw[e];exact((uo _ _ _).cons x).trans d1
  ·rw[q6 q hq]
   by_cases hq':q=g
   ·rw[if_pos hq']
    by_cases hp:P=[]
    ·rw[if_pos ⟨hp,hq'⟩]
    ·rw[if_neg (fun h=>hp h.1),hq',hI.top g hgh,e];cases P with
     | nil=>exact absurd rfl hp
     | cons f P2=>rw[FK];exact kQ _ _ _ _
   ·rw[if_neg hq',if_neg (fun h=>hq' h.2)]
  ·show Lean (if q=g then _ else _)
   split
   ·exact IC _ _ _ ml l2
   ·exact hL q
  ·show gH oF (if q=g then _ else _)
   split
   ·exact q3
   ·rename_i hq
    refine(hR q).frame (fun y hy=>(q4 y (fun hm'=>?_)).2);rw[←e]at hm';have c1:=(hI.mem g y).1 hm';have c2:=(hI.mem q y).1 hy;omega
end
theorem FJ{A:NS}{P:List Fr}{x:Nat}{l r:BT}{k s:Int}(hB:jg A x k s=true)(hx:x<A.cs.length)(hn:(ai P (.node x l r)).nodes.Nodup)(hH:Heap A (ai P (.node x l r))) :
  Heap (ay A x k s) (ai P .nil)/\Heap (ay A x k s) (.node x l r):=by
 have h1:=qW hn;have hs:=sK hH;refine⟨(uK (t':=.nil) hH trivial (fun y hy=>by cases hy)).frame (fun y hy=>?_),QK hB hx hs ?_⟩
 ·rw[rD hB hx,if_neg];intro e;rw[e,aG]at hy;rcases hy with hy|hy
  ·cases hy
  ·exact h1.1.2.2 hy
 ·have:=(aP P (.node x l r)).nodup_iff.1 hn;rw[θ]at this;exact this.1
section
variable {w:World}{B:LB}{F:List Nat}{gt ct:Nat}{A:NS}{st:Nat}{tr:Nat->BT}{S:TS}{rk:Nat->Nat}{aj:List Int}
def KW(w':World)(B:LB)(F:List Nat)(gt ct:Nat)(A':NS)(st:Nat)(S:TS)(rk:Nat->Nat)(aj:List Int)(g:Nat)(X:List Nat)(T:BT):Prop:=
 ∃S' oF ji,lQ w' B F gt ct A' st S' oF ji/\bY S' (-1) T.root T/\gH oF T/\(∀y,y∉X->S.at S' y/\oF y=rk y)/\
  ∀q,q<A'.hs.length->ji.getD q 0=if q=g then T.root else aj.getD q 0
theorem Tm(hM:lQ w B F gt ct A st S rk aj){g x:Nat}{l r:BT}{k s:Int}(hk:-9223372036854775808<=k/\k<=9223372036854775807/\0<=s/\s<=18446744073709551615)(hB:jg A x k s=true)
  (hg:(A.c x).i=g) (hg0:0<g) (htop:aj.getD g 0=x) (hxl:x<A.cs.length) (hT:bY S (-1) (BT.node x l r).root (.node x l r)) (hR:gH rk (.node x l r)) :
  Calls Tryz.prog 237 #[.pointer (some ⟨B.n0,0,none⟩),.int .i64 (x:Int),.agg #[.int .i64 k,.int .u64 s]] w fun e w'=>e=.returned (.bool true)/\aa (B.blk F gt) w w'/\
   KW w' B F gt ct (ay A x k s) st S rk aj g (BT.node x l r).nodes (.node x l r):=by
 have hcs:=fE A x k s;have lT:=lJ A x k s;have hin':bS (ay A x k s) (x:Int)=true:=(ah _ x).2 ⟨by rw[hcs];exact hxl,by rw[iM hB hxl,hg];omega⟩;have hi':((ay A x k s).c x).i=g:=by rw[iM hB hxl,hg]
 have hux:S.u x=-1:=hT.2.1;have u1:aa [] w (w.alloc (.cells #[.int .i64 k,.int .u64 s] 129)):=(aa.refl _ _).alloc _;have kp:=fun W (hW:aa [] (w.alloc (.cells #[.int .i64 k,.int .u64 s] 129)) W)=>iE (hM.cells.au (u1.trans hW)) x k s hk hB;have h0:=hM.h0;have uW:B.n0∉F:=hM.bG.1;have hlt:=hM.lt;have hsz:w.heap.size∉F:=fun hm=>by have:=hlt w.heap.size (by simp[LB.blk,hm]);omega
 have r0:∀W,aa F (w.alloc (.cells #[.int .i64 k,.int .u64 s] 129)) W->W.cell? ⟨B.n0,0,none⟩=some (.pointer (some ⟨B.c,0,none⟩)):=fun W hW=>hW.kept (u1.was h0) uW;have r1:∀W,aa F (w.alloc (.cells #[.int .i64 k,.int .u64 s] 129)) W->W.cell? ⟨w.heap.size,0,none⟩=some (.int .i64 k):=fun W h=>h.kept σ hsz;have r2:∀W,aa F (w.alloc (.cells #[.int .i64 k,.int .u64 s] 129)) W->W.cell? ⟨w.heap.size,1,none⟩=some (.int .u64 s):=fun W h=>h.kept σ hsz;have HM:=χ hM;have HG:=χ (ψ htop (ψ hT hR));clear hM hT hR htop hlt h0 hg;generalize hA':ay A x k s=A' at *
 go_enter Tryz.func237,Tryz.ntmps237
 go_wp2
 go_region_held3 (aa F (w.alloc (.cells #[.int .i64 k,.int .u64 s] 129))) (exact ν)
  ((go_at_call 147;(with_reducible refine(kp _ β).mono ?_);rintro e w1 ⟨rfl,jr,hu1⟩;(have hu2:aa F (w.alloc (.cells #[.int .i64 k,.int .u64 s] 129)) w1:=ν)))
 have uF:aa F w (w.alloc (.cells #[.int .i64 k,.int .u64 s] 129)):=u1.mono σ;have hM1:=HM.out.cB (uF.trans hu2) jr (fun y hy=>Or.inl hy) hcs (by rw[lT]);have kh:=dQ hM1.cells x hin';rw[hi']at kh;have g10:=hM1.h0;have jT:=χ hM1;have Ho:=χ (uF.trans hu2);clear r0 r1 r2 kp hu1 hu2 jr hM1 uF
 go_wp2_with (first
  | ((go_at_call 140;(with_reducible refine(kh).mono ?_));rintro e w2 ⟨rfl,hC2,hu2⟩;(have g21:=(jT.out.cB hu2 hC2 (fun y hy=>Or.inl hy) rfl rfl).h1);(have kc:=D9 B.bt B.ba A'.cs.length S (x:Int) w2 (jT.out.cB hu2 hC2 (fun y hy=>Or.inl hy) rfl rfl).trees (by unfold pE;rw[if_pos ω,π];exact hux)))
  | (go_at_call 244;(with_reducible refine(kc).mono ?_);rintro e w9 ⟨rfl,aJ⟩;rw[aJ];clear aJ w9)
  | fail)
 go_ret;refine⟨rfl,(Ho.out.trans hu2).mono (fun y hy=>by simp only[LB.blk,ρ];simp[hy]),S,rk,aj,jT.out.cB hu2 hC2 (fun y hy=>Or.inl hy) rfl rfl,HG.out.2.1,HG.out.2.2,fun y _=>⟨⟨rfl,rfl,rfl⟩,rfl⟩,fun q hq=>?_⟩
 by_cases e:q=g
 ·rw[if_pos e,e,HG.out.1];rfl
 ·rw[if_neg e]
theorem Vg(hM:lQ w B F gt ct A st S rk aj){g x:Nat}{f:Fr}{P:List Fr}{l r:BT}{k s:Int}(hk:-9223372036854775808<=k/\k<=9223372036854775807/\0<=s/\s<=18446744073709551615)(hB:jg A x k s=true)
  (hg:(A.c x).i=g) (hg0:0<g) (hgt:g<aj.length) (htop:aj.getD g 0=(ai (f::P) (.node x l r)).root) (hT:bY S (-1) (ai (f::P) (.node x l r)).root (ai (f::P) (.node x l r))) (hn:(ai (f::P) (.node x l r)).nodes.Nodup)
  (hR:gH rk (ai (f::P) (.node x l r))) (hall:∀y,y∈(ai (f::P) (.node x l r)).nodes->bS A (y:Int)=true) :
  Calls Tryz.prog 237 #[.pointer (some ⟨B.n0,0,none⟩),.int .i64 (x:Int),.agg #[.int .i64 k,.int .u64 s]] w fun e w'=>e=.returned (.bool true)/\aa (B.blk F gt) w w'/\
   KW w' B F gt ct (ay A x k s) (bT st (aI aB (ay A x k s) (ou (f::P) (.node x l r) .nil) (.node x l r)).2) S rk aj g (ai (f::P) (.node x l r)).nodes (aI aB (ay A x k s) (ou (f::P) (.node x l r) .nil) (.node x l r)).1:=by
 have hcs:=fE A x k s;have lT:=lJ A x k s;have hxl:x<A.cs.length:=by
  have:=hall x (aG.2 (Or.inl (by simp[BT.nodes])));exact((ah A x).1 this).1
 have hin':bS (ay A x k s) (x:Int)=true:=(ah _ x).2 ⟨by rw[hcs];exact hxl,by rw[iM hB hxl,hg];omega⟩;have hi':((ay A x k s).c x).i=g:=by rw[iM hB hxl,hg]
 have tJ:∀y,y∈(ai (f::P) (.node x l r)).nodes->bS (ay A x k s) (y:Int)=true:=fun y hy=>by
  have:=(ah A y).1 (hall y hy);exact(ah _ y).2 ⟨by rw[hcs];exact this.1,by rw[iM hB hxl];exact this.2⟩
 have hlt':∀y,y∈(ai (f::P) (.node x l r)).nodes->y<(ay A x k s).cs.length:=fun y hy=>((ah _ y).1 (tJ y hy)).1;have hpn:=(aP (f::P) (.node x l r)).nodup_iff.1 hn;have hrr:=(yX _ _).1 hR;rw[θ]at hpn;have hn0:(ai (f::P) .nil).nodes.Nodup:=(aP (f::P) .nil).nodup_iff.2 (by simpa[BT.nodes]using hpn.2.1);have Ba:∀y,y∈(ai (f::P) .nil).nodes↔y∈dJ (f::P):=fun y=>by rw[aG];simp[BT.nodes]
 have hfm:∀y,y∈(ou (f::P) (.node x l r) .nil).nodes↔y∈dJ (f::P):=fun y=>by rw[(uo _ _ _).mem_iff];exact Ba y
 have hfn:(ou (f::P) (.node x l r) .nil).nodes.Nodup:=(uo _ _ _).nodup_iff.2 hn0;have tC:((ou (f::P) (.node x l r) .nil).nodes++(BT.node x l r).nodes).Nodup:=by
  rw[θ];exact⟨hfn,hpn.1,fun a ha b hb e=>hpn.2.2 b hb a ((hfm a).1 ha) e.symm⟩
 have I5:∀y,y∈(ou (f::P) (.node x l r) .nil).nodes++(BT.node x l r).nodes->y∈(ai (f::P) (.node x l r)).nodes:=fun y hy=>by
  rw[τ,hfm]at hy;rw[aG];exact hy.symm
 have hrt:(ai (f::P) (.node x l r)).root=(ou (f::P) (.node x l r) .nil).root:=by rw[FK];exact kQ _ _ _ _
 rw[hrt]at htop;have u1:aa [] w (w.alloc (.cells #[.int .i64 k,.int .u64 s] 129)):=(aa.refl _ _).alloc _;have kp:=fun W (hW:aa [] (w.alloc (.cells #[.int .i64 k,.int .u64 s] 129)) W)=>iE (hM.cells.au (u1.trans hW)) x k s hk hB;have h0:=hM.h0;have uW:B.n0∉F:=hM.bG.1;have hlt:=hM.lt;have hsz:w.heap.size∉F:=fun hm=>by have:=hlt w.heap.size (by simp[LB.blk,hm]);omega
 have r0:∀W,aa F (w.alloc (.cells #[.int .i64 k,.int .u64 s] 129)) W->W.cell? ⟨B.n0,0,none⟩=some (.pointer (some ⟨B.c,0,none⟩)):=fun W hW=>hW.kept (u1.was h0) uW;have r1:∀W,aa F (w.alloc (.cells #[.int .i64 k,.int .u64 s] 129)) W->W.cell? ⟨w.heap.size,0,none⟩=some (.int .i64 k):=fun W h=>h.kept σ hsz;have r2:∀W,aa F (w.alloc (.cells #[.int .i64 k,.int .u64 s] 129)) W->W.cell? ⟨w.heap.size,1,none⟩=some (.int .u64 s):=fun W h=>h.kept σ hsz;have HM:=χ hM;have HSE:=χ (ψ hM.sep hM.bG);have HG:=χ (ψ hT (ψ hn (ψ hrr (ψ tJ hlt'))));have HX:=χ (ψ tC I5);have H0:=χ (ψ hn0 (ψ Ba hfm))
 have XZ:=hM.cells.ok.h1;have hA:=hM.cells.ok.c1;clear hM hT hR hn hall tJ hlt' hpn hrr hlt h0 hg tC I5 hn0 Ba hfm hfn hrt uW hsz;generalize hA':ay A x k s=A' at *
 go_enter Tryz.func237,Tryz.ntmps237
 go_wp2
 go_region_held3 (aa F (w.alloc (.cells #[.int .i64 k,.int .u64 s] 129))) (exact ν)
  ((go_at_call 147;(with_reducible refine(kp _ β).mono ?_);rintro e w1 ⟨rfl,jr,hu1⟩;(have hu2:aa F (w.alloc (.cells #[.int .i64 k,.int .u64 s] 129)) w1:=ν)))
 have uF:aa F w (w.alloc (.cells #[.int .i64 k,.int .u64 s] 129)):=u1.mono σ;have hM1:=HM.out.cB (uF.trans hu2) jr (fun y hy=>Or.inl hy) hcs (by rw[lT]);have kh:=dQ hM1.cells x hin';rw[hi']at kh;have g10:=hM1.h0;have jT:=χ hM1;have Ho:=χ (uF.trans hu2);clear r0 r1 r2 kp hu1 hu2 jr hM1 uF;have Fz:∀w2,aa F w1 w2->aF w2 B.c F A' st->_:=fun w2 hu2 hC2=>oq (jT.out.cB hu2 hC2 (fun y hy=>Or.inl hy) rfl rfl).trees (f:=f) (P:=P) (t:=.node x l r) HG.out.1 HG.out.2.1 HG.out.2.2.2.2
 rw[show BT.root (.node x l r)=(x:Int)from rfl,show cutV f (.node x l r)=(f.1:Int) by unfold cutV;rw[if_neg (by show ¬ (x:Int)=-1;omega)],Fp]at Fz
 go_wp2_with (first
  | ((go_at_call 140;(with_reducible refine(kh).mono ?_));rintro e w2 ⟨rfl,hC2,hu2⟩;(have g21:=(jT.out.cB hu2 hC2 (fun y hy=>Or.inl hy) rfl rfl).h1);(have kc:=Fz w2 hu2 hC2))
  | ((go_at_call 244;(with_reducible refine(kc).mono ?_));rintro e w3 ⟨rfl,hu3,S3,BA,hx3,hp3,hs3⟩;(have kmd:=Br ((jT.out.cB hu2 hC2 (fun y hy=>Or.inl hy) rfl rfl).iO hu3 BA) (old:=.node x l r) (m:=.nil) hp3 trivial HG.out.2.2.1.2 H0.out.1 (fun y hy=>HG.out.2.2.2.2 y (aG.2 (Or.inr ((H0.out.2.1 y).1 hy))))))
  | ((go_at_call 245;(with_reducible refine(kmd).mono ?_));rintro e w4 ⟨rfl,gX,S4,rk4,rW,Zc⟩)
  | fail)
 have hx4:bY S4 (-1) (x:Int) (.node x l r):=bY.frame hx3 (fun y hy=>(Zc.far y (fun hm=>by
  have h1:=(H0.out.2.1 y).1 hm;have h2:=(aP (f::P) (.node x l r)).nodup_iff.1 HG.out.2.1;rw[θ]at h2
  exact h2.2.2 y hy y h1 rfl)).1)
 have hr4:gH rk4 (.node x l r):=HG.out.2.2.1.1.frame (fun y hy=>(Zc.far y (fun hm=>by
  have h1:=(H0.out.2.1 y).1 hm;have h2:=(aP (f::P) (.node x l r)).nodup_iff.1 HG.out.2.1;rw[θ]at h2
  exact h2.2.2 y hy y h1 rfl)).2)
 have f4:∀y,y∉(ai (f::P) (.node x l r)).nodes->S.at S4 y/\rk4 y=rk y:=fun y hy=>by
  have a1:=hs3 y hy;have a2:=Zc.far y (fun hm=>hy (aG.2 (Or.inr ((H0.out.2.1 y).1 hm))));exact⟨gL a1 a2.1,a2.2⟩
 have u4:aa (B.blk F gt) w w4:=(((Ho.out.trans hu2).mono (fun y hy=>by simp only[LB.blk,ρ];simp[hy])).trans (hu3.mono (by simp[LB.blk]))).trans (gX.mono (by simp[LB.blk]));have hE:=χ (ψ Zc f4);have qz:=HM.out.cF;have km:=fun W (hW:aa [] w4 W)=>vL (rW.au hW) (tb:=.node x l r) Zc.Ec hx4 HX.out.1 (fun y hy=>HG.out.2.2.2.1 y (HX.out.2 y hy)) Zc.isR hr4;rw[show BT.root (.node x l r)=(x:Int)from rfl]at km;have d4:=rW.jH.cell g hgt;rw[htop]at d4;have f4':=rW.jH.free g;have h3:=rW.h3;have hgl:=rW.lt gt (by simp[LB.blk]);have D5:B.n0∉[B.c,B.ba,B.br,gt]:=by
  have a1:=HSE.out;have a2:B.n0≠B.c:=fun e=>a1.2.1 (by rw[e];exact qz);simp;omega
 have hgc:gt∉[B.c,B.ba,B.br]:=by
  have a1:=HSE.out;have a2:gt≠B.c:=fun e=>a1.2.2.2.2.2 (by rw[e];exact qz);simp;omega
 have r3:∀W,aa [B.c,B.ba,B.br,gt] w4 W->W.cell? ⟨B.n0,3,none⟩=some (.slice (some ⟨gt,0,none⟩) aj.length ct):=fun W hW=>hW.kept h3 D5;have r4:∀W,aa [B.c,B.ba,B.br] w4 W->W.cell? ⟨gt,g,none⟩=some (.int .i64 (ou (f::P) (.node x l r) .nil).root)/\W.frozen? ⟨gt,g,none⟩=false:=fun W hW=>⟨hW.kept d4 hgc,hW.aS d4 hgc f4'⟩
 have BP:(0:Int)<=(g:Int):=ω;have Hy:(g:Int)<(aj.length:Int):=ω;have HF:Hid (∀ (W:World) (S':TS) (oF:Nat->Nat) (st':Nat),(∀y,y∉(ou (f::P) (.node x l r) .nil).nodes++(BT.node x l r).nodes->S4.at S' y/\oF y=rk4 y)->∀y,y∉(ai (f::P) (.node x l r)).nodes->S.at S' y/\oF y=rk y):=fun W S' oF st' a y hy=>by
  have b1:=hE.out.2 y hy;have b2:=a y (fun hm=>hy (HX.out.2 y hm));exact⟨gL b1.1 b2.1,b2.2.trans b1.2⟩
 clear hE f4 Zc hx4 hr4 hs3 hp3 hx3 BA;generalize hmt:(aI aB A' (ou (f::P) (.node x l r) .nil) (.node x l r)).1=mt at *;generalize hmk:(aI aB A' (ou (f::P) (.node x l r) .nil) (.node x l r)).2=mk at *;generalize hth:ou (f::P) (.node x l r) .nil=th at *;clear rW f4' h3;have q3:=r3 _ (aa.refl _ _);have q4:=(r4 _ (aa.refl _ _)).1
 go_region_law
  (first
   | (go_simp;go_at_call 246;(with_reducible refine(km _ β).mono ?_);rintro e w5 ⟨rfl,xK,S5,Xt,wL,I1,Nl,hs5⟩;(have bW:aa [B.c,B.ba,B.br] w4 w5:=aa.trans β xK);(have ik:aa [B.c,B.ba,B.br,gt] w4 w5:=bW.mono σ);obtain⟨d5,f5⟩:=r4 _ bW;(have q5:=r3 _ ik)))
 all_goals
  go_wp2;go_ret
  have v3:aa (B.blk F gt) w w5:=u4.trans (bW.mono (fun y hy=>by
   simp only[ρ,ς,or_false]at hy;simp only[LB.blk,ρ];rcases hy with rfl|rfl|rfl
   ·simp[qz]
   ·simp
   ·simp))
  subst hth hmt hmk;refine⟨rfl,v3.setCell (Or.inl (by simp[LB.blk])) _,S5,Xt,_,wL.qQ g _,I1,Nl,HF.out w5 S5 Xt 0 hs5,fun q hq=>?_⟩
  by_cases e:q=g
  ·rw[if_pos e,e,φ,List.getElem?_set,if_pos rfl,if_pos hgt];rfl
  ·rw[if_neg e,φ,List.getElem?_set,if_neg (fun h=>e h.symm),←φ]
theorem Sq(h:mK w B F gt ct A st tr)(g x:Nat)(hx:x∈(tr g).nodes)(k s:Int)(hk:-9223372036854775808<=k/\k<=9223372036854775807/\0<=s/\s<=18446744073709551615)(hB:jg A x k s=true) :
  Calls Tryz.prog 237 #[.pointer (some ⟨B.n0,0,none⟩),.int .i64 (x:Int),.agg #[.int .i64 k,.int .u64 s]] w fun e w'=>e=.returned (.bool true)/\aa (B.blk F gt) w w'/\
   mK w' B F gt ct (ay A x k s) (bT st (QM (ay A x k s) (tr g) x).2) (fun q=>if q=g then (QM (ay A x k s) (tr g) x).1 else tr q):=by
 obtain⟨S,rk,aj,hM,hI,hL,hR⟩:=h;have hm:=(hI.mem g x).1 hx;have e:=nM hx;unfold QM;generalize (pathOf (tr g) x).1=P at *;generalize (pathOf (tr g) x).2.1=l at *;generalize (pathOf (tr g) x).2.2=r at *;have hgt:g<aj.length:=by rw[hM.jw];have:=(hM.cells.ok.nat x hm.2.1);omega
 have hgh:g<A.hs.length:=by rw[←hM.jw];exact hgt
 have hT:=hI.Ec g;have hn:=hI.nd g;have hH:=hI.heap g;have hRg:=hR g;have Jo:=hL g;have htp:=hI.top g hgh;rw[e]at hT hn hH hRg Jo htp;obtain⟨d1,d2⟩:=FJ hB hm.2.1 hn hH;obtain⟨l1,l2⟩:=(uD _ _).1 Jo;have fin:∀w' T st',KW w' B F gt ct (ay A x k s) st' S rk aj g (tr g).nodes T->T.nodes.Perm (tr g).nodes->Heap (ay A x k s) T->Lean T->mK w' B F gt ct (ay A x k s) st' (fun q=>if q=g then T else tr q):=fun w' T st' hE hp hh hl=>by
  obtain⟨S',oF,ji,q1,q2,q3,q4,q6⟩:=hE;refine⟨S',oF,ji,q1,hI.low hB hx q2 hp hh (fun y hy=>(q4 y hy).1) (fun q hq=>q6 q (by rw[lJ];exact hq)),fun q=>?_,fun q=>?_⟩
  ·show Lean (if q=g then _ else _)
   split
   ·exact hl
   ·exact hL q
  ·show gH oF (if q=g then _ else _)
   split
   ·exact q3
   ·rename_i hq
    refine(hR q).frame (fun y hy=>(q4 y (fun hm'=>?_)).2);have c1:=(hI.mem g y).1 hm';have c2:=(hI.mem q y).1 hy;omega
 cases P with
 | nil=>
  refine(Tm hM hk hB hm.2.2 hm.1 htp hm.2.1 hT hRg).mono ?_;rintro e' w' ⟨rfl,hu,hE⟩;have e2:tr g=.node x l r:=e;refine⟨rfl,hu,?_⟩
  show mK w' B F gt ct (ay A x k s) (bT st 0) (fun q=>if q=g then tr g else tr q)
  rw[gK hM.cells.pF];refine fin w' _ st (by rw[e2];exact hE) (List.Perm.refl _) (by rw[e2];exact d2) (hL g)
 | cons f P2=>
  refine(Vg hM hk hB hm.2.2 hm.1 hgt htp hT hn hRg (fun y hy=>?_)).mono ?_
  ·rw[←e]at hy;have:=(hI.mem g y).1 hy;exact(ah A y).2 ⟨this.2.1,ω⟩
  ·rintro e' w' ⟨rfl,hu,hE⟩;refine⟨rfl,hu,?_⟩;have hpn:=(aP (f::P2) (.node x l r)).nodup_iff.1 hn;obtain⟨mp,mh⟩:=mM nQ (ay A x k s) _ (ou (f::P2) (.node x l r) .nil) (.node x l r) (Nat.le_refl _);have pn:((ou (f::P2) (.node x l r) .nil).nodes++(BT.node x l r).nodes).Perm (tr g).nodes:=by
    rw[e];refine(((uo _ _ _).trans (aP (f::P2) .nil)).append_right _).trans ?_;refine List.perm_append_comm.trans ?_;simp only[BT.nodes,List.nil_append];exact(aP (f::P2) (.node x l r)).symm
   refine fin w' _ _ (by rw[e];exact hE) (mp.trans pn) (mh (Il _ _ _ d1) d2 (pn.nodup_iff.2 (hI.nd g))) (vD _ _ _ _ (Nat.le_refl _) (IC _ _ _ trivial l2) l1)
end
section
variable {w:World}{B:LB}{F:List Nat}{gt ct:Nat}{A:NS}{st:Nat}{tr:Nat->BT}{S:TS}{rk:Nat->Nat}{aj:List Int}
theorem BZ(h:mK w B F gt ct A st tr)(g:Nat)(hn:0<dO A g) :
  Calls Tryz.prog 239 #[.pointer (some ⟨B.n0,0,none⟩),.int .i64 (g:Int)] w fun e w'=>∃m:Nat,dL A g=some m/\e=.returned (.tuple #[.int .i64 (m:Int),.bool true])/\aa (B.blk F gt) w w'/\
   mK w' B F gt ct (bz A m) (bT st (FU A (tr g) m).2) (fun q=>if q=g then (FU A (tr g) m).1 else tr q):=by
 have k:=Co h g hn;have h':=h;obtain⟨S,rk,aj,hM,hI,hL,hR⟩:=h';have kd:=fun m hm=>FM h g m hm;have hroot:∀m:Nat,(tr g).root=m->m∈(tr g).nodes:=fun m hm=>by
  have hne:tr g≠.nil:=fun e=>by rw[e]at hm;have:(-1:Int)=m:=hm;omega
  have:=(bL hne).1;rw[hm]at this;simpa using this
 clear hM hI hL hR h
 go_enter Tryz.func239,Tryz.ntmps239
 go_wp2_with (first
  | ((go_at_call 243;(with_reducible refine(k).mono ?_));rintro e w1 ⟨m,hm1,hm2,rfl,rfl⟩;(have Zr:=kd m (hroot m hm2)))
  | ((go_at_call 238;(with_reducible refine(Zr).mono ?_));rintro e w2 ⟨rfl,hu2,hL2⟩)
  | fail)
 go_ret2;exact⟨m,hm1,rfl,hu2,hL2⟩
end
theorem Jq(p c:Nat):∀W:World,W.cell? ⟨p,0,none⟩=some (.pointer (some ⟨c,0,none⟩))->(method 429 186 (.pointer (some ⟨p,0,none⟩)) "Has").run Tryz.prog W=.ok (139,.pointer (some ⟨c,0,none⟩)) W:=(by intro W h;unfold method;have hm:∃m,(Array.find? (fun x=>x.name == "Has") Tryz.t186.methods)=some m/\m.path.toList=[⟨231,0,true⟩]/\m.func=some (139,true)/\m.path.isEmpty=false:=⟨(Array.find? (fun x=>x.name == "Has") Tryz.t186.methods).get!,by kernel_rfl,by kernel_rfl,by kernel_rfl,by kernel_rfl⟩;obtain⟨m,h1,h2,h3,h4⟩:=hm;go_simp;simp only[follow,Place.get];go_simp;(try unfold receiverAt);(try simp only[Place.get]);(try go_simp))
theorem EF(p c:Nat):∀W:World,W.cell? ⟨p,0,none⟩=some (.pointer (some ⟨c,0,none⟩))->(method 429 186 (.pointer (some ⟨p,0,none⟩)) "Entry").run Tryz.prog W=.ok (137,.pointer (some ⟨c,0,none⟩)) W:=(by intro W h;unfold method;have hm:∃m,(Array.find? (fun x=>x.name == "Entry") Tryz.t186.methods)=some m/\m.path.toList=[⟨231,0,true⟩]/\m.func=some (137,true)/\m.path.isEmpty=false:=⟨(Array.find? (fun x=>x.name == "Entry") Tryz.t186.methods).get!,by kernel_rfl,by kernel_rfl,by kernel_rfl,by kernel_rfl⟩;obtain⟨m,h1,h2,h3,h4⟩:=hm;go_simp;simp only[follow,Place.get];go_simp;(try unfold receiverAt);(try simp only[Place.get]);(try go_simp))
theorem UT(p:Nat):∀W:World,(method 429 186 (.pointer (some ⟨p,0,none⟩)) "Make").run Tryz.prog W=.ok (241,.pointer (some ⟨p,0,none⟩)) W:=fun _=>by kernel_rfl
theorem NG(p:Nat):∀W:World,(method 429 186 (.pointer (some ⟨p,0,none⟩)) "Insert").run Tryz.prog W=.ok (240,.pointer (some ⟨p,0,none⟩)) W:=fun _=>by kernel_rfl
theorem ZG(p:Nat):∀W:World,(method 429 186 (.pointer (some ⟨p,0,none⟩)) "Min").run Tryz.prog W=.ok (243,.pointer (some ⟨p,0,none⟩)) W:=fun _=>by kernel_rfl
theorem J6(p:Nat):∀W:World,(method 429 186 (.pointer (some ⟨p,0,none⟩)) "Extract").run Tryz.prog W=.ok (239,.pointer (some ⟨p,0,none⟩)) W:=fun _=>by kernel_rfl
theorem IL(p:Nat):∀W:World,(method 429 186 (.pointer (some ⟨p,0,none⟩)) "Decrease").run Tryz.prog W=.ok (237,.pointer (some ⟨p,0,none⟩)) W:=fun _=>by kernel_rfl
def LfQ(w:World)(p:Nat)(F:List Nat)(A:NS):Prop:=∃B F1 gt ct st tr,p=B.n0/\F=B.blk F1 gt/\mK w B F1 gt ct A st tr
def y8:gW where
 ty:=186
 at_:=LfQ
 upd:=fun h hu hS=>by
  obtain⟨B,F1,gt,ct,st,tr,rfl,rfl,hL⟩:=h;exact⟨B,F1,gt,ct,st,tr,rfl,rfl,hL.upd hu hS⟩
 lt:=fun h=>by
  obtain⟨B,F1,gt,ct,st,tr,rfl,rfl,S,rk,aj,hM, -⟩:=h;exact hM.lt
 ok:=fun h=>by
  obtain⟨B,F1,gt,ct,st,tr,rfl,rfl,S,rk,aj,hM, -⟩:=h;exact hM.cells.ok
 make:=fun {w p F A} h=>by
  obtain⟨B,F1,gt,ct,st,tr,rfl,rfl,hL⟩:=h;refine aZ 241 (fun _ _=>by kernel_rfl) (UT _) (fun W hW=>?_);have mq:=hL.au hW
  by_cases hl:65536<A.hs.length
  ·have e1:dm A=0:=by unfold dm;rw[if_pos hl]
   have e2:aR A=A:=by unfold aR;rw[if_pos hl]
   rw[e1,e2];refine(Tn mq hl).mono ?_;rintro e w' ⟨rfl,F',⟨F2,rfl,hA⟩,hu,hf⟩;exact⟨rfl,_,⟨B,F2,gt,ct,st,tr,rfl,rfl,hA⟩,hu,hf⟩
  ·have e1:dm A=A.hs.length:=by unfold dm;rw[if_neg hl]
   rw[e1];refine(PI mq hl).mono ?_;rintro e w' ⟨rfl,F',⟨F2,gt2,ct2,rfl,hA⟩,hu,hf⟩;exact⟨rfl,_,⟨B,F2,gt2,ct2,st,tr,rfl,rfl,hA⟩,hu,hf⟩
 insert:=fun {w p F A} g y k s hk hB h=>by
  obtain⟨B,F1,gt,ct,st,tr,rfl,rfl,hL⟩:=h;refine aZ 240 (fun _ _=>by kernel_rfl) (NG _) (fun W hW=>?_);refine(GD (hL.au hW) g y k s hk hB).mono ?_;rintro e w' ⟨rfl,hu,hL2⟩;exact⟨rfl,Goes.stay ⟨B,F1,gt,ct,_,_,rfl,rfl,hL2⟩ hu⟩
 min:=fun {w p F A} y hB h=>by
  obtain⟨B,F1,gt,ct,st,tr,rfl,rfl,hL⟩:=h;refine aZ 243 (fun _ _=>by kernel_rfl) (ZG _) (fun W hW=>?_);have mq:=hL.au hW;have hok:A.Ok:=by obtain⟨S,rk,aj,hM, -⟩:=hL;exact hM.cells.ok
  by_cases hl:dO A (y:Int)=0
  ·rw[iI.2 hl];have h4:=(aV _ _).1 hB;have h5:=hok.h1;refine(Nt mq y ω hl).mono ?_;rintro e w' ⟨rfl,rfl⟩;exact⟨rfl,Goes.stay ⟨B,F1,gt,ct,st,tr,rfl,rfl,mq⟩ (aa.refl _ _)⟩
  ·refine(Co mq y ω).mono ?_;rintro e w' ⟨m,hm, -,rfl,rfl⟩;rw[hm];exact⟨rfl,Goes.stay ⟨B,F1,gt,ct,st,tr,rfl,rfl,mq⟩ (aa.refl _ _)⟩
 extract:=fun {w p F A} y m hm h=>by
  obtain⟨B,F1,gt,ct,st,tr,rfl,rfl,hL⟩:=h;refine aZ 239 (fun _ _=>by kernel_rfl) (J6 _) (fun W hW=>?_);have hl:¬dO A (y:Int)=0:=fun e=>by rw[iI.2 e]at hm;cases hm
  refine(BZ (hL.au hW) y ω).mono ?_;rintro e w' ⟨m',hm',rfl,hu,hL2⟩;rw[hm]at hm';cases hm';exact⟨rfl,Goes.stay ⟨B,F1,gt,ct,_,_,rfl,rfl,hL2⟩ hu⟩
 mD:=fun {w p F A} y k s hk hB h=>by
  obtain⟨B,F1,gt,ct,st,tr,rfl,rfl,hL⟩:=h;refine aZ 237 (fun _ _=>by kernel_rfl) (IL _) (fun W hW=>?_);have mq:=hL.au hW;have hin:=rq hB;have hx:y∈(tr (A.c y).i.toNat).nodes:=by
   obtain⟨S,rk,aj,hM,hI, -⟩:=mq;have:=(ah _ _).1 hin;exact(hI.mem _ y).2 ⟨ω,this.1,ω⟩
  refine(Sq mq _ y hx k s hk hB).mono ?_;rintro e w' ⟨rfl,hu,hL2⟩;exact⟨rfl,Goes.stay ⟨B,F1,gt,ct,_,_,rfl,rfl,hL2⟩ hu⟩
 has:=fun x h=>by
  obtain⟨B,F1,gt,ct,st,tr,rfl,rfl,S,rk,aj,hM, -⟩:=h;exact iN 139 (fun _ _=>by kernel_rfl) hM.h0 (Jq _ _) (fun W hW=>jN (hM.au hW).cells x)
 entry:=fun {w p F A} x h=>by
  obtain⟨B,F1,gt,ct,st,tr,rfl,rfl,S,rk,aj,hM, -⟩:=h;refine iN 137 (fun _ _=>by kernel_rfl) hM.h0 (EF _ _) (fun W hW=>?_);cases hin:bS A x with
  | false=>simpa using l8 (hM.au hW).cells x hin
  | true=>
   obtain⟨y,rfl⟩:=qC hin;simpa using j5 (hM.au hW).cells y hin
theorem Je(p:Nat)(w:World):Calls Tryz.prog 99 #[.pointer (some ⟨p,0,none⟩),.int .i64 0] w fun e w'=>e=.returned (.tuple #[.iface 186 (.pointer (some ⟨p,0,none⟩)),.int .i64 0])/\w'=w:=by
 go_enter Tryz.func99,Tryz.ntmps99
 go_wp2;go_ret2;exact⟨rfl,rfl⟩
theorem SK(n:Nat)(hn:n<=65536):pJ y8 6 0 n:=by
 intro w;have kn:=fun W=>Qe n W hn;have km:=Je;have hty:y8.ty=186:=rfl;have hat:∀w' B F gt,mK w' B F gt 1 (NS.new n) 0 (fun _=>.nil)->y8.at_ w' B.n0 (B.blk F gt) (NS.new n):=fun w' B F gt h=>⟨B,F,gt,_,_,_,rfl,rfl,h⟩
 generalize y8=K at *;rw[hty]
 go_enter Tryz.func81,Tryz.ntmps81
 go_wp2_with (first
  | ((go_at_call 100;(with_reducible refine(kn _).mono ?_));rintro e w1 ⟨B,F,gt,rfl,hS,hu1,hf⟩)
  | ((go_at_call 99;(with_reducible refine(km _ _).mono ?_));rintro e w2 ⟨rfl,rfl⟩)
  | fail)
 go_ret2;exact⟨B.n0,B.blk F gt,rfl,hat _ _ _ _ hS,aa.trans β hu1,fun x hx=>by have:=hf x hx;simp at this;omega⟩
end Go.Proofs.YtklibcncmbofpaaGreat
