/-
  Lemmas for RankSorts: Bn8, BnW. Conditions: those of each lemma.
-/
import Derived.Test.YtklibcncmbofpaaGreatP07
import Derived.Test.YtklibcncmbofpaaGreatP34
set_option maxHeartbeats 8000000
set_option maxRecDepth 10000
set_option linter.unusedVariables false
set_option linter.unusedSimpArgs false
namespace Go.Proofs.YtklibcncmbofpaaGreat
open Go Go.RowKit
theorem Nq:(Tryz.prog.info? 26).map (fun i=>(i.zero,i.size,i.bytes))=some (some (.slice none 0 0),1,24):=by kernel_rfl
theorem OH {A:NS} {G:BG} (I:zA A G) (ok:A.Ok):G.R A.hs.length=[]:=by
 cases e:G.R A.hs.length with
 | nil=>rfl
 | cons x t=>
  have hx:x∈G.R A.hs.length:=by rw [e];simp
  obtain ⟨y,_,hy,_,hh,_⟩:=Ls I hx;have:=ok.nat y hy;omega
theorem yU (vs:List Value) (v:Value) (k:Nat):(vs++[v]).getD k undef=if k<vs.length then vs.getD k undef else if k=vs.length then v else undef:=by
 simp only [φ]
 by_cases e:k<vs.length
 ·rw [List.getElem?_append_left e,if_pos e]
 ·rw [List.getElem?_append_right ω,if_neg e]
  by_cases e2:k=vs.length
  ·subst e2;simp
  ·rw [if_neg e2,List.getElem?_eq_none ζ];rfl
section
variable {w:World} {p:Nat} {FF:List Nat} {A:NS} {st:Nat} {G:BG}
theorem IL (h:Di w p FF A st G) :
  Calls Tryz.prog 179 #[.pointer (some ⟨p,0,none⟩)] w fun e w'=>e=.returned (.int .i64 (bS A))∧Goes FF w w' (fun FF'=>Di w' p FF' (aG A) st G):=by
 obtain ⟨⟨B,F,gr,cr,lo,S,vs,rfl,rfl,M,eF⟩,I⟩:=h;have k:=fT M.cells;have h0:=M.h0;have I2:=Mr I
 by_cases hl:65536<A.hs.length
 ·have e1:bS A=0:=by unfold bS;rw [if_pos hl]
  have e2:aG A=A:=by unfold aG;rw [if_pos hl]
  rw [e1,e2] at k;rw [e1,e2];have HM:=χ M;have HI:=χ (ψ I eF);clear M I eF e1 e2 I2
  go_enter Tryz.func179,Tryz.ntmps179
  go_wp2_with ((go_at_call 156;(with_reducible refine (k).mono ?_));rintro e w1 ⟨rfl,F1,hC,hu,hF⟩)
  go_ret;refine ⟨rfl,B.blk F1 gr A.cs.length S vs,⟨⟨B,F1,gr,cr,lo,S,vs,rfl,rfl,HM.out.bI hu hC hF rfl rfl,HI.out.2⟩,HI.out.1⟩,hu.mono uO,fun y hy=>?_⟩
  simp only [BB.blk,List.mem_cons,List.mem_append] at hy ⊢;rcases hy with e|e|e|e|e|e|e
  ·exact Or.inl (Or.inl e)
  ·exact Or.inl (Or.inr (Or.inl e))
  ·exact Or.inl (Or.inr (Or.inr (Or.inl e)))
  ·exact Or.inl (Or.inr (Or.inr (Or.inr (Or.inl e))))
  ·rcases hF y e with h'|h'
   ·exact Or.inl (Or.inr (Or.inr (Or.inr (Or.inr (Or.inl h')))))
   ·exact Or.inr h'
  ·exact Or.inl (Or.inr (Or.inr (Or.inr (Or.inr (Or.inr (Or.inl e))))))
  ·exact Or.inl (Or.inr (Or.inr (Or.inr (Or.inr (Or.inr (Or.inr e))))))
 ·have e1:bS A=A.hs.length:=by unfold bS;rw [if_neg hl]
  rw [e1] at k;rw [e1];have hcs:(aG A).cs.length=A.cs.length:=by rw [Fx]
  have hhs:(aG A).hs.length=A.hs.length+1:=by unfold aG;rw [if_neg hl];simp
  have hh0:=M.cells.ok.h0;have hvl:vs.length≤65536:=by rw [M.len];omega
  have hlen:=M.len;have hpos:(0:Int)<(A.hs.length:Int):=ω;have HM:=χ M;have HI:=χ (ψ I2 (ψ eF (ψ (OH I M.cells.ok) hlen)));clear M I e1 I2 eF hlen
  go_enter Tryz.func179,Tryz.ntmps179
  go_wp2_with (first
   | ((go_at_call 156;(with_reducible refine (k).mono ?_));rintro e w1 ⟨rfl,F1,hC,hu,hF⟩;(have d3:=hu.kept HM.out.h2 HM.out.d1.1);(have f3:=hu.aO HM.out.h2 HM.out.d1.1 (HM.out.head.free 2));(have ho1:=ay HM.out.rows hu (fun g hg=>by simp [Value.ownBlock] at hg;subst hg;exact HM.out.d1.2.2.2));(have g0:B.n0≠gr:=HM.out.d2.2.2.1);(have gl:=Nat.lt_of_lt_of_le HM.out.C8 hu.size))
   | ((at_builtin;refine aC rfl _ _ 51 rfl 0 26 (.slice none 0 0) 1 24 Tryz.underlying51 Nq rfl δ _ _ _ rfl (ho1) [.slice none 0 0] rfl (by simp [Value.oneCell']) (by first|rfl|(rw [World.size_alloc];rfl)) μ ω ω ?_;intro v2 w2 ho2 hu2 hsep2);(have hu2:aa [gr] w1 w2:=hu2);obtain ⟨gr1,cr1,ev,_⟩:=bY ho2 ω;subst ev;(have d4:=hu2.kept d3 ζ);(have f4:=hu2.aO d3 ζ f3)))
  go_ret;have hM:=HM.out;have hlt:=hM.lt;have f:=hM.d1;have q:=hM.d2;have hws:=hu.size;have hw3:aa [B.n0] w2 (w2.setCell ⟨B.n0,2,none⟩ (.slice (some ⟨gr1,0,none⟩) (vs.length+1) cr1)):=β;have hg1:gr1=gr∨w1.heap.size<gr1:=by
   rcases hsep2 with h|h
   ·exact Or.inl (Option.some.inj h)
   ·exact Or.inr (h gr1 rfl)
  have hC1:=hC.lt;have l0:=hlt B.n0 (by simp [BB.blk])
  have l1:=hlt B.bt (by simp [BB.blk])
  have l2:=hlt B.ba (by simp [BB.blk])
  have l4:=hM.C8;have hnF:∀y,y<w.heap.size→y∉F→y∉F1:=fun y hy hn hm=>by rcases hF y hm with h'|h';exact hn h';omega
  have hgF:gr1∉F1:=by
   rcases hg1 with e|e
   ·rw [e];exact hnF gr l4 f.2.2.2
   ·exact fun hm=>by have:=hC1 gr1 hm;omega
  have hgn:∀y,y<w.heap.size→y≠gr→y≠gr1:=fun y hy hn e=>by
   rcases hg1 with e2|e2
   ·exact hn (e.trans e2)
   ·omega
  have hcs:=hcs;have hv:(vs++[Value.slice none 0 0]).length=vs.length+1:=σ;have hin:=HI.out.2.2.1;have hhd:=((hM.head.upd hu f.1).upd hu2 ζ).set 2 (.slice (some ⟨gr1,0,none⟩) (vs.length+1) cr1);have oldv:∀j,j<vs.length+1→∀g,((vs++[Value.slice none 0 0]).getD j undef).ownBlock=some g→j<vs.length∧(vs.getD j undef).ownBlock=some g:=fun j hj g hg=>by
   rw [yU] at hg
   by_cases e:j<vs.length
   ·rw [if_pos e] at hg;exact ⟨e,hg⟩
   ·rw [if_neg e,if_pos ω] at hg;cases hg
  have hBM:fV (w2.setCell ⟨B.n0,2,none⟩ (.slice (some ⟨gr1,0,none⟩) (vs.length+1) cr1)) B F1 gr1 cr1 lo (aG A) st S (vs++[.slice none 0 0]) G.R:=by
   refine ⟨?_,?_,?_,?_,by rw [hv,hhs,HI.out.2.2.2],fun j hj=>?_,⟨hnF _ l0 f.1,hnF _ l1 f.2.1,hnF _ l2 f.2.2.1,hgF⟩,⟨q.1,q.2.1,hgn _ l0 q.2.2.1,hgn _ l1 q.2.2.2.1,hgn _ l2 q.2.2.2.2⟩,fun g hg=>?_,fun j g hj hg=>?_,fun j k g hj hk hne hg=>?_⟩
   ·rw [hv];refine hhd.ext (fun j hj=>?_)
    rcases (ω:j=0∨j=1∨j=2) with rfl|rfl|rfl<;>rfl
   ·exact (hC.upd hu2 (fun y hy=>by simp at hy;rw [hy];exact hnF gr l4 f.2.2.2)).upd hw3 (fun y hy=>by simp at hy;rw [hy];exact hnF _ l0 f.1)
   ·rw [hcs];exact ((hM.gM.upd hu f.2.1 f.2.2.1 (fun g hg=>(hM.d3 g hg).2.2)).upd hu2 (by simp;exact q.2.2.2.1) (by simp;exact q.2.2.2.2) (fun g hg hm=>by simp at hm;exact (hM.d3 g hg).2.1 hm)).upd hw3 (by simp;exact Ne.symm q.1) (by simp;exact Ne.symm q.2.1) (fun g hg hm=>by simp at hm;exact (hM.d3 g hg).1 hm)
   ·rw [hv];refine ay (iA ho2 (Nat.zero_le _)) hw3 (fun g hg hm=>?_)
    simp [Value.ownBlock] at hg hm;exact hgn _ l0 q.2.2.1 ω
   ·rw [hv] at hj;rw [yU]
    by_cases e:j<vs.length
    ·rw [if_pos e];exact (((hM.each j e).upd hu (fun g hg=>(hM.d4 j g e hg).2.2.2.2.1)).upd hu2 (fun g hg hm=>by simp at hm;exact (hM.d4 j g e hg).2.2.2.1 hm)).upd hw3 (fun g hg hm=>by simp at hm;exact (hM.d4 j g e hg).1 hm)
    ·obtain rfl:j=vs.length:=ω;rw [if_neg e,if_pos rfl,HI.out.2.2.2,hin];exact aQ.nil _ _
   ·rw [hcs] at hg;have:=hM.d3 g hg;have hgl:=(hM.gM.lD hg).2;exact ⟨this.1,hgn g hgl this.2.1,hnF g hgl this.2.2⟩
   ·rw [hv] at hj;obtain ⟨e,hg⟩:=oldv j hj g hg;have:=hM.d4 j g e hg;have hgl:=hM.uL e hg;rw [hcs];exact ⟨this.1,this.2.1,this.2.2.1,hgn g hgl this.2.2.2.1,hnF g hgl this.2.2.2.2.1,this.2.2.2.2.2⟩
   ·rw [hv] at hj hk;obtain ⟨e,hg⟩:=oldv j hj g hg;intro h2;obtain ⟨e2,h2⟩:=oldv k hk g h2;exact hM.d5 j k g e e2 hne hg h2
  refine ⟨rfl,B.blk F1 gr1 (aG A).cs.length S (vs++[.slice none 0 0]),⟨⟨B,F1,gr1,cr1,lo,S,_,rfl,rfl,hBM,HI.out.2.1⟩,HI.out.1⟩,((hu.mono uO).trans (hu2.mono (fun y hy=>by simp at hy;subst hy;simp [BB.blk]))).trans (hw3.mono (fun y hy=>by simp at hy;subst hy;simp [BB.blk])),fun y hy=>?_⟩
  rw [hcs] at hy;simp only [BB.blk,List.mem_cons,List.mem_append] at hy ⊢;rcases hy with e|e|e|e|e|e|e
  ·exact Or.inl (Or.inl e)
  ·exact Or.inl (Or.inr (Or.inl e))
  ·exact Or.inl (Or.inr (Or.inr (Or.inl e)))
  ·rcases hg1 with e2|e2
   ·exact Or.inl (Or.inr (Or.inr (Or.inr (Or.inl (e.trans e2)))))
   ·exact Or.inr ω
  ·rcases hF y e with h'|h'
   ·exact Or.inl (Or.inr (Or.inr (Or.inr (Or.inr (Or.inl h')))))
   ·exact Or.inr h'
  ·exact Or.inl (Or.inr (Or.inr (Or.inr (Or.inr (Or.inr (Or.inl e))))))
  ·obtain ⟨j,hj,hg⟩:=gV.1 e;rw [hv] at hj;obtain ⟨e3,hg⟩:=oldv j hj y hg;exact Or.inl (Or.inr (Or.inr (Or.inr (Or.inr (Or.inr (Or.inr (gV.2 ⟨j,e3,hg⟩)))))))
end
theorem LC (n:Nat) (w:World) (h:n≤65536) :
  Calls Tryz.prog 94 #[.int .i64 (n:Int)] w fun e w'=>∃p FF,e=.returned (.tuple #[.pointer (some ⟨p,0,none⟩),.int .i64 0])∧Di w' p FF (NS.new n) 0 BG.none∧aa [] w w'∧∀x,x∈FF→w.heap.size≤x:=by
 have k:=kY n w h;have kc:=fun W=>Ac n W h
 go_enter Tryz.func94,Tryz.ntmps94
 go_wp2_with (first
  | ((go_at_call 107;(with_reducible refine (k).mono ?_));rintro e w1 ⟨c,F,rfl,hC,hu1,hF⟩)
  | ((go_at_call 109;(with_reducible refine (kc _).mono ?_));rintro e w2 ⟨bt,ba,rfl,hFo,hu2,hbt,hba⟩))
 go_ret2;have hn:(NS.new n).cs.length=n:=by simp [NS.new]
 obtain ⟨w3,hw3⟩:∃w3,w3=w2.alloc (.cells #[.slice none 0 0] 26):=⟨_,rfl⟩
 have hs3:w3.heap.size=w2.heap.size+1:=by rw [hw3];simp
 have u3:aa [] w2 w3:=by rw [hw3];exact (aa.refl _ _).alloc _
 have o3:w3.ownsRow 0 26 1 (.slice (some ⟨w2.heap.size,0,none⟩) 1 1) 1 [.slice none 0 0]:=by rw [hw3];exact jE w2 [.slice none 0 0] 26 0 1 1 rfl (Nat.zero_le _) μ
 rw [←hw3];have hR:=dm w3 [Value.pointer (some ⟨c,0,none⟩),.pointer (some ⟨bt,0,none⟩),.slice (some ⟨w2.heap.size,0,none⟩) 1 1] 212;rw [hs3] at hR;have u4:aa [] w3 (w3.alloc (.cells #[.pointer (some ⟨c,0,none⟩),.pointer (some ⟨bt,0,none⟩),.slice (some ⟨w2.heap.size,0,none⟩) 1 1] 212)):=(aa.refl _ _).alloc _;have z1:=hu1.size;have z2:=hu2.size;have hlF:=hC.lt;have hb1:=hFo.head.lt;have hb2:=hFo.row.lt;have hFn:∀y,w1.heap.size≤y→y∉F:=fun y hy hm=>by have:=hlF y hm;omega
 have hno:∀m g,g∉CS.none.blk m:=fun m g hg=>by
  obtain ⟨y,_,e⟩:=(CS.iF _ m g).1 hg;cases e
 have hv0:∀h,h < [Value.slice none 0 0].length→[Value.slice none 0 0].getD h undef=Value.slice none 0 0:=fun h hh=>by
  have:h=0:=by simp at hh;omega
  subst this;rfl
 have hBM:fV (w3.alloc (.cells #[.pointer (some ⟨c,0,none⟩),.pointer (some ⟨bt,0,none⟩),.slice (some ⟨w2.heap.size,0,none⟩) 1 1] 212)) ⟨w2.heap.size+1,c,bt,ba⟩ F w2.heap.size 1 w2.heap.size (NS.new n) 0 CS.none [.slice none 0 0] BG.none.R:=by
  refine ⟨hR,hC.aj (hu2.trans (u3.trans u4)),by rw [hn];exact hFo.aj (u3.trans u4),ay o3 u4 σ,rfl,fun h hh=>by rw [hv0 h hh];exact aQ.nil _ _,⟨hFn _ (by simp only;omega),hFn _ (by simp only;omega),hFn _ (by simp only;omega),hFn _ ω⟩,⟨?_,?_,?_,?_,?_⟩,fun g hg=>absurd hg (hno _ g),fun h g hh hg=>(by rw [hv0 h hh] at hg;cases hg),fun h k g hh hk _ hg=>(by rw [hv0 h hh] at hg;cases hg)⟩
  all_goals simp only;omega
 refine ⟨w2.heap.size+1,_,by simp [hs3],⟨⟨⟨w2.heap.size+1,c,bt,ba⟩,F,w2.heap.size,1,w2.heap.size,CS.none,[.slice none 0 0],rfl,rfl,hBM,rfl⟩,OC n⟩,hu1.trans (hu2.trans (u3.trans u4)),fun y hy=>?_⟩
 simp only [BB.blk,List.mem_cons,List.mem_append] at hy;rcases hy with e|e|e|e|e|e|e
 ·omega
 ·omega
 ·omega
 ·omega
 ·exact hF y e
 ·exact absurd e (hno _ y)
 ·obtain ⟨j,hj,hg⟩:=gV.1 e;rw [hv0 j hj] at hg;cases hg
theorem CX (p c:Nat):∀W:World,W.cell? ⟨p,0,none⟩=some (.pointer (some ⟨c,0,none⟩))→(method 429 174 (.pointer (some ⟨p,0,none⟩)) "Has").run Tryz.prog W=.ok (139,.pointer (some ⟨c,0,none⟩)) W:=(by intro W h;unfold method;have hm:∃m,(Array.find? (fun x=>x.name == "Has") Tryz.t174.methods)=some m∧m.path.toList=[⟨212,0,true⟩]∧m.func=some (139,true)∧m.path.isEmpty=false:=⟨(Array.find? (fun x=>x.name == "Has") Tryz.t174.methods).get!,by kernel_rfl,by kernel_rfl,by kernel_rfl,by kernel_rfl⟩;obtain ⟨m,h1,h2,h3,h4⟩:=hm;go_simp;simp only [follow,Place.get];go_simp;(try unfold receiverAt);(try simp only [Place.get]);(try go_simp))
theorem yg (p c:Nat):∀W:World,W.cell? ⟨p,0,none⟩=some (.pointer (some ⟨c,0,none⟩))→(method 429 174 (.pointer (some ⟨p,0,none⟩)) "Entry").run Tryz.prog W=.ok (137,.pointer (some ⟨c,0,none⟩)) W:=(by intro W h;unfold method;have hm:∃m,(Array.find? (fun x=>x.name == "Entry") Tryz.t174.methods)=some m∧m.path.toList=[⟨212,0,true⟩]∧m.func=some (137,true)∧m.path.isEmpty=false:=⟨(Array.find? (fun x=>x.name == "Entry") Tryz.t174.methods).get!,by kernel_rfl,by kernel_rfl,by kernel_rfl,by kernel_rfl⟩;obtain ⟨m,h1,h2,h3,h4⟩:=hm;go_simp;simp only [follow,Place.get];go_simp;(try unfold receiverAt);(try simp only [Place.get]);(try go_simp))
theorem LW (p:Nat):∀W:World,(method 429 174 (.pointer (some ⟨p,0,none⟩)) "Make").run Tryz.prog W=.ok (179,.pointer (some ⟨p,0,none⟩)) W:=fun _=>by kernel_rfl
theorem Eg (p:Nat):∀W:World,(method 429 174 (.pointer (some ⟨p,0,none⟩)) "Insert").run Tryz.prog W=.ok (178,.pointer (some ⟨p,0,none⟩)) W:=fun _=>by kernel_rfl
theorem Ni (p:Nat):∀W:World,(method 429 174 (.pointer (some ⟨p,0,none⟩)) "Min").run Tryz.prog W=.ok (181,.pointer (some ⟨p,0,none⟩)) W:=fun _=>by kernel_rfl
theorem BK (p:Nat):∀W:World,(method 429 174 (.pointer (some ⟨p,0,none⟩)) "Extract").run Tryz.prog W=.ok (177,.pointer (some ⟨p,0,none⟩)) W:=fun _=>by kernel_rfl
theorem AY (p:Nat):∀W:World,(method 429 174 (.pointer (some ⟨p,0,none⟩)) "Decrease").run Tryz.prog W=.ok (175,.pointer (some ⟨p,0,none⟩)) W:=fun _=>by kernel_rfl
theorem uo {w w':World} {p:Nat} {F S:List Nat} {A:NS} {st:Nat} {G:BG} (h:Di w p F A st G) (hu:aa S w w') (hS:∀x,x∈S→x∉F):Di w' p F A st G:=by
 obtain ⟨⟨B,F1,gr,cr,lo,S1,vs,rfl,rfl,M,eF⟩,I⟩:=h;exact ⟨⟨B,F1,gr,cr,lo,S1,vs,rfl,rfl,M.upd hu hS,eF⟩,I⟩
theorem O6 {w:World} {p:Nat} {F:List Nat} {A:NS} {st:Nat} {G:BG} (h:Di w p F A st G):∀x,x∈F→x<w.heap.size:=by
 obtain ⟨⟨B,F1,gr,cr,lo,S1,vs,rfl,rfl,M,eF⟩,I⟩:=h;exact M.lt
theorem O8 {w:World} {p:Nat} {F:List Nat} {A:NS} {st:Nat} {G:BG} (h:Di w p F A st G):A.Ok:=by
 obtain ⟨⟨B,F1,gr,cr,lo,S1,vs,rfl,rfl,M,eF⟩,I⟩:=h;exact M.cells.ok
theorem NF {w:World} {p:Nat} {F:List Nat} {A:NS} {st:Nat} {G:BG} (h:Di w p F A st G):∃c F1,w.cell? ⟨p,0,none⟩=some (.pointer (some ⟨c,0,none⟩))∧az w c F1 A st:=by
 obtain ⟨⟨B,F1,gr,cr,lo,S1,vs,rfl,rfl,M,eF⟩,I⟩:=h;exact ⟨B.c,F1,M.h0,M.cells⟩
def BnQ (w:World) (p:Nat) (F:List Nat) (A:NS):Prop:=∃st G,Di w p F A st G
noncomputable def vO:fJ where
 ty:=174
 at_:=BnQ
 upd:=fun h hu hS=>by
  obtain ⟨st,G,hL⟩:=h;exact ⟨st,G,uo hL hu hS⟩
 lt:=fun h=>by
  obtain ⟨st,G,hL⟩:=h;exact O6 hL
 ok:=fun h=>by
  obtain ⟨st,G,hL⟩:=h;exact O8 hL
 make:=fun {w p F A} h=>by
  obtain ⟨st,G,hL⟩:=h;refine aN 179 (fun _ _=>by kernel_rfl) (LW _) (fun W hW=>?_)
  refine (IL (uo hL hW σ)).mono ?_;rintro e w' ⟨rfl,F',hA,hu,hf⟩;exact ⟨rfl,F',⟨_,_,hA⟩,hu,hf⟩
 insert:=fun {w p F A} g y k s hk hB h=>by
  obtain ⟨st,G,hL⟩:=h;refine aN 178 (fun _ _=>by kernel_rfl) (Eg _) (fun W hW=>?_)
  refine (Bv (uo hL hW σ) g y k s hk hB).mono ?_;rintro e w' ⟨rfl,F',hA,hu,hf⟩;exact ⟨rfl,F',⟨_,_,hA⟩,hu,hf⟩
 min:=fun {w p F A} y hB h=>by
  obtain ⟨st,G,hL⟩:=h;refine aN 181 (fun _ _=>by kernel_rfl) (Ni _) (fun W hW=>?_)
  have hLW:=uo hL hW σ;obtain ⟨⟨B,F1,gr,cr,lo,S1,vs,rfl,rfl,M,eF⟩,I⟩:=hLW;refine (BC M I (y:Int)).mono ?_;rintro e w' ⟨rfl,hM2,hu⟩;exact ⟨rfl,Goes.stay ⟨_,_,⟨B,F1,gr,cr,lo,S1,vs,rfl,rfl,hM2,eF⟩,I⟩ (hu.mono (fun y hy=>by simp at hy;subst hy;exact uO _ M.cells.mem))⟩
 extract:=fun {w p F A} y m hm h=>by
  obtain ⟨st,G,hL⟩:=h;refine aN 177 (fun _ _=>by kernel_rfl) (BK _) (fun W hW=>?_)
  have hLW:=uo hL hW σ;have e2:qM A (y:Int)=aL A (m:Int):=by unfold qM;rw [hm]
  have k:=zR hLW (y:Int);rw [e2,hm] at k;refine k.mono ?_;rintro e w' ⟨rfl,F',hA,hu,hf⟩;exact ⟨rfl,F',⟨_,_,hA⟩,hu,hf⟩
 lQ:=fun {w p F A} y k s hk hB h=>by
  obtain ⟨st,G,hL⟩:=h;refine aN 175 (fun _ _=>by kernel_rfl) (AY _) (fun W hW=>?_)
  have hLW:=uo hL hW σ;refine (Jl hLW y k s hk hB).mono ?_;rintro e w' ⟨rfl,F',hA,hu,hf⟩;exact ⟨rfl,F',⟨_,_,hA⟩,hu,hf⟩
 has:=fun x h=>by
  obtain ⟨st,G,hL⟩:=h;obtain ⟨c,F1,h0,hC⟩:=NF hL;exact fK 139 (fun _ _=>by kernel_rfl) h0 (CX _ _) (fun W hW=>iq (hC.aj hW) x)
 entry:=fun {w p F A} x h=>by
  obtain ⟨st,G,hL⟩:=h;obtain ⟨c,F1,h0,hC⟩:=NF hL;refine fK 137 (fun _ _=>by kernel_rfl) h0 (yg _ _) (fun W hW=>?_)
  cases hin:bD A x with
  | false=>simpa using jB (hC.aj hW) x hin
  | true=>
   obtain ⟨y,rfl⟩:=nJ hin;simpa using iI (hC.aj hW) y hin
theorem Dz (p:Nat) (w:World):Calls Tryz.prog 93 #[.pointer (some ⟨p,0,none⟩),.int .i64 0] w fun e w'=>e=.returned (.tuple #[.iface 174 (.pointer (some ⟨p,0,none⟩)),.int .i64 0])∧w'=w:=by
 go_enter Tryz.func93,Tryz.ntmps93
 go_wp2;go_ret2;exact ⟨rfl,rfl⟩
theorem JQ (n:Nat) (hn:n≤65536):jX vO 3 0 n:=by
 intro w;have kn:=fun W=>LC n W hn
 have km:=Dz;have hty:vO.ty=174:=rfl;have hat:∀w' p FF,Di w' p FF (NS.new n) 0 BG.none→vO.at_ w' p FF (NS.new n):=fun w' p FF h=>⟨_,_,h⟩
 generalize vO=K at *
 rw [hty]
 go_enter Tryz.func81,Tryz.ntmps81
 go_wp2_with (first
  | ((go_at_call 94;(with_reducible refine (kn _).mono ?_));rintro e w1 ⟨pn,FF,rfl,hS,hu1,hf⟩)
  | ((go_at_call 93;(with_reducible refine (km _ _).mono ?_));rintro e w2 ⟨rfl,rfl⟩)
  | fail)
 go_ret2;exact ⟨pn,FF,rfl,hat _ _ _ hS,aa.trans β hu1,fun x hx=>by have:=hf x hx;simp at this;omega⟩
end Go.Proofs.YtklibcncmbofpaaGreat
