/-
  Lemmas for RankSorts: Pa3, Pa8, Pa7, Pa5, PaR. Conditions: those of each lemma.
-/
import Derived.Deep.LoopGhost
import Derived.Test.YtklibcncmbofpaaGreatP36
set_option maxHeartbeats 8000000
set_option maxRecDepth 10000
set_option linter.unusedVariables false
set_option linter.unusedSimpArgs false
namespace Go.Proofs.YtklibcncmbofpaaGreat
open Go Go.RowKit
theorem uz {a b:List Nat} (h:(a++b).Nodup):(b++a).Nodup:=(List.perm_append_comm (l₁:=a) (l₂:=b)).nodup_iff.1 h
theorem kW {S:TS} {p z:Int} {t:BT} {n:Nat} (h:bG S p z t) (hl:∀y,y∈t.nodes→y<n):z=-1∨(0≤z∧z<n):=by
 rw [h.root]
 by_cases e:t=.nil
 ·left;rw [e];rfl
 ·right;have h1:=bg e;have:=hl _ h1.1;omega
section
variable {w:World} {B:PB} {F:List Nat} {gt ct:Nat} {A:NS} {st:Nat} {S:TS} {ah:List Int}
theorem sH (h:eZ w B F gt ct A st S ah) (a b:BT) (ha:bG S (-1) a.root a) (hb:bG S (-1) b.root b) (la:Lone a) (lb:Lone b) (hn:(a.nodes++b.nodes).Nodup) (hin:∀z,z∈a.nodes++b.nodes→bD A (z:Int)=true) :
  Calls Tryz.prog 215 #[.pointer (some ⟨B.n0,0,none⟩),.int .i64 a.root,.int .i64 b.root] w fun e w'=>e=.returned (.int .i64 (bN A a b).root)∧aa [B.ba,B.c] w w'∧∃st' S',eZ w' B F gt ct A st' S' ah∧bG S' (-1) (bN A a b).root (bN A a b)∧∀z,z∉a.nodes++b.nodes→S.at S' z:=by
 cases a with
 | nil=>
  rw [qL];refine (sK b.root w B.n0).mono ?_;rintro e w' ⟨rfl,rfl⟩;exact ⟨rfl,aa.refl _ _,st,S,h,hb,fun z _=>⟨rfl,rfl,rfl⟩⟩
 | node x l r=>
  cases b with
  | nil=>
   rw [nS];refine (Bb (BT.node x l r).root w B.n0).mono ?_;rintro e w' ⟨rfl,rfl⟩;exact ⟨rfl,aa.refl _ _,st,S,h,ha,fun z _=>⟨rfl,rfl,rfl⟩⟩
  | node y m q=>
   have e1:r=.nil:=la;have e2:q=.nil:=lb;subst e1 e2;have hlt:∀z,z∈(BT.node x l .nil).nodes++(BT.node y m .nil).nodes→z<A.cs.length:=fun z hz=>((af _ _).1 (hin z hz)).1
   have hxy:x≠y:=fun e=>by
    rw [List.nodup_append] at hn;exact hn.2.2 x (by simp [BT.nodes]) y (by simp [BT.nodes]) e
   have hrx:=kW (n:=A.cs.length) ha.2.2.1 (fun z hz=>hlt z (by simp [BT.nodes,hz]))
   have hry:=kW (n:=A.cs.length) hb.2.2.1 (fun z hz=>hlt z (by simp [BT.nodes,hz]))
   have hne:∀ {u:Nat} {t t':BT},S.l u=t.root→(∀z,z∈t.nodes→z∉t'.nodes)→∀v,v∈t'.nodes→S.l u≠(v:Int):=fun {u t t'} h1 h2 v hv e=>by
    rw [h1] at e;have h6:t≠.nil:=fun e'=>by rw [e'] at e;simp [BT.root] at e
    have h7:=(bg h6).1;rw [e,π] at h7;exact h2 v h7 hv
   have hnn:=hn;rw [List.nodup_append] at hnn;have hnx:S.l x≠(y:Int):=hne (t':=.node y m .nil) ha.2.2.1.root (fun z hz hm=>hnn.2.2 z (by simp [BT.nodes,hz]) z hm rfl) y (by simp [BT.nodes])
   have hny:S.l y≠(x:Int):=hne (t':=.node x l .nil) hb.2.2.1.root (fun z hz hm=>hnn.2.2 z hm z (by simp [BT.nodes,hz]) rfl) x (by simp [BT.nodes])
   refine (Cr h x y (hin x (by simp [BT.nodes])) (hin y (by simp [BT.nodes])) hxy hrx hry hnx hny).mono ?_
   rintro e w' ⟨rfl,⟨st',hM⟩,hu⟩;rw [nO]
   by_cases hc:bH A y x
   ·simp only [if_pos hc] at hM ⊢;obtain ⟨h1,h2⟩:=y7 hb ha (uz hn);exact ⟨rfl,hu,st',_,hM,h1,fun z hz=>h2 z (fun hm=>hz (by rw [List.mem_append] at hm ⊢;exact hm.symm))⟩
   ·simp only [if_neg hc] at hM ⊢;obtain ⟨h1,h2⟩:=y7 ha hb hn;exact ⟨rfl,hu,st',_,hM,h1,h2⟩
end
theorem Me:(Tryz.prog.info? 217).map (fun i=>(i.zero,i.size,i.bytes))=some (some (.agg #[.int .i64 0,.int .i64 0,.int .i64 0]),3,24):=by kernel_rfl
theorem IW (n:Nat):sM DZ (NS.new n) TS.none [-1] (fun _=>.nil):=Ae n
theorem Ho (n:Nat) (w:World) (h:n≤65536) :
  Calls Tryz.prog 96 #[.int .i64 (n:Int)] w fun e w'=>∃B F gt,e=.returned (.tuple #[.pointer (some ⟨B.n0,0,none⟩),.int .i64 0])∧j4 w' B F gt 1 (NS.new n) 0 (fun _=>.nil)∧aa [] w w'∧∀x,x∈B.blk F gt→w.heap.size≤x:=by
 have hcs:(NS.new n).cs.length=n:=by simp [NS.new]
 have HCS:=χ hcs;clear hcs
 go_enter Tryz.func96,Tryz.ntmps96
 go_wp2_with (first
  | ((go_at_call 107;(with_reducible refine (kY n _ h).mono ?_));rintro e w1 ⟨c,F,rfl,hC,hu1,hF⟩)
  | (at_make;refine wpList_make_row rfl _ 213 rfl 217 (.agg #[.int .i64 0,.int .i64 0,.int .i64 0]) 3 24 Tryz.underlying213 Me n rfl ω μ ?_;intro w3 hr3 hu3))
 have l1:=hu1.size;have l3:=hu3.size;have l4:=hr3.lt;have l7:=hC.lt;have lc:=l7 c hC.mem;have e3:((w3.alloc (.cells #[.int .i64 (-1)] 3)).heap.size)=w3.heap.size+1:=by rw [World.size_alloc]
 have hv:aa [] w3 (w3.alloc (.cells #[.int .i64 (-1)] 3)):=(aa.refl _ _).alloc _;obtain ⟨W4,hW4⟩:∃W4,W4=(w3.alloc (.cells #[.int .i64 (-1)] 3)).alloc (.cells #[.pointer (some ⟨c,0,none⟩),.slice (some ⟨w1.heap.size,0,none⟩) n n,.slice (some ⟨w3.heap.size,0,none⟩) 1 1] 215):=⟨_,rfl⟩
 have hw:aa [] w3 W4:=by rw [hW4];exact hv.alloc _
 have hh:=dm (w3.alloc (.cells #[.int .i64 (-1)] 3)) [.pointer (some ⟨c,0,none⟩),.slice (some ⟨w1.heap.size,0,none⟩) n n,.slice (some ⟨w3.heap.size,0,none⟩) 1 1] 215;rw [e3] at hh;rw [←hW4] at hh;have hi:IZ W4 w3.heap.size 1 [-1]:=by rw [hW4];exact (IZ.lit w3 [-1] σ).upd ((aa.refl [] _).alloc _) σ
 have hC4:az W4 c F (NS.new n) 0:=(hC.aj hu3).aj hw;have hr4:=hr3.upd hw σ;have u4:aa [] w W4:=(hu1.trans hu3).trans hw;have hF':∀x,x∈F→x<w1.heap.size:=l7
 have hnF:∀x,w1.heap.size≤x→x∉F:=fun x hx hm=>by have:=hF' x hm;omega
 have l5:=hw.size;rw [←hW4];clear hW4 e3 hv hu3 hr3 hw hC;have H4:=χ (ψ hC4 (ψ hi (ψ u4 (ψ hF (ψ hF' hnF)))));clear hC4 hi u4 hF hF' hnF hu1 l7;go_wp2
 go_loopw [7,27] (fun v7 i wr=>∃ (k:Nat) (f:Nat→Value),k≤n∧i=.int .i64 k∧aI wr (w3.heap.size+1) 215 3 (fun j=>[Value.pointer (some ⟨c,0,none⟩),.slice (some ⟨w1.heap.size,0,none⟩) n n,.slice (some ⟨w3.heap.size,0,none⟩) 1 1].getD j undef)∧aI wr w1.heap.size 217 (n*3) f∧(∀j,j<k*3→f j=.int .i64 (-1))∧aa [w1.heap.size] W4 wr) (fun _ i _=>n-(intOf i).toNat)
 case atStart=>exact ⟨0,_,ω,rfl,hh.ext (fun j hj=>by (have h3:j<3:=by simpa using hj);rcases (ω:j=0∨j=1∨j=2) with rfl|rfl|rfl<;>rfl),hr4,ω,aa.refl _ _⟩
 case round=>
  obtain ⟨k,f,hk,rfl,hH,hR,hf,hu⟩:=hrel;rename World=>wr
  by_cases hkn:k<n
  ·have c0:=hH.cellAt 1 ω rfl;have d0:=hR.cell (k*3) ω;have d1:=hR.cell (k*3+1) ω;have d2:=hR.cell (k*3+2) ω;have e0:=hR.free (k*3);have e1:=hR.free (k*3+1);have e2:=hR.free (k*3+2);have HF:=χ (ψ hf (ψ hH (ψ hR hu)));have hkI:decide ((k:Int)<(n:Int))=true:=ζ;clear hf hH hR hu hh hr4;go_wp2
   go_roundw
   case rel=>
    obtain ⟨hf,hH,hR,hu⟩:=HF.out;refine ⟨k+1,_,ω,by go_num,((hH.far _ _ ζ).far _ _ ζ).far _ _ ζ,((hR.set _ _).set _ _).set _ _,fun j hj=>?_,((hu.setCell (Or.inl σ) _).setCell (Or.inl σ) _).setCell (Or.inl σ) _⟩
    show (if j=k*3+2 then _ else if j=k*3+1 then _ else if j=k*3 then _ else f j)=_
    split
    ·rfl
    ·split
     ·rfl
     ·split
      ·rfl
      ·exact hf j ω
   case measure=>simp [intOf];omega
  ·obtain rfl:k=n:=ω;have hkI:decide ((k:Int)<(k:Int))=false:=σ;have HF:=χ (ψ hf (ψ hH (ψ hR hu)));clear hf hH hR hu hh hr4;go_wp2;go_ret2;obtain ⟨hf,hH,hR,hu⟩:=HF.out;obtain ⟨hC4,hi,u4,hF,hF',hnF⟩:=H4.out;have hcs:=HCS.out
   refine ⟨⟨w3.heap.size+1,c,w1.heap.size⟩,F,w3.heap.size,rfl,⟨TS.none,[-1],⟨by rw [hcs];exact hH,hC4.upd hu (fun x hx=>by simp at hx;rw [hx];exact hnF _ (Nat.le_refl _)),?_,hi.upd hu ζ,rfl,⟨hnF _ (by simp only;omega),hnF _ (by simp only;omega),hnF _ ω⟩,⟨by simp only;omega,by simp only;omega,by simp only;omega⟩⟩,IW _,fun _=>trivial⟩,u4.joined hu (fun x hx=>Or.inr (by simp at hx;omega)),fun x hx=>?_⟩
   ·rw [hcs];exact hR.ext (fun j hj=>by rw [hf j hj];unfold bU TS.none;simp)
   ·simp only [PB.blk,List.mem_cons] at hx;rcases hx with rfl|rfl|rfl|hx
    ·omega
    ·omega
    ·omega
    ·exact hF x hx
theorem sM.Oi {A:NS} {S:TS} {ah:List Int} {tr:Nat→BT} (h:sM DZ A S ah tr) (hL:∀h,Lone (tr h)) {g:Nat} (hg:0<cu A g):∃m:Nat,(tr g).root=m∧bL A g=some m:=by
 obtain ⟨x,hx,hi,h0⟩:=dG.1 hg;have hxm:x∈(tr g).nodes:=(h.mem g x).2 ⟨ω,hx,hi⟩;cases ht:tr g with
 | nil=>rw [ht] at hxm;cases hxm
 | node m l r=>
  have hm:=(h.mem g m).1 (by rw [ht];simp [BT.nodes])
  have hH:cO A (tr g):=h.heap g;have hl:=hL g;rw [ht] at hH hl;have hr:r=.nil:=hl;subst hr;refine ⟨m,rfl,(dM h0).2 ⟨hm.2.1,hm.2.2,fun y hy hyi=>?_⟩⟩
  have hym:=(h.mem g y).2 ⟨ω,hy,hyi⟩;rw [ht] at hym;exact Po hH y hym
section
variable {w:World} {B:PB} {F:List Nat} {gt ct:Nat} {A:NS} {st:Nat} {tr:Nat→BT}
theorem xH (h:j4 w B F gt ct A st tr) (g:Nat) (hn:0<cu A g) :
  Calls Tryz.prog 213 #[.pointer (some ⟨B.n0,0,none⟩),.int .i64 (g:Int)] w fun e w'=>∃m:Nat,bL A g=some m∧(tr g).root=m∧e=.returned (.tuple #[.int .i64 (m:Int),.bool true])∧w'=w:=by
 obtain ⟨S,ah,hM,hI,hL⟩:=h;obtain ⟨m,hm,hf⟩:=hI.Oi hL hn;obtain ⟨x,hx,hi,h0⟩:=dG.1 hn;have ok:=hM.cells.ok;have hgl:g<A.hs.length:=by have:=(ok.nat x hx).2;omega
 have hAh:=ok.h1;have k:=mQ hM.cells (g:Int) ω;have hh0:=hM.h0;have h3:=hM.h2;have d:=hM.ic.cell g (by rw [hM.gP];exact hgl)
 rw [hI.top g hgl,hm] at d;have htl:g<ah.length:=by rw [hM.gP];exact hgl
 generalize hl:cu A (g:Int)=n at *
 have hb:((n:Int) == 0)=false:=ζ;have HF:=χ (ψ hf hm);clear hM hI hm hf hx hi h0 ok hl
 go_enter Tryz.func213,Tryz.ntmps213
 go_wp2_with (first|(go_at_call 142;(with_reducible refine (k).mono ?_);rintro e w9 ⟨rfl,hw9⟩;rw [hw9];clear hw9 w9))
 go_ret2;exact ⟨m,HF.out.1,HF.out.2,rfl,rfl⟩
theorem Dn (h:j4 w B F gt ct A st tr) (x:Int) (hx:-9223372036854775808≤x∧x≤9223372036854775807) (hn:cu A x=0) :
  Calls Tryz.prog 213 #[.pointer (some ⟨B.n0,0,none⟩),.int .i64 x] w fun e w'=>e=.returned (.tuple #[.int .i64 0,.bool false])∧w'=w:=by
 obtain ⟨S,ah,hM, -⟩:=h;have k:=mQ hM.cells x hx;rw [hn] at k;have h0:=hM.h0;clear hM hn
 go_enter Tryz.func213,Tryz.ntmps213
 go_wp2_with (first|(go_at_call 142;(with_reducible refine (k).mono ?_);rintro e w9 ⟨rfl,hw9⟩;rw [hw9];clear hw9 w9))
 go_ret2;exact ⟨rfl,rfl⟩
theorem Gp (h:j4 w B F gt ct A st tr) (hl:65536<A.hs.length) :
  Calls Tryz.prog 211 #[.pointer (some ⟨B.n0,0,none⟩)] w fun e w'=>e=.returned (.int .i64 0)∧Goes (B.blk F gt) w w' (fun F'=>∃F1,F'=B.blk F1 gt∧j4 w' B F1 gt ct A st tr):=by
 obtain ⟨S,ah,hM,hI⟩:=h;have k:=fT hM.cells;have e1:bS A=0:=by unfold bS;rw [if_pos hl]
 have e2:aG A=A:=by unfold aG;rw [if_pos hl]
 rw [e1,e2] at k;have h0:=hM.h0;have HM:=χ hM;have HI:=χ hI;clear hM hI e1 e2
 go_enter Tryz.func211,Tryz.ntmps211
 go_wp2_with (first|((go_at_call 156;(with_reducible refine (k).mono ?_));rintro e w1 ⟨rfl,F1,hC,hu,hF⟩))
 go_ret
 exact ⟨rfl,B.blk F1 gt,⟨F1,rfl,S,ah,HM.out.bI hu hC hF rfl rfl,HI.out⟩,hu.mono (fun y hy=>by simp [PB.blk,hy]),fun x hx=>by
  simp only [PB.blk,List.mem_cons] at hx ⊢;rcases hx with rfl|rfl|rfl|hx
  ·simp
  ·simp
  ·simp
  ·rcases hF x hx with h|h
   ·simp [h]
   ·exact Or.inr h⟩
theorem Ex (h:j4 w B F gt ct A st tr) (hl:¬65536<A.hs.length) :
  Calls Tryz.prog 211 #[.pointer (some ⟨B.n0,0,none⟩)] w fun e w'=>e=.returned (.int .i64 (A.hs.length:Int))∧Goes (B.blk F gt) w w' (fun F'=>∃F1 gt1 ct1,F'=B.blk F1 gt1∧j4 w' B F1 gt1 ct1 (aG A) st tr):=by
 obtain ⟨S,ah,hM,hI,hL⟩:=h;have k:=fT hM.cells;have e1:bS A=A.hs.length:=by unfold bS;rw [if_neg hl]
 rw [e1] at k;have hcs:(aG A).cs.length=A.cs.length:=by unfold aG;rw [if_neg hl]
 have hhs:(aG A).hs.length=A.hs.length+1:=by unfold aG;rw [if_neg hl];simp
 have hI2:=hI.make hM.cells.ok hM.gP hl;have h0:=hM.h0;have hh0:=hM.cells.ok.h0;have HTN:=χ hM.gP;have htb:ah.length≤65536:=by rw [hM.gP];omega
 have HM:=χ hM;have HI:=χ (ψ hI2 hL);clear hM hI hL e1 hI2
 go_enter Tryz.func211,Tryz.ntmps211
 go_wp2_with (first
  | ((go_at_call 156;(with_reducible refine (k).mono ?_));rintro e w1 ⟨rfl,F1,hC,hu,hF⟩;(have d3:=hu.kept HM.out.h2 HM.out.aZ.1);(have f3:=hu.aO HM.out.h2 HM.out.aZ.1 (HM.out.head.free 2));(have ho1:=(HM.out.ic.upd hu HM.out.aZ.2.2).own);(have g0:B.n0≠gt:=HM.out.sep.2.1);(have gl:=(HM.out.ic.upd hu HM.out.aZ.2.2).lt))
  | ((at_builtin;refine aC rfl _ _ 26 rfl 0 3 (.int .i64 0) 1 8 Tryz.underlying26 cK rfl δ _ _ _ rfl (ho1) [.int .i64 (-1)] rfl (by simp [Value.oneCell']) (by first|rfl|(rw [World.size_alloc];rfl)) μ ω (ω) ?_;intro v2 w2 ho2 hu2 hsep2);(have hu2:aa [gt] w1 w2:=hu2);obtain ⟨gt1,ct1,ev,hI2, -⟩:=IZ.gJ (l:=ah++[-1]) (by rw [aS,List.length_append];exact ho2) σ;rw [List.length_append,List.length_singleton] at ev;subst ev;(have d4:=hu2.kept d3 ζ);(have f4:=hu2.aO d3 ζ f3)))
 go_ret;have hM:=HM.out;have hlt:=hM.lt;have f:=hM.aZ;have q:=hM.sep;have hw3:aa [B.n0] w2 (w2.setCell ⟨B.n0,2,none⟩ (.slice (some ⟨gt1,0,none⟩) (ah.length+1) ct1)):=β;have hg1:gt1=gt∨w1.heap.size<gt1:=by
  rcases hsep2 with h|h
  ·exact Or.inl (Option.some.inj h)
  ·exact Or.inr (h gt1 rfl)
 have hws:=hu.size;have hC1:=hC.lt;have l0:=hlt B.n0 (by simp [PB.blk])
 have l1:=hlt B.ba (by simp [PB.blk])
 have l4:=hlt gt (by simp [PB.blk])
 have hnF:∀y,y<w.heap.size→y∉F→y∉F1:=fun y hy hn hm=>by rcases hF y hm with h'|h';exact hn h';omega
 have hgF:gt1∉F1:=by
  rcases hg1 with e|e
  ·rw [e];exact hnF gt l4 f.2.2
  ·exact fun hm=>by have:=hC1 gt1 hm;omega
 have hb:w.heap.size≤gt1∨gt1=gt:=ω;have hhd:=((hM.head.upd hu f.1).upd hu2 ζ).set 2 (.slice (some ⟨gt1,0,none⟩) (ah.length+1) ct1);refine ⟨rfl,B.blk F1 gt1,⟨F1,gt1,ct1,rfl,S,ah++[-1],⟨?_,?_,?_,hI2.upd hw3 ζ,?_,⟨hnF _ l0 f.1,hnF _ l1 f.2.1,hgF⟩,⟨q.1,ω,ω⟩⟩,HI.out⟩,?_,fun y hy=>?_⟩
 ·rw [hcs,List.length_append,List.length_singleton];refine hhd.ext (fun j hj=>?_)
  rcases (ω:j=0∨j=1∨j=2) with rfl|rfl|rfl<;>rfl
 ·exact (hC.upd hu2 (fun y hy=>by simp at hy;rw [hy];exact hnF gt l4 f.2.2)).upd hw3 (fun y hy=>by simp at hy;rw [hy];exact hnF _ l0 f.1)
 ·rw [hcs];exact ((hM.ties.upd hu f.2.1).upd hu2 ζ).upd hw3 ζ
 ·rw [List.length_append,List.length_singleton,hhs,HTN.out]
 ·have u1:aa (B.blk F gt) w w1:=hu.mono (fun y hy=>by simp [PB.blk,hy])
  exact (u1.trans (hu2.mono (fun y hy=>by simp at hy;simp [PB.blk,hy]))).trans (hw3.mono (fun y hy=>by simp at hy;simp [PB.blk,hy]))
 ·simp only [PB.blk,List.mem_cons] at hy ⊢;rcases hy with rfl|rfl|rfl|hy
  ·simp
  ·simp
  ·rcases hb with h|h
   ·exact Or.inr h
   ·exact Or.inl (by simp [h])
  ·rcases hF y hy with h|h
   ·simp [h]
   ·exact Or.inr h
end
section
variable {w:World} {B:PB} {F:List Nat} {gt ct:Nat} {A:NS} {st:Nat} {S:TS} {ah:List Int}
theorem Ir (h:eZ w B F gt ct A st S ah) (x:Nat) (hin:bD A (x:Int)=true) (l:BT) (hl:bG S (x:Int) (S.l x) l) (hlt:∀z,z∈l.nodes→z<A.cs.length) (hsz:l.size≤65536) :
  Calls Tryz.prog 217 #[.pointer (some ⟨B.n0,0,none⟩),.int .i64 (x:Int)] w fun e w'=>∃ao co,e=.returned (.slice ao (aX l).length co)∧w'.ownsRow w.heap.size 3 1 (.slice ao (aX l).length co) (aX l).length (aH (bK (aX l)))∧eZ w' B F gt ct A st S ah∧aa F w w':=by
 have kh:=bZ h.cells x hin;have hx:=(af _ _).1 hin;have hA:=h.cells.ok.c1;have c0:=h.h0;have hM1:∀w1,az w1 B.c F A st→aa F w w1→eZ w1 B F gt ct A st S ah:=fun w1 hC hu=>h.bI hu hC (fun z hz=>Or.inl hz) rfl rfl
 have hxI:(x:Int)<(A.cs.length:Int):=ω;have HL:=χ (ψ hl hlt);clear h hl hlt
 go_enter Tryz.func217,Tryz.ntmps217
 go_upto_region 5 with (first
  | ((go_at_call 140;(with_reducible refine (kh).mono ?_));rintro e w1 ⟨rfl,hC,hu1⟩)
  | fail)
 have hM:=hM1 w1 hC hu1;have c1:=hM.h1;have dl:=hM.l x hx.1;have hs1:=hu1.size;have HM:=χ (ψ hM hu1);have hlr:=HL.out.1.root;rw [hlr] at dl;clear hM hM1 hC hu1 kh;go_wp2
 go_loopg [7,8] l.size (fun fu ov zv wr=>∃ (t:BT) (p:Int) (o:List Int) (k:Nat) (ao:Option Addr) (co:Nat),zv=.int .i64 t.root∧ov=.slice ao k co∧bG S p t.root t∧(∀z,z∈t.nodes→z<A.cs.length)∧wr.ownsRow w1.heap.size 3 1 (.slice ao k co) k (aH o)∧o++bK (aX t)=bK (aX l)∧t.size≤fu∧k+t.size≤65536∧aa [] w1 wr)
 case atStart=>exact ⟨l,x,[],0,none,0,rfl,rfl,by rw [←hlr];exact HL.out.1,HL.out.2,⟨rfl,Or.inl ⟨rfl,rfl⟩⟩,rfl,Nat.le_refl _,ω,aa.refl _ _⟩
 case round=>
  rename Nat=>fu
  obtain ⟨t,p,o,k,ao,co,rfl,rfl,hT,hlt,ho,hcat,hfu,hk,hu⟩:=hrel;rename World=>wr
  cases t with
  | nil=>
   have hr:(BT.nil.root != (-1:Int))=false:=rfl;have hk2:k=(aX l).length:=by
    have h1:=ho.1;rw [dX] at h1;have h2:=congrArg List.length hcat;simp [bK,aX] at h2;omega
   have hr2:(BT.nil).root=-1:=rfl;rw [hr2] at *
   have HO:=χ (ψ ho (ψ hcat (ψ hu hk2)));clear ho hcat hT hlt;go_wp2;go_ret;obtain ⟨ho,hcat,hu,hk2⟩:=HO.out;subst hk2;have e:o=bK (aX l):=by simpa [bK,aX] using hcat
   rw [e] at ho;exact ⟨ao,co,rfl,iA ho hs1,HM.out.1.aj hu,HM.out.2.then hu⟩
  | node y a b=>
   have hyl:y<A.cs.length:=hlt y (by simp [BT.nodes])
   have hy2:(BT.node y a b).root=(y:Int):=rfl;rw [hy2] at *
   have hyb:((y:Int) != -1)=true:=σ;have hyI:(y:Int)<(A.cs.length:Int):=ω;have hMw:=HM.out.1.aj hu;have e1:=hMw.h1;have e2:=hMw.r y hyl;rw [hT.2.2.2.root] at e2;have hos:=hu.size;simp only [BT.size] at hfu hk;obtain ⟨fv,rfl⟩:∃fv,fu=fv+1:=⟨fu-1,ω⟩
   have HO:=χ (ψ hT (ψ hlt (ψ hcat hu)));clear hT hlt hcat hMw;have hb2:w1.heap.size≤wr.heap.size:=hos;have hnba:B.n0<w1.heap.size∧B.ba<w1.heap.size:=⟨HM.out.1.lt _ (by simp [PB.blk]),HM.out.1.lt _ (by simp [PB.blk])⟩
   go_wp2_with (first|((at_builtin;refine aC rfl _ _ 26 rfl w1.heap.size 3 (.int .i64 0) 1 8 Tryz.underlying26 cK rfl δ _ _ _ rfl (ho) [.int .i64 (y:Int)] rfl (by simp [Value.oneCell']) (by first|rfl|(rw [World.size_alloc];rfl)) μ ω (ω) ?_;intro v2 w2 ho2 hu2 hsep2);obtain ⟨a2,c2,rfl,hc2⟩:=aR ho2;(have hv2:aa [] w1 w2:=HO.out.2.2.2.own ho (Nat.le_refl _) hu2);(have hn2:B.n0∉(Value.slice ao k co).ownBlock.toList:=fun hm=>by (have h9:=(ho.lt B.n0 (Option.mem_toList.1 hm)).1);omega);(have hn3:B.ba∉(Value.slice ao k co).ownBlock.toList:=fun hm=>by (have h9:=(ho.lt B.ba (Option.mem_toList.1 hm)).1);omega);(have e3:=hu2.kept e1 hn2);(have e4:=hu2.kept e2 hn3))|fail)
   go_roundg fv
   case rel=>
    obtain ⟨hT,hlt,hcat,hu⟩:=HO.out;refine ⟨b,y,o++[(y:Int)],k+1,a2,c2,rfl,rfl,?_,fun z hz=>hlt z (by simp [BT.nodes,hz]),by rw [aS];exact ho2,?_,ω,ω,hv2⟩
    ·have h4:=hT.2.2.2;rw [h4.root] at h4;exact h4
    ·rw [←hcat];simp [bK,aX,BT.root]
   all_goals omega
end
end Go.Proofs.YtklibcncmbofpaaGreat
namespace Go.Proofs.YtklibcncmbofpaaGreat
structure Mf (A:NS) (S:TS) (l:List BT):Prop where
 ok:∀t,t∈l→bG S (-1) t.root t∧Lone t
 nd:(eH l).Nodup
 PT:∀z,z∈eH l→bD A (z:Int)=true
theorem Mf.link {A:NS} {S S':TS} {D r:List BT} {a b:BT} (h:Mf A S (D++a::b::r)) (hT:bG S' (-1) (bN A a b).root (bN A a b)) (hs:∀z,z∉a.nodes++b.nodes→S.at S' z):Mf A S' (D++bN A a b::r):=by
 have la:=(h.ok a σ).2;have lb:=(h.ok b σ).2;have hp:(eH (D++bN A a b::r)).Perm (eH (D++a::b::r)):=by
  rw [dQ,dQ,bf,bf,bf,←List.append_assoc a.nodes];exact ((jD A la lb).append_right _).append_left _
 have hnd:=h.nd;rw [dQ,bf,bf] at hnd;rw [List.nodup_append] at hnd;obtain ⟨_,n2,n3⟩:=hnd;rw [←List.append_assoc,List.nodup_append] at n2;obtain ⟨_,_,n4⟩:=n2;refine ⟨fun t ht=>?_,hp.nodup_iff.2 h.nd,fun z hz=>h.PT z (hp.mem_iff.1 hz)⟩
 rcases List.mem_append.1 ht with e|e
 ·have h1:=h.ok t (by simp [e])
  refine ⟨h1.1.frame (fun z hz=>hs z (fun hm=>?_)),h1.2⟩
  refine n3 z (List.mem_flatMap.2 ⟨t,e,hz⟩) z ?_ rfl;rcases List.mem_append.1 hm with e2|e2
  ·exact List.mem_append.2 (Or.inl e2)
  ·exact List.mem_append.2 (Or.inr (List.mem_append.2 (Or.inl e2)))
 ·rcases List.mem_cons.1 e with e|e
  ·rw [e];exact ⟨hT,kQ A la lb⟩
  ·have h1:=h.ok t (by simp [e])
   exact ⟨h1.1.frame (fun z hz=>hs z (fun hm=>n4 z hm z (List.mem_flatMap.2 ⟨t,e,hz⟩) rfl)),h1.2⟩
theorem Mf.two {A:NS} {S:TS} {D r:List BT} {a b:BT} (h:Mf A S (D++a::b::r)):bG S (-1) a.root a∧bG S (-1) b.root b∧Lone a∧Lone b∧(a.nodes++b.nodes).Nodup∧∀z,z∈a.nodes++b.nodes→bD A (z:Int)=true:=by
 have hnd:=h.nd;rw [dQ,bf,bf,List.nodup_append] at hnd;have n2:=hnd.2.1;rw [←List.append_assoc,List.nodup_append] at n2;refine ⟨(h.ok a σ).1,(h.ok b σ).1,(h.ok a σ).2,(h.ok b σ).2,n2.1,fun z hz=>h.PT z ?_⟩
 rw [dQ,bf,bf,←List.append_assoc];simp only [List.mem_append] at hz ⊢;rcases hz with e|e
 ·simp [e]
 ·simp [e]
theorem Ie (S:TS) (x:Nat):∀z,(ed S x []).l z=(S.aD x false (-1)).l z∧(ed S x []).r z=(S.aD x false (-1)).r z∧(ed S x []).u z=(S.aD x false (-1)).u z:=fun z=>by
 unfold ed TS.aD;simp
theorem D7 (S:TS) (x k j:Nat) (ks:List Int) (h:ks[j]?=some (k:Int)):∀z,(ed S x (ks.take (j+1))).l z=(((ed S x (ks.take j)).aD k true (-1)).bA k (-1)).l z∧(ed S x (ks.take (j+1))).r z=(((ed S x (ks.take j)).aD k true (-1)).bA k (-1)).r z∧(ed S x (ks.take (j+1))).u z=(((ed S x (ks.take j)).aD k true (-1)).bA k (-1)).u z:=fun z=>by
 have e:ks.take (j+1)=ks.take j++[(k:Int)]:=by rw [List.take_add_one,h];rfl
 rw [e];unfold ed TS.aD TS.bA;have hz:((z:Int)=(k:Int))=(z=k):=propext ⟨fun h=>ω,fun h=>ω⟩
 simp only [List.mem_append,List.mem_singleton,hz];refine ⟨σ,?_,?_⟩
 ·by_cases h1:z=k
  ·simp [h1]
  ·simp [h1]
 ·by_cases h1:z=k
  ·simp [h1]
  ·simp [h1]
theorem GK (A:NS) {l:List BT} {j:Nat} (h:2*j+1<l.length):∃a b r,l.drop (2*j)=a::b::r∧l[2*j]?=some a∧l[2*j+1]?=some b∧r=l.drop (2*(j+1))∧(bB A l).take (j+1)=(bB A l).take j++[bN A a b]:=by
 have h1:l.drop (2*j)=l[2*j]::l[2*j+1]::l.drop (2*j+2):=by
  rw [List.drop_eq_getElem_cons ω,List.drop_eq_getElem_cons ω]
 refine ⟨l[2*j],l[2*j+1],l.drop (2*j+2),h1,List.getElem?_eq_getElem _,List.getElem?_eq_getElem _,by rw [show 2*(j+1)=2*j+2 by omega],?_⟩
 have h2:=rJ A j l ω;rw [h1] at h2;have hl:((bB A l).take j).length=j:=by rw [List.length_take,pI];omega
 have h3:(bB A l)[j]?=some (bN A l[2*j] l[2*j+1]):=by
  rw [h2,List.getElem?_append_right ω,hl,Nat.sub_self];rfl
 rw [List.take_add_one,h3];rfl
theorem Hz (A:NS) {l:List BT} {j:Nat} (h:2*j+1=l.length):∃a,l.drop (2*j)=[a]∧l[2*j]?=some a∧(bB A l).take (j+1)=(bB A l).take j++[a]∧l.drop (2*(j+1))=[]:=by
 have h1:l.drop (2*j)=[l[2*j]]:=by
  rw [List.drop_eq_getElem_cons ω,List.drop_eq_nil_of_le ω]
 refine ⟨l[2*j],h1,List.getElem?_eq_getElem _,?_,List.drop_eq_nil_of_le ω⟩;have h2:=rJ A j l ω;rw [h1] at h2;have hl:((bB A l).take j).length=j:=by rw [List.length_take,pI];omega
 have h3:(bB A l)[j]?=some l[2*j]:=by
  rw [h2,List.getElem?_append_right ω,hl,Nat.sub_self];rfl
 rw [List.take_add_one,h3];rfl
theorem K7 (A:NS) {l:List BT} {j:Nat} (h:l.length≤2*j):(bB A l).take j=bB A l:=List.take_of_length_le (by rw [pI];omega)
theorem rest_step (A:NS) {l:List BT} {j:Nat} (h:j<l.length):dU A (l.drop j)=bN A l[j] (dU A (l.drop (j+1))):=by
 rw [List.drop_eq_getElem_cons h];rfl
theorem Mf.start {A:NS} {S:TS} {x:Nat} {l:BT} (hl:bG S (x:Int) (S.l x) l) (hn:(x::l.nodes).Nodup) (hin:∀z,z∈l.nodes→bD A (z:Int)=true):Mf A (ed S x (bK (aX l))) (aX l):=by
 obtain ⟨n1,n2⟩:=List.nodup_cons.1 hn;have e:=hl.root;rw [e] at hl;have hlone:∀ (t:BT) u,u∈aX t→Lone u:=by
  intro t
  induction t with
  | nil=>intro u hu;cases hu
  | node y a b _ ih=>
   intro u hu;simp only [aX,List.mem_cons] at hu;rcases hu with e|e
   ·subst e;rfl
   ·exact ih u e
 exact ⟨fun t ht=>⟨Bw hl n2 n1 (fun z hz=>Iff.rfl) t ht,hlone l t ht⟩,(iw l).nodup_iff.2 n2,fun z hz=>hin z ((iw l).mem_iff.1 hz)⟩
structure Gd (A:NS) (S0 S:TS) (l:BT) (L:List BT):Prop where
 fo:Mf A S L
 sub:∀z,z∈eH L→z∈l.nodes
 fr:∀z,z∉l.nodes→S0.at S z
theorem Gd.link {A:NS} {S0 S S':TS} {l:BT} {D r:List BT} {a b:BT} (h:Gd A S0 S l (D++a::b::r)) (hT:bG S' (-1) (bN A a b).root (bN A a b)) (hs:∀z,z∉a.nodes++b.nodes→S.at S' z):Gd A S0 S' l (D++bN A a b::r):=by
 have la:=(h.fo.ok a σ).2;have lb:=(h.fo.ok b σ).2;have hp:(eH (D++bN A a b::r)).Perm (eH (D++a::b::r)):=by
  rw [dQ,dQ,bf,bf,bf,←List.append_assoc a.nodes];exact ((jD A la lb).append_right _).append_left _
 refine ⟨h.fo.link hT hs,fun z hz=>h.sub z (hp.mem_iff.1 hz),fun z hz=>?_⟩
 have h1:=h.fr z hz
 have h2:=hs z (fun hm=>hz (h.sub z (by
  rw [dQ,bf,bf,←List.append_assoc];simp only [List.mem_append] at hm ⊢;rcases hm with e|e
  ·simp [e]
  ·simp [e])))
 exact ⟨h2.1.trans h1.1,h2.2.1.trans h1.2.1,h2.2.2.trans h1.2.2⟩
theorem Gd.start {A:NS} {S:TS} {x:Nat} {l:BT} (hl:bG S (x:Int) (S.l x) l) (hn:(x::l.nodes).Nodup) (hin:∀z,z∈l.nodes→bD A (z:Int)=true):Gd A (ed S x (bK (aX l))) (ed S x (bK (aX l))) l (aX l):=
 ⟨Mf.start hl hn hin,fun z hz=>(iw l).mem_iff.1 hz,fun z _=>⟨rfl,rfl,rfl⟩⟩
theorem Gd.nil {A:NS} {S0 S:TS} {l:BT} {L:List BT} (h:Gd A S0 S l L):Gd A S0 S l (L++[BT.nil]):=by
 have e:eH (L++[BT.nil])=eH L:=by rw [dQ];simp [eH,BT.nodes]
 refine ⟨⟨fun t ht=>?_,by rw [e];exact h.fo.nd,by rw [e];exact h.fo.PT⟩,by rw [e];exact h.sub,h.fr⟩
 rcases List.mem_append.1 ht with e|e
 ·exact h.fo.ok t e
 ·have e2:t=.nil:=by simpa using e
  subst e2;exact ⟨rfl,trivial⟩
theorem Gd.done {A:NS} {S S':TS} {x:Nat} {l t:BT} (h:Gd A (ed S x (bK (aX l))) S' l [t]) (hx:x∉l.nodes):bG S' (-1) t.root t∧S'.l x=-1∧S'.r x=S.r x∧S'.u x=S.u x∧∀z,z∉x::l.nodes→S.at S' z:=by
 have h1:=h.fr x hx;have hk:∀z:Nat,z∉l.nodes→(z:Int)∉bK (aX l):=fun z hz hm=>hz (F8 hm)
 have hs:∀z:Nat,z∉l.nodes→z≠x→S.at (ed S x (bK (aX l))) z:=fun z hz hzx=>Jt hzx (hk z hz)
 refine ⟨(h.fo.ok t σ).1,?_,?_,?_,fun z hz=>?_⟩
 ·rw [h1.1];simp [ed]
 ·rw [h1.2.1];simp [ed,hk x hx]
 ·rw [h1.2.2];simp [ed,hk x hx]
 ·simp only [List.mem_cons,not_or] at hz;have h2:=h.fr z hz.2;have h3:=hs z hz.2 hz.1;exact ⟨h2.1.trans h3.1,h2.2.1.trans h3.2.1,h2.2.2.trans h3.2.2⟩
theorem lu {l:List BT} {j:Nat} {t:BT} (h:l[j]?=some t):(bK l).getD j 0=t.root∧(bK l)[j]?=some t.root:=by
 unfold bK;simp [φ,h]
theorem EJ (l:List BT):(bK l).length=l.length:=by unfold bK;simp
theorem qR (a b:List BT):bK (a++b)=bK a++bK b:=by unfold bK;rw [List.map_append]
theorem Cv:∀ (t:BT),(aX t).length≤t.nodes.length
 | .nil=>Nat.le_refl _
 | .node x l r=>by
  have:=Cv r;simp only [aX,List.length_cons,BT.nodes,List.length_append];omega
theorem Gr (A:NS) {tw:List BT} {i:Nat} (h:i<tw.length):tw.take (i+1)=tw.take i++[tw[i]]∧dU A (tw.drop i)=bN A tw[i] (dU A (tw.drop (i+1))):=by
 refine ⟨?_,rest_step A h⟩;rw [List.take_add_one,List.getElem?_eq_getElem h];rfl
end Go.Proofs.YtklibcncmbofpaaGreat
