/-
  Lemmas for RankSorts: Dr2, Sd8, Dr3. Conditions: those of each lemma.
-/
import Derived.Test.YtklibcncmbofpaaGreatP21
set_option maxHeartbeats 8000000
set_option maxRecDepth 10000
set_option linter.unusedVariables false
set_option linter.unusedSimpArgs false
namespace Go.Proofs.YtklibcncmbofpaaGreat
open Go Go.RowKit
theorem Il:(Tryz.prog.info? 202).map (fun i=>(i.zero,i.size,i.bytes))=some (some (.pointer none),1,8):=by kernel_rfl
theorem lH (n h:Nat):j5 (NS.new n) h=false:=by
 unfold j5;cases hh:aY (NS.new n) (h:Int) with
 | false=>rfl
 | true=>have:=(aK _ _).1 hh;simp [NS.new] at this;omega
theorem LJ (n d:Nat) (w:World) (h:n≤65536) (hd:2≤d∧d≤16) :
  Calls Tryz.prog 91 #[.int .i64 (n:Int),.int .i64 (d:Int)] w fun e w'=>∃B F gr,e=.returned (.tuple #[.pointer (some ⟨B.n0,0,none⟩),.int .i64 0])∧lN w' B F [] gr (NS.new n) 0∧aa [] w w'∧(∀x,x∈B.blk F [] gr→w.heap.size≤x)∧B.d=d:=by
 go_enter Tryz.func91,Tryz.ntmps91
 go_wp2_with (first
  | ((go_at_call 107;(with_reducible refine (kY n _ h).mono ?_));rintro e w1 ⟨c,F,rfl,hC,hu1,hF⟩)
  | ((go_at_call 108;(with_reducible refine (Bi d hd _).mono ?_));rintro e w2 ⟨rp,G,rfl,hR,hu2,hG⟩)
  | fail)
 go_ret2;have l1:=hu1.size;have l2:=hu2.size;have l7:=hC.lt;have e3:((w2.alloc (.cells #[.pointer none] 202)).heap.size)=w2.heap.size+1:=by rw [World.size_alloc]
 have hh:=dm (w2.alloc (.cells #[.pointer none] 202)) [.pointer (some ⟨c,0,none⟩),.int .i64 (d:Int),.slice (some ⟨w2.heap.size,0,none⟩) 1 1] 207;rw [e3] at hh;have hv:aa [] w2 (w2.alloc (.cells #[.pointer none] 202)):=(aa.refl _ _).alloc _;have hv2:aa [] (w2.alloc (.cells #[.pointer none] 202)) ((w2.alloc (.cells #[.pointer none] 202)).alloc (.cells #[.pointer (some ⟨c,0,none⟩),.int .i64 (d:Int),.slice (some ⟨w2.heap.size,0,none⟩) 1 1] 207)):=(aa.refl _ _).alloc _
 have hw:aa [] w2 ((w2.alloc (.cells #[.pointer none] 202)).alloc (.cells #[.pointer (some ⟨c,0,none⟩),.int .i64 (d:Int),.slice (some ⟨w2.heap.size,0,none⟩) 1 1] 207)):=hv.trans hv2;have ho:=jE w2 [.pointer none] 202 0 1 1 rfl ω μ;have hnF:∀x,w1.heap.size≤x→x∉F:=fun x hx hm=>by have:=l7 x hm;omega
 refine ⟨⟨w2.heap.size+1,c,d⟩,F,w2.heap.size,rfl,⟨1,fun _=>none,fun _=>[],fun _=>[],⟨hh,(hC.aj hu2).aj hw,⟨?_,fun k hk=>?_,fun k hk=>?_,fun k j hk=>?_,fun z hz=>by simp at hz,σ⟩,⟨hnF _ (by first|omega|(simp only;omega)),hnF _ ω,σ⟩,fun z hz=>by simp at hz,hd⟩,⟨fun k hk=>?_,fun k hk=>?_,fun k x hk=>?_⟩⟩,(hu1.trans hu2).trans hw,fun x hx=>?_,rfl⟩
 ·exact ay ho hv2 σ
 ·rw [lH] at hk;cases hk
 ·rw [lH] at hk;cases hk
 ·rw [lH] at hk;cases hk
 ·have:=lH n k;unfold j5 at this;rw [this] at hk;cases hk
 ·have:=lH n k;unfold j5 at this;rw [this] at hk;cases hk
 ·have:=lH n k;unfold j5 at this;rw [this] at hk;cases hk
 ·simp only [DB.blk,List.mem_cons,List.append_nil] at hx;rcases hx with rfl|rfl|hx
  ·omega
  ·omega
  ·exact hF x hx
section
variable {w:World} {B:DB} {F Z:List Nat} {gr st:Nat} {A:NS}
theorem LU (h:lN w B F Z gr A st) (hl:65536<A.hs.length) :
  Calls Tryz.prog 143 #[.pointer (some ⟨B.n0,0,none⟩)] w fun e w'=>e=.returned (.int .i64 0)∧Goes (B.blk F Z gr) w w' (fun F'=>∃F1,F'=B.blk F1 Z gr∧lN w' B F1 Z gr A st):=by
 obtain ⟨cr,ptr,G,L,hM,hI⟩:=h;have k:=fT hM.cells;have e1:bS A=0:=by unfold bS;rw [if_pos hl]
 have e2:aG A=A:=by unfold aG;rw [if_pos hl]
 rw [e1,e2] at k;have h0:=hM.h0;have HM:=χ (ψ hM hI);clear hM hI e1 e2
 go_enter Tryz.func143,Tryz.ntmps143
 go_wp2_with (first|((go_at_call 156;(with_reducible refine (k).mono ?_));rintro e w1 ⟨rfl,F1,hC,hu,hF⟩))
 go_ret;refine ⟨rfl,B.blk F1 Z gr,⟨F1,rfl,cr,ptr,G,L,HM.out.1.bI hu hC hF rfl,HM.out.2⟩,hu.mono (fun y hy=>by simp [DB.blk,hy]),fun x hx=>?_⟩
 simp only [DB.blk,List.mem_cons,List.mem_append] at hx ⊢;rcases hx with rfl|rfl|hx|hx
 ·simp
 ·simp
 ·rcases hF x hx with h|h
  ·simp [h]
  ·exact Or.inr h
 ·simp [hx]
theorem Im (h:lN w B F Z gr A st) (hl:¬65536<A.hs.length) :
  Calls Tryz.prog 143 #[.pointer (some ⟨B.n0,0,none⟩)] w fun e w'=>e=.returned (.int .i64 (A.hs.length:Int))∧Goes (B.blk F Z gr) w w' (fun F'=>∃F1 Z1 gr1,F'=B.blk F1 Z1 gr1∧lN w' B F1 Z1 gr1 (aG A) st):=by
 obtain ⟨cr,ptr,G,L,hM,hI⟩:=h;have k:=fT hM.cells;have e1:bS A=A.hs.length:=by unfold bS;rw [if_neg hl]
 rw [e1] at k;have hhs:(aG A).hs.length=A.hs.length+1:=by unfold aG;rw [if_neg hl];simp
 have hh0:=hM.cells.ok.h0;have hI2:=hI.make hM.dd.1 hM.cells.ok hl ω;have h0:=hM.h0;have kr:=fun W=>Bi B.d hM.dd W
 have HM:=χ (ψ hM (ψ hI2 hhs));clear hM hI e1 hI2 hhs;generalize hm:A.hs.length=m at *
 have HMm:=χ hm;clear hm
 go_enter Tryz.func143,Tryz.ntmps143
 go_wp2_with (first
  | ((go_at_call 156;(with_reducible refine (k).mono ?_));rintro e w1 ⟨rfl,F1,hC,hu,hF⟩;(have q1:=hu.kept HM.out.1.h1 HM.out.1.aZ.1);(have q2:=hu.kept HM.out.1.h2 HM.out.1.aZ.1);(have f2:=hu.aO HM.out.1.h2 HM.out.1.aZ.1 (HM.out.1.head.free 2));(have ho1:=ay HM.out.1.jf.rows hu (fun k hk hm=>by cases hk;exact HM.out.1.aZ.2.1 hm));(rw [HMm.out] at q2 ho1))
  | ((go_at_call 108;(with_reducible refine (kr _).mono ?_));rintro e w2 ⟨rp,G2,rfl,hR,hu2,hG2⟩;(have q3:=hu2.was q2);(have f3:=hu2.aO q2 σ f2);(have ho2:=ay ho1 hu2 σ))
  | (at_builtin;refine aC rfl _ _ 205 rfl 0 202 (.pointer none) 1 8 Tryz.underlying205 Il rfl δ _ _ _ rfl (ho2) [ym (some rp)] rfl (by simp [Value.oneCell',ym]) (by first|rfl|(rw [World.size_alloc];rfl)) μ ω ω ?_;intro v3 w3 ho3 hu3 hsep3;(have hu3:aa [gr] w2 w3:=hu3);obtain ⟨g3,c3,ev, -⟩:=bY ho3 ω;subst ev;(have d4:=hu3.kept q3 (by simp;exact HM.out.1.aZ.2.2));(have f4:=hu3.aO q3 (by simp;exact HM.out.1.aZ.2.2) f3))
  | fail)
 go_ret;obtain ⟨hM,hI2,hhs⟩:=HM.out;have hlt:=hM.lt;have l0:=hlt B.n0 (by simp [DB.blk])
 have l1:=hlt gr (by simp [DB.blk])
 have hs1:=hu.size;have hs2:=hu2.size;have hs3:=hu3.size;have hC1:=hC.lt;have hg3:g3=gr∨w2.heap.size<g3:=by
  rcases hsep3 with h|h
  ·exact Or.inl (Option.some.inj h)
  ·exact Or.inr (h g3 rfl)
 have hw4:aa [B.n0] w3 (w3.setCell ⟨B.n0,2,none⟩ (.slice (some ⟨g3,0,none⟩) (m+1) c3)):=β;have hnF:∀y,y<w.heap.size→y∉F→y∉F1:=fun y hy hn hm=>by rcases hF y hm with h'|h';exact hn h';omega
 have hn3:B.n0≠g3:=by have:=hM.aZ.2.2;omega
 have hg3F:g3∉F1:=by
  rcases hg3 with e|e
  ·rw [e];exact hnF gr l1 hM.aZ.2.1
  ·exact fun hm=>by have:=hC1 g3 hm;omega
 have hF1n:∀z,z∈F1→z≠gr∧z≠B.n0:=fun z hz=>⟨fun e=>hnF gr l1 hM.aZ.2.1 (by rw [←e];exact hz),fun e=>hnF _ l0 hM.aZ.1 (by rw [←e];exact hz)⟩
 have hG2l:=hR.lt;have hRk:(Ps B.d).at_ (w3.setCell ⟨B.n0,2,none⟩ (.slice (some ⟨g3,0,none⟩) (m+1) c3)) rp G2 []:=(hR.upd hu3 (fun z hz hm=>by simp at hz;have:=hG2 z hm;omega)).upd hw4 (fun z hz hm=>by simp at hz;have:=hG2 z hm;omega)
 have huA:aa (B.n0::gr::F) w (w3.setCell ⟨B.n0,2,none⟩ (.slice (some ⟨g3,0,none⟩) (m+1) c3)):=(((hu.mono (fun y hy=>by simp [hy])).then hu2).trans (hu3.mono (fun y hy=>by simp at hy;simp [hy]))).trans (hw4.mono (fun y hy=>by simp at hy;simp [hy]))
 have hfs:=hM.jf.snoc (by rw [HMm.out];cases hh:j5 A m with
  | false=>rfl
  | true=>have:=(aK _ _).1 hh;have:=HMm.out;omega) huA (fun z hz=>by
   simp only [List.mem_cons] at hz;rcases hz with rfl|rfl|hz
   ·exact fun hm=>(hM.iX _ hm).2 rfl
   ·exact hM.jf.L8
   ·exact fun hm=>(hM.iX z hm).1 hz) hRk (fun z hz=>by have:=hG2 z hz;omega) (gr':=g3) (cr':=c3) (by
   rcases hg3 with e|e
   ·rw [e];exact hM.jf.L8
   ·exact fun hm=>by have:=hM.jf.D9 _ hm;omega) (by
   rcases hg3 with e|e
   ·rw [e];exact fun hm=>by have:=hG2 _ hm;omega
   ·exact fun hm=>by have:=hG2l _ hm;omega) (by rw [HMm.out];exact ay ho3 hw4 (fun k hk hm=>by cases hk;simp at hm;exact hn3 hm.symm))
 rw [HMm.out] at hfs;have hhF:(fun h=>j5 A h || h == m)=j5 (aG A):=funext fun q=>by unfold j5;rw [←HMm.out];exact (sZ A (by rw [HMm.out];exact hl) (by have:=HMm.out;omega) q).symm
 rw [hhF] at hfs;refine ⟨rfl,B.blk F1 (Z++G2) g3,⟨F1,Z++G2,g3,rfl,c3,iE ptr m (some rp),iE G m G2,iE L m [],⟨?_,?_,by rw [hhs];exact hfs,⟨hnF _ l0 hM.aZ.1,hg3F,hn3⟩,fun z hz=>?_,hM.dd⟩,hI2⟩,huA.mono (fun y hy=>?_),fun y hy=>?_⟩
 ·rw [hhs];refine ((((hM.head.upd hu hM.aZ.1).upd hu2 σ).upd hu3 (by simp;exact hM.aZ.2.2)).set 2 _).ext (fun j hj=>?_)
  rcases (ω:j=0∨j=1∨j=2) with rfl|rfl|rfl<;>rfl
 ·exact ((hC.aj hu2).upd hu3 (fun z hz hm=>by simp at hz;exact (hF1n z hm).1 hz)).upd hw4 (fun z hz hm=>by simp at hz;exact (hF1n z hm).2 hz)
 ·rcases List.mem_append.1 hz with h|h
  ·exact ⟨hnF z (hM.jf.D9 z h) (hM.iX z h).1,(hM.iX z h).2⟩
  ·have:=hG2 z h;exact ⟨fun hm=>by have:=hC1 z hm;omega,ω⟩
 ·simp only [DB.blk,List.mem_cons,List.mem_append] at hy ⊢;rcases hy with h|h|h
  ·exact Or.inl h
  ·exact Or.inr (Or.inl h)
  ·exact Or.inr (Or.inr (Or.inl h))
 ·simp only [DB.blk,List.mem_cons,List.mem_append] at hy ⊢;rcases hy with h|h|h|h|h
  ·exact Or.inl (Or.inl h)
  ·rcases hg3 with e|e
   ·exact Or.inl (Or.inr (Or.inl (by rw [h,e])))
   ·exact Or.inr ω
  ·rcases hF y h with h|h
   ·exact Or.inl (Or.inr (Or.inr (Or.inl h)))
   ·exact Or.inr h
  ·exact Or.inl (Or.inr (Or.inr (Or.inr h)))
  ·exact Or.inr (by have:=hG2 y h;omega)
end
theorem NY:(Tryz.prog.info? 317).map (fun i=>(i.zero,i.size,i.bytes))=some (some (.pointer none),1,8):=by kernel_rfl
theorem MX (W:World) (n:Nat) (hn:n≤65536):IZ (W.alloc (.cells (madeCells #[.int .i64 0] n) 3)) W.heap.size n (bz (List.replicate n 0)):=by
 have hl:(bz (List.replicate n 0)).length=n:=by rw [bQ];simp
 refine ⟨⟨by rw [hl];simp [dX,hl],Or.inr ⟨W.heap.size,n,madeCells #[.int .i64 0] n,by rw [hl],Nat.zero_le _,?_,by rw [hl];exact Nat.le_refl _,μ,by simp [madeCells],?_⟩⟩⟩
 ·show (W.heap.push _)[W.heap.size]?=_;simp
 ·rw [hl];apply List.ext_getElem?;intro j
  by_cases hj:j<n
  ·simp [madeCells,hj,aH,bz,Nat.mod_one]
  ·rw [List.getElem?_eq_none (by simp [madeCells];omega),List.getElem?_eq_none (by rw [dX,hl];omega)]
theorem GR (n:Nat) (w:World) (h:n≤65536) :
  Calls Tryz.prog 104 #[.int .i64 (n:Int)] w fun e w'=>∃B F gr,e=.returned (.tuple #[.pointer (some ⟨B.n0,0,none⟩),.int .i64 0])∧ShAt w' B F [] gr (NS.new n) 0∧aa [] w w'∧∀x,x∈B.blk F [] gr→w.heap.size≤x:=by
 have hmk:=run_make_row' (P:=Tryz.prog) 26 3 (.int .i64 0) 8 Tryz.underlying26 cK rfl .i64 .i64 n ω ω
 go_enter Tryz.func104,Tryz.ntmps104
 go_wp2_with (first
  | ((go_at_call 107;(with_reducible refine (kY n _ h).mono ?_));rintro e w1 ⟨c,F,rfl,hC,hu1,hF⟩)
  | fail)
 go_ret2;have l1:=hu1.size;have l7:=hC.lt;have hv:aa [] w1 (w1.alloc (.cells #[.pointer none] 317)):=(aa.refl _ _).alloc _;obtain ⟨w2,hw2⟩:∃w2,w2=w1.alloc (.cells #[.pointer none] 317):=⟨_,rfl⟩
 have e2:w2.heap.size=w1.heap.size+1:=by rw [hw2,World.size_alloc]
 have hz:=MX w2 n h;obtain ⟨w3,hw3⟩:∃w3,w3=w2.alloc (.cells (madeCells #[.int .i64 0] n) 3):=⟨_,rfl⟩
 have e3:w3.heap.size=w1.heap.size+1+1:=by rw [hw3,World.size_alloc,e2]
 have hh:=dm w3 [.pointer (some ⟨c,0,none⟩),.slice (some ⟨w1.heap.size,0,none⟩) 1 1,.slice (some ⟨w1.heap.size+1,0,none⟩) n n] 237;rw [e3] at hh;have hv23:aa [] w2 w3:=by rw [hw3];exact (aa.refl _ _).alloc _
 have hv3:aa [] w3 (w3.alloc (.cells #[.pointer (some ⟨c,0,none⟩),.slice (some ⟨w1.heap.size,0,none⟩) 1 1,.slice (some ⟨w1.heap.size+1,0,none⟩) n n] 237)):=(aa.refl _ _).alloc _;have hv12:aa [] w1 w2:=by rw [hw2];exact hv
 have ho:=jE w1 [.pointer none] 317 0 1 1 rfl ω μ;rw [←hw3,e2] at hz;have hnF:∀x,w1.heap.size≤x→x∉F:=fun x hx hm=>by have:=l7 x hm;omega
 have hno:∀k:Nat,aY (NS.new n) k=false:=fun k=>lH n k
 have hrep:(List.replicate n 0).length=n:=σ;rw [←hw2,←hw3];refine ⟨⟨w1.heap.size+1+1,c,w1.heap.size+1⟩,F,w1.heap.size,rfl,⟨1,fun _=>none,fun _=>[],fun _=>[],List.replicate n 0,⟨?_,((hC.aj hv12).aj hv23).aj hv3,⟨?_,fun k hk=>?_,fun k hk=>?_,fun k j hk=>?_,fun z hz=>by simp at hz,σ⟩,?_,?_,⟨hnF _ (by first|omega|(simp only;omega)),hnF _ ω,hnF _ (by first|omega|(simp only;omega))⟩,⟨by simp only;omega,by simp only;omega,by simp only;omega⟩,fun z hz=>by simp at hz⟩,⟨⟨fun k hk=>?_,fun k hk=>?_,fun k x hk=>?_⟩,fun k hk=>?_⟩⟩,((hu1.trans hv12).trans hv23).trans hv3,fun x hx=>?_⟩
 ·rw [hrep];exact hh
 ·rw [←hw2] at ho;exact ay (ay ho hv23 σ) hv3 σ
 ·unfold j5 at hk;rw [hno] at hk;cases hk
 ·unfold j5 at hk;rw [hno] at hk;cases hk
 ·unfold j5 at hk;rw [hno] at hk;cases hk
 ·rw [hrep];exact hz.upd hv3 σ
 ·simp [NS.new]
 ·rw [hno] at hk;cases hk
 ·rw [hno] at hk;cases hk
 ·rw [hno] at hk;cases hk
 ·rw [hno] at hk;cases hk
 ·simp only [HB.blk,List.mem_cons,List.append_nil] at hx;rcases hx with rfl|rfl|rfl|hx
  ·omega
  ·omega
  ·omega
  ·exact hF x hx
section
variable {w:World} {B:HB} {F Z:List Nat} {gr st:Nat} {A:NS}
theorem Jc (h:ShAt w B F Z gr A st) (hl:65536<A.hs.length) :
  Calls Tryz.prog 274 #[.pointer (some ⟨B.n0,0,none⟩)] w fun e w'=>e=.returned (.int .i64 0)∧Goes (B.blk F Z gr) w w' (fun F'=>∃F1,F'=B.blk F1 Z gr∧ShAt w' B F1 Z gr A st):=by
 obtain ⟨cr,ptr,G,L,T,hM,hI⟩:=h;have k:=fT hM.cells;have e1:bS A=0:=by unfold bS;rw [if_pos hl]
 have e2:aG A=A:=by unfold aG;rw [if_pos hl]
 rw [e1,e2] at k;have h0:=hM.h0;have HM:=χ (ψ hM hI);clear hM hI e1 e2
 go_enter Tryz.func274,Tryz.ntmps274
 go_wp2_with (first|((go_at_call 156;(with_reducible refine (k).mono ?_));rintro e w1 ⟨rfl,F1,hC,hu,hF⟩))
 go_ret;refine ⟨rfl,B.blk F1 Z gr,⟨F1,rfl,cr,ptr,G,L,T,HM.out.1.bI hu hC hF rfl rfl,HM.out.2⟩,hu.mono (fun y hy=>by simp [HB.blk,hy]),fun x hx=>?_⟩
 simp only [HB.blk,List.mem_cons,List.mem_append] at hx ⊢;rcases hx with rfl|rfl|rfl|hx|hx
 ·simp
 ·simp
 ·simp
 ·rcases hF x hx with h|h
  ·simp [h]
  ·exact Or.inr h
 ·simp [hx]
theorem Ez (h:ShAt w B F Z gr A st) (hl:¬65536<A.hs.length) :
  Calls Tryz.prog 274 #[.pointer (some ⟨B.n0,0,none⟩)] w fun e w'=>e=.returned (.int .i64 (A.hs.length:Int))∧Goes (B.blk F Z gr) w w' (fun F'=>∃F1 Z1 gr1,F'=B.blk F1 Z1 gr1∧ShAt w' B F1 Z1 gr1 (aG A) st):=by
 obtain ⟨cr,ptr,G,L,T,hM,hI⟩:=h;have k:=fT hM.cells;have e1:bS A=A.hs.length:=by unfold bS;rw [if_neg hl]
 rw [e1] at k;have hhs:(aG A).hs.length=A.hs.length+1:=by unfold aG;rw [if_neg hl];simp
 have hh0:=hM.cells.ok.h0;have hIp:OZ (aG A) (iE L A.hs.length []) T:=by
  refine ⟨hI.di.make ω hM.cells.ok hl ω,fun k hk j x hj=>?_⟩
  by_cases e:k=A.hs.length
  ·subst e;rw [bW] at hj;simp at hj
  ·rw [bq _ _ e] at hj;rw [sZ A hl ω] at hk;exact hI.yc k (by simpa [e] using hk) j x hj
 have h0:=hM.h0;have HM:=χ (ψ hM (ψ hIp hhs));clear hM hI e1 hIp hhs;generalize hm:A.hs.length=m at *
 have HMm:=χ hm;clear hm
 go_enter Tryz.func274,Tryz.ntmps274
 go_wp2_with (first
  | ((go_at_call 156;(with_reducible refine (k).mono ?_));rintro e w1 ⟨rfl,F1,hC,hu,hF⟩;(have q2:=hu.kept HM.out.1.h1 HM.out.1.aZ.1);(have f2:=hu.aO HM.out.1.h1 HM.out.1.aZ.1 (HM.out.1.head.free 1));(have ho1:=ay HM.out.1.jf.rows hu (fun k hk hm=>by cases hk;exact HM.out.1.aZ.2.1 hm));(rw [HMm.out] at q2 ho1);(have ho2:(w1.alloc (.cells #[.pointer (some ⟨B.n0,0,none⟩),.slice none 0 0] 321)).ownsRow _ _ _ _ _ _:=ay ho1 ((aa.refl [] w1).alloc (.cells #[.pointer (some ⟨B.n0,0,none⟩),.slice none 0 0] 321)) σ))
  | (at_builtin;refine aC rfl _ _ 235 rfl 0 317 (.pointer none) 1 8 Tryz.underlying235 NY rfl δ _ _ _ rfl (ho2) [ym (some w1.heap.size)] rfl (by simp [Value.oneCell',ym]) (by first|rfl|(rw [World.size_alloc];rfl)) μ ω ω ?_;intro v3 w3 ho3 hu3 hsep3;(have hu3:aa [gr] (w1.alloc (.cells #[.pointer (some ⟨B.n0,0,none⟩),.slice none 0 0] 321)) w3:=hu3);obtain ⟨g3,c3,ev, -⟩:=bY ho3 ω;subst ev;(have q3:(w1.alloc (.cells #[.pointer (some ⟨B.n0,0,none⟩),.slice none 0 0] 321)).cell? ⟨B.n0,1,none⟩=_:=((aa.refl [] w1).alloc _).was q2);(have f3:(w1.alloc (.cells #[.pointer (some ⟨B.n0,0,none⟩),.slice none 0 0] 321)).frozen? ⟨B.n0,1,none⟩=false:=((aa.refl [] w1).alloc _).aO q2 σ f2);(have d4:=hu3.kept q3 (by simp;exact HM.out.1.sep.1));(have f4:=hu3.aO q3 (by simp;exact HM.out.1.sep.1) f3))
  | fail)
 go_ret;obtain ⟨hM,hI2,hhs⟩:=HM.out;have hlt:=hM.lt;have l0:=hlt B.n0 (by simp [HB.blk])
 have l1:=hlt gr (by simp [HB.blk])
 have l2:=hlt B.ga (by simp [HB.blk])
 have hs1:=hu.size;have hs3:=hu3.size;rw [World.size_alloc] at hs3;have hC1:=hC.lt;have hrow:=dm w1 [.pointer (some ⟨B.n0,0,none⟩),.slice none 0 0] 321;have hual:aa [] w1 (w1.alloc (.cells #[.pointer (some ⟨B.n0,0,none⟩),.slice none 0 0] 321)):=(aa.refl _ _).alloc _;have hg3:g3=gr∨w1.heap.size+1<g3:=by
  rcases hsep3 with h|h
  ·exact Or.inl (Option.some.inj h)
  ·right;have:=h g3 rfl;rwa [World.size_alloc] at this
 have hw4:aa [B.n0] w3 (w3.setCell ⟨B.n0,1,none⟩ (.slice (some ⟨g3,0,none⟩) (m+1) c3)):=β;have hnF:∀y,y<w.heap.size→y∉F→y∉F1:=fun y hy hn hm=>by rcases hF y hm with h'|h';exact hn h';omega
 have hn3:B.n0≠g3:=by have:=hM.sep.1;omega
 have hg3F:g3∉F1:=by
  rcases hg3 with e|e
  ·rw [e];exact hnF gr l1 hM.aZ.2.1
  ·exact fun hm=>by have:=hC1 g3 hm;omega
 have hF1n:∀z,z∈F1→z≠gr∧z≠B.n0:=fun z hz=>⟨fun e=>hnF gr l1 hM.aZ.2.1 (by rw [←e];exact hz),fun e=>hnF _ l0 hM.aZ.1 (by rw [←e];exact hz)⟩
 have hRk:(Py B).at_ (w3.setCell ⟨B.n0,1,none⟩ (.slice (some ⟨g3,0,none⟩) (m+1) c3)) w1.heap.size [w1.heap.size] []:=by
  refine ⟨.slice none 0 0,((hrow.ext (fun j hj=>rfl)).upd hu3 ζ).upd hw4 ζ,⟨rfl,Or.inl ⟨rfl,rfl⟩⟩,rfl,fun g hg=>by cases hg⟩
 have huA:aa (B.n0::gr::F) w (w3.setCell ⟨B.n0,1,none⟩ (.slice (some ⟨g3,0,none⟩) (m+1) c3)):=(((hu.mono (fun y hy=>by simp [hy])).then hual).trans (hu3.mono (fun y hy=>by simp at hy;simp [hy]))).trans (hw4.mono (fun y hy=>by simp at hy;simp [hy]))
 have hfs:=hM.jf.snoc (by rw [HMm.out];cases hh:j5 A m with
  | false=>rfl
  | true=>have:=(aK _ _).1 hh;have:=HMm.out;omega) huA (fun z hz=>by
   simp only [List.mem_cons] at hz;rcases hz with rfl|rfl|hz
   ·exact fun hm=>(hM.iX _ hm).2.1 rfl
   ·exact hM.jf.L8
   ·exact fun hm=>(hM.iX z hm).1 hz) hRk (fun z hz=>by simp at hz;omega) (gr':=g3) (cr':=c3) (by
   rcases hg3 with e|e
   ·rw [e];exact hM.jf.L8
   ·exact fun hm=>by have:=hM.jf.D9 _ hm;omega) ζ (by rw [HMm.out];exact ay ho3 hw4 (fun k hk hm=>by cases hk;simp at hm;exact hn3 hm.symm))
 rw [HMm.out] at hfs;have hhF:(fun h=>j5 A h || h == m)=j5 (aG A):=funext fun q=>by unfold j5;rw [←HMm.out];exact (sZ A (by rw [HMm.out];exact hl) (by have:=HMm.out;omega) q).symm
 rw [hhF] at hfs;have hcs:(aG A).cs.length=A.cs.length:=by unfold aG;split<;>rfl
 refine ⟨rfl,B.blk F1 (Z++[w1.heap.size]) g3,⟨F1,Z++[w1.heap.size],g3,rfl,c3,iE ptr m (some w1.heap.size),iE G m [w1.heap.size],iE L m [],T,⟨?_,?_,by rw [hhs];exact hfs,?_,by rw [hcs];exact hM.tl,⟨hnF _ l0 hM.aZ.1,hg3F,hnF _ l2 hM.aZ.2.2⟩,⟨hn3,hM.sep.2.1,by have:=hM.sep.2.2;omega⟩,fun z hz=>?_⟩,hI2⟩,huA.mono (fun y hy=>?_),fun y hy=>?_⟩
 ·rw [hhs];refine ((((hM.head.upd hu hM.aZ.1).upd hual σ).upd hu3 (by simp;exact hM.sep.1)).set 1 _).ext (fun j hj=>?_)
  rcases (ω:j=0∨j=1∨j=2) with rfl|rfl|rfl<;>rfl
 ·exact ((hC.aj hual).upd hu3 (fun z hz hm=>by simp at hz;exact (hF1n z hm).1 hz)).upd hw4 (fun z hz hm=>by simp at hz;exact (hF1n z hm).2 hz)
 ·exact (((hM.wE.upd hu hM.aZ.2.2).upd hual σ).upd hu3 (by simp;exact hM.sep.2.2)).upd hw4 (by simp;exact hM.sep.2.1)
 ·rcases List.mem_append.1 hz with h|h
  ·exact ⟨hnF z (hM.jf.D9 z h) (hM.iX z h).1,(hM.iX z h).2⟩
  ·simp at h;subst h;exact ⟨fun hm=>by have:=hC1 _ hm;omega,ω,ω⟩
 ·simp only [HB.blk,List.mem_cons,List.mem_append] at hy ⊢;rcases hy with h|h|h
  ·exact Or.inl h
  ·exact Or.inr (Or.inl h)
  ·exact Or.inr (Or.inr (Or.inr (Or.inl h)))
 ·simp only [HB.blk,List.mem_cons,List.mem_append,List.not_mem_nil,or_false] at hy ⊢;rcases hy with h|h|h|h|h|h
  ·exact Or.inl (Or.inl h)
  ·rcases hg3 with e|e
   ·exact Or.inl (Or.inr (Or.inl (by rw [h,e])))
   ·exact Or.inr ω
  ·exact Or.inl (Or.inr (Or.inr (Or.inl h)))
  ·rcases hF y h with h|h
   ·exact Or.inl (Or.inr (Or.inr (Or.inr (Or.inl h))))
   ·exact Or.inr h
  ·exact Or.inl (Or.inr (Or.inr (Or.inr (Or.inr h))))
  ·exact Or.inr ω
end
theorem ow.ready {d:Nat} {A:NS} {L:Nat→List Nat} (h:ow d A L) (hd:2≤d) (ok:A.Ok) {g x:Nat} {k s:Int} (hB:jy A g x=true) :
  x∉L g∧(L g).length+1≤A.cs.length∧Hp (lU (aB A g x k s)) d (L g)∧(∀y,y∈x::L g→bD (aB A g x k s) (y:Int)=true)∧(∀y,y∈x::L g→y<A.cs.length):=by
 obtain ⟨b1,b2,b3⟩:=(cB _ _ _).1 hB;have hx:x<A.cs.length:=by have:=(dK _ _).1 b2;omega
 have hg0:=(aK _ _).1 b1;have hc:∀y,(aB A g x k s).c y=if y=x then ⟨g,k,s⟩ else A.c y:=fun y=>by
  unfold aB;rw [if_pos hB,π,iD]
  by_cases e:y=x
  ·rw [if_pos ⟨e,hx⟩,if_pos e]
  ·rw [if_neg (fun h=>e h.1),if_neg e]
 have hl:(aB A g x k s).cs.length=A.cs.length:=by unfold aB;rw [if_pos hB,dI]
 have hxL:x∉L g:=fun hm=>by
  have:=(h.len b1 hm).2.1;rw [this] at b3;cases b3
 have hlt:∀y,y∈x::L g→y<A.cs.length:=fun y hy=>by
  rcases List.mem_cons.1 hy with e|e
  ·rw [e];exact hx
  ·exact (h.len b1 e).1
 refine ⟨hxL,?_,ow.frame (h.hp g b1) hd (fun y hy=>by rw [hc,if_neg (fun e=>hxL (by rw [←e];exact hy))]),fun y hy=>?_,hlt⟩
 ·have h1:=nodup_range A.cs.length ((x::L g).map (fun (x:Nat)=>(x:Int))) (by
   have hn:=List.nodup_cons.2 ⟨hxL,h.nd g b1⟩;unfold List.Nodup at hn ⊢;rw [List.pairwise_map];exact hn.imp (fun h e=>h ω)) (fun z hz=>by
   obtain ⟨y,hy,rfl⟩:=List.mem_map.1 hz
   have:=hlt y hy;omega)
  simpa using h1
 ·refine (af _ _).2 ⟨by rw [hl];exact hlt y hy,?_⟩
  rw [hc]
  by_cases e:y=x
  ·rw [if_pos e];simp only;omega
  ·rw [if_neg e];rcases List.mem_cons.1 hy with e2|e2
   ·exact absurd e2 e
   ·have:=(h.len b1 e2).2.2;omega
section
variable {w w':World} {B:DB} {F Z:List Nat} {gr cr st:Nat} {A:NS} {ptr:Nat→Option Nat} {G L:Nat→List Nat}
theorem sU.clear (h:sU w B F Z gr cr A st ptr G L) {g:Nat} (hg:aY A g=true):∀z,z∈G g→z∉(M3 B F A h.cells.mem).rd:=fun z hz hm=>by
 have h1:=h.iX z (h.jf.vE g hg z hz);rcases List.mem_cons.1 hm with e|e
 ·exact h1.2 e
 ·exact h1.1 e
theorem sU.xh (h:sU w B F Z gr cr A st ptr G L) {g rp:Nat} (hg:aY A g=true) (hp:ptr g=some rp) {G' L':List Nat} (hu:aa (G g++[B.c]) w w') (hr:jK w' rp G' B.d L') (hG:∀z,z∈G'→z∈G g∨w.heap.size≤z) (hO:(M3 B F A h.cells.mem).at_ w') :
  ∃st',sU w' B F (Z++G') gr cr A st' ptr (iE G g G') (iE L g L'):=by
 obtain ⟨h1, -,st',h2⟩:=hO;have hcl:=h.clear hg;have hcF:=h.cells.mem;have hsl:=h.lt;refine ⟨st',⟨h.head.upd hu (fun hm=>?_),h2,h.jf.one hg hp hu (fun z hz=>?_) hr hG,h.aZ,fun z hz=>?_,h.dd⟩⟩
 ·rcases List.mem_append.1 hm with e|e
  ·exact hcl _ e (List.mem_cons.2 (Or.inl rfl))
  ·simp at e;exact h.aZ.1 (by rw [e];exact hcF)
 ·rcases List.mem_append.1 hz with e|e
  ·exact Or.inl e
  ·simp at e;refine Or.inr ⟨fun e2=>h.aZ.2.1 (by rw [←e2,e];exact hcF),fun hm=>(h.iX z hm).1 (by rw [e];exact hcF)⟩
 ·rcases List.mem_append.1 hz with e|e
  ·exact h.iX z e
  ·rcases hG z e with e2|e2
   ·exact h.iX z (h.jf.vE g hg z e2)
   ·exact ⟨fun hm=>by have:=hsl z (by simp [DB.blk,hm]);omega,fun e3=>by have:=hsl B.n0 (by simp [DB.blk]);omega⟩
def Pg (B:DB) (F Z:List Nat) (gr cr:Nat) (A':NS) (st:Nat) (ptr:Nat→Option Nat) (G L:Nat→List Nat) (g rp x:Nat) (w2:World):Prop:=sU w2 B F Z gr cr A' st ptr G L∧∀Y,aa [] w2 Y→
   Calls Tryz.prog 155 #[.pointer (some ⟨rp,0,none⟩),.iface 170 (.pointer (some ⟨B.n0,0,none⟩)),.int .i64 (x:Int)] Y fun e w'=>e=.returned (.bool true)∧∃G' L',jK w' rp G' B.d L'∧L'.Perm (x::L g)∧Hp (lU A') B.d L'∧(∃hc,(M3 B F A' hc).at_ w')∧aa (G g++[B.c]) Y w'∧∀z,z∈G'→z∈G g∨Y.heap.size≤z
theorem Br (h:lN w B F Z gr A st) (g x:Nat) (k s:Int) (hk:-9223372036854775808≤k∧k≤9223372036854775807∧0≤s∧s≤18446744073709551615) (hB:jy A g x=true) :
  Calls Tryz.prog 141 #[.pointer (some ⟨B.n0,0,none⟩),.int .i64 (g:Int),.int .i64 (x:Int),.agg #[.int .i64 k,.int .u64 s]] w fun e w'=>e=.returned (.bool true)∧Goes (B.blk F Z gr) w w' (fun F'=>∃Z' st',F'=B.blk F Z' gr∧lN w' B F Z' gr (aB A g x k s) st'):=by
 obtain ⟨cr,ptr,G,L,hM,hI⟩:=h;have hb1:=(cB _ _ _).1 hB;have hgN:=(aK _ _).1 hb1.1;have hok:=hM.cells.ok;have hcs:=hok.c1;obtain ⟨r1,r2,r3,r4,r5⟩:=hI.ready hM.dd.1 hok (k:=k) (s:=s) hB;obtain ⟨rp,hp,hR⟩:=hM.jf.row g hb1.1;have hA'h:(aB A g x k s).hs=A.hs:=by unfold aB;rw [if_pos hB];rfl
 have hhas':aY (aB A g x k s) g=true:=by have:=hb1.1;unfold aY at this ⊢;rw [hA'h];exact this
 have kadd:∀X w2,aa [] w X→az w2 B.c F (aB A g x k s) st→aa F X w2→Pg B F Z gr cr (aB A g x k s) st ptr G L g rp x w2:=by
  intro X w2 hX hC2 hu2;have hM2:=(hM.aj hX).bI hu2 hC2 (fun x hx=>Or.inl hx) hA'h
  refine ⟨hM2,fun Y hY=>?_⟩
  have hMY:=hM2.aj hY;obtain ⟨rp',hp',hRY⟩:=hMY.jf.row g hhas';rw [hp] at hp';cases hp';have hRY':jK Y rp (G g) B.d (L g):=hRY;refine (Jo (M3 B F (aB A g x k s) hMY.cells.mem) hMY.ord hRY' hM.dd ω r3 x r1 (hI.nd g hb1.1) r4 (fun y hy=>by have:=r5 y hy;omega) (hMY.clear hhas')).mono ?_
  rintro e w' ⟨rfl,G',L',h1,h2,h3,h4,h5,h6⟩;exact ⟨rfl,G',L',h1,h2,h3,⟨_,h4⟩,h5,h6⟩
 have kput:∀W (hW:aa [] w W),Calls Tryz.prog 154 #[.pointer (some ⟨B.c,0,none⟩),.int .i64 (g:Int),.int .i64 (x:Int),.agg #[.int .i64 k,.int .u64 s]] W fun e w2=>e=.returned (.bool true)∧aa F W w2∧Pg B F Z gr cr (aB A g x k s) st ptr G L g rp x w2:=fun W hW=>(kV (hM.aj hW).cells g x k s hk hB).mono (fun e w2 h=>by
  obtain ⟨rfl,hC2,hu2⟩:=h
  exact ⟨rfl,hu2,kadd W w2 hW hC2 hu2⟩)
 have c0:=hM.h0;have c2:=hM.h2;have cg:=hM.jf.cell ω hp;have hlt:=hM.lt;have HX:=χ (ψ hM (ψ hI (ψ hok (ψ hB (ψ hp (ψ hhas' hlt))))));have n1:B.n0∉F++Z:=fun hm=>by rcases List.mem_append.1 hm with e|e;exact hM.aZ.1 e;exact (hM.iX _ e).2 rfl
 have n2:gr∉F++Z:=fun hm=>by rcases List.mem_append.1 hm with e|e;exact hM.aZ.2.1 e;exact hM.jf.L8 e
 have n3:∀z,z∈F++Z→z<w.heap.size:=fun z hm=>hlt z (by simp only [DB.blk,List.mem_cons,List.mem_append] at hm ⊢;exact Or.inr (Or.inr hm))
 have hgI:(g:Int)<(A.hs.length:Int):=ω;have hgz:∀z,z∈G g++[B.c]→z∈F++Z:=fun z hz=>by
  rcases List.mem_append.1 hz with e|e
  ·exact List.mem_append.2 (Or.inr (hM.jf.vE g hb1.1 z e))
  ·simp at e;rw [e];exact List.mem_append.2 (Or.inl hM.cells.mem)
 clear hM hI hok hB hp hhas' hlt hR r1 r3 r4 r5 hb1 hgN r2 hcs hA'h;generalize A.hs.length=m at *
 go_enter Tryz.func141,Tryz.ntmps141
 go_upto_region 1 with (fail)
 refine gB (fun W=>W.cell? ⟨w.heap.size,0,none⟩=some (.int .i64 k)∧W.cell? ⟨w.heap.size,1,none⟩=some (.int .u64 s)∧aa [] w W) ⟨γ,γ,β⟩ ?_
 rintro W ⟨x0,x1,hW⟩;have hb:w.heap.size∉F++Z:=fun hm=>by have:=n3 _ hm;omega
 have e0:∀X,aa (F++Z) W X→X.cell? ⟨w.heap.size,0,none⟩=some (.int .i64 k):=fun X h=>h.kept x0 hb
 have e1:∀X,aa (F++Z) W X→X.cell? ⟨w.heap.size,1,none⟩=some (.int .u64 s):=fun X h=>h.kept x1 hb
 have e2:∀X,aa (F++Z) W X→X.cell? ⟨B.n0,0,none⟩=some (.pointer (some ⟨B.c,0,none⟩)):=fun X h=>h.kept (hW.was c0) n1
 have e3:∀X,aa (F++Z) W X→X.cell? ⟨B.n0,2,none⟩=some (.slice (some ⟨gr,0,none⟩) m cr):=fun X h=>h.kept (hW.was c2) n1
 have e4:∀X,aa (F++Z) W X→X.cell? ⟨gr,g,none⟩=some (.pointer (some ⟨rp,0,none⟩)):=fun X h=>h.kept (hW.was cg) n2
 have HW:=χ hW;have kput1:=fun X (hX:aa [] W X)=>kput X (hW.trans hX)
 clear x0 x1 hW kput c0 c2 cg
 go_region_held3 (aa (F++Z) W) (repeat (first|assumption|exact aa.refl _ _|refine aa.drew ?_|refine aa.alloc ?_ _|refine aa.setCell ?_ ?_ _|focus (left;simp;done)|focus (right;simp;done)|focus (right;simp;omega)|(apply aa.trans;rotate_left;assumption)))
  (first
   | ((go_at_call 154;(with_reducible refine (kput1 _ (by (repeat (first|assumption|exact aa.refl _ _|refine aa.drew ?_|refine aa.alloc ?_ _|refine aa.setCell ?_ ?_ _|focus (left;simp;done)|focus (right;simp;done)|focus (right;simp;omega)|(apply aa.trans;rotate_left;assumption))))).mono ?_));rintro e w2 ⟨rfl,hu2,hM2,kadd2⟩;(have hv2:aa (F++Z) W w2:=aa.trans (by (repeat (first|assumption|exact aa.refl _ _|refine aa.drew ?_|refine aa.alloc ?_ _|refine aa.setCell ?_ ?_ _|focus (left;simp;done)|focus (right;simp;done)|focus (right;simp;omega)|(apply aa.trans;rotate_left;assumption)))) (hu2.mono (fun z hz=>List.mem_append.2 (Or.inl hz)))))
   | ((go_at_call 155;(with_reducible refine (kadd2 _ (by (repeat (first|assumption|exact aa.refl _ _|refine aa.drew ?_|refine aa.alloc ?_ _|refine aa.setCell ?_ ?_ _|focus (left;simp;done)|focus (right;simp;done)|focus (right;simp;omega)|(apply aa.trans;rotate_left;assumption))))).mono ?_));rintro e w3 ⟨rfl,G',L',hR3,hp3,hH3,hO3,hu3,hG3⟩;(have hv3:aa (F++Z) W w3:=aa.trans (by (repeat (first|assumption|exact aa.refl _ _|refine aa.drew ?_|refine aa.alloc ?_ _|refine aa.setCell ?_ ?_ _|focus (left;simp;done)|focus (right;simp;done)|focus (right;simp;omega)|(apply aa.trans;rotate_left;assumption)))) (hu3.mono hgz))))
 obtain ⟨hM,hI,hok,hB,hp,hhas',hlt⟩:=HX.out;obtain ⟨hc3,hO3⟩:=hO3;have hG3':∀z,z∈G'→z∈G g∨w2.heap.size≤z:=hG3
 have hu3':aa (G g++[B.c]) w2 w3:=aa.trans (by (repeat (first|assumption|exact aa.refl _ _|refine aa.drew ?_|refine aa.alloc ?_ _|refine aa.setCell ?_ ?_ _|focus (left;simp;done)|focus (right;simp;done)|focus (right;simp;omega)|(apply aa.trans;rotate_left;assumption)))) hu3
 obtain ⟨st',hM3⟩:=hM2.xh hhas' hp hu3' hR3 hG3' hO3;have hI3:=hI.put hM.dd.1 hok hB hp3 hH3;go_wp2;go_ret;have hsz:=(HW.out).size;have hsz2:=hv2.size;refine ⟨rfl,B.blk F (Z++G') gr,⟨Z++G',st',rfl,cr,ptr,_,_,hM3,hI3.1⟩,((HW.out).mono σ).trans (hv3.mono (fun z hz=>?_)),fun z hz=>?_⟩
 ·simp only [DB.blk,List.mem_cons,List.mem_append] at hz ⊢;exact Or.inr (Or.inr hz)
 ·simp only [DB.blk,List.mem_cons,List.mem_append] at hz ⊢;rcases hz with h|h|h|h|h
  ·exact Or.inl (Or.inl h)
  ·exact Or.inl (Or.inr (Or.inl h))
  ·exact Or.inl (Or.inr (Or.inr (Or.inl h)))
  ·exact Or.inl (Or.inr (Or.inr (Or.inr h)))
  ·rcases hG3' z h with h|h
   ·have:=hgz z (List.mem_append.2 (Or.inl h));rcases List.mem_append.1 this with h|h
    ·exact Or.inl (Or.inr (Or.inr (Or.inl h)))
    ·exact Or.inl (Or.inr (Or.inr (Or.inr h)))
   ·exact Or.inr ω
end
end Go.Proofs.YtklibcncmbofpaaGreat
