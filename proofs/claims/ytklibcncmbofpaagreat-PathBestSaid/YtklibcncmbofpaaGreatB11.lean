/-
  Lemmas for PathBest: Dr2, Sd8, Dr3, Sd9. Conditions: those of each lemma.
-/
import Derived.Test.YtklibcncmbofpaaGreatB10
set_option linter.all false
set_option maxHeartbeats 8000000
set_option maxRecDepth 10000
namespace Go.Proofs.YtklibcncmbofpaaGreat
open Go Go.RowKit
theorem Oo:(Tryz.prog.info? 202).map (fun i=>(i.zero,i.size,i.bytes))=some (some (.pointer none),1,8):=by kernel_rfl
theorem og (n h:Nat):nC (NS.new n) h=false:=by
 unfold nC;cases hh:bK (NS.new n) (h:Int) with
 | false=>rfl
 | true=>have:=(aT _ _).1 hh;simp [NS.new] at this;omega
theorem SV (n d:Nat) (w:World) (h:n<=65536) (hd:2<=d/\d<=16) :
  Calls Tryz.prog 91 #[.int .i64 (n:Int),.int .i64 (d:Int)] w fun e w'=>∃B F gr,e=.returned (.tuple #[.pointer (some ⟨B.n0,0,none⟩),.int .i64 0])/\ow w' B F [] gr (NS.new n) 0/\aa [] w w'/\(∀x,x∈B.blk F [] gr->w.heap.size<=x)/\B.d=d:=by
 go_enter Tryz.func91,Tryz.ntmps91
 go_wp2_with (first
  | ((go_at_call 107;(with_reducible refine (oh n _ h).mono ?_));rintro e w1 ⟨c,F,rfl,hC,hu1,hF⟩)
  | ((go_at_call 108;(with_reducible refine (Ho d hd _).mono ?_));rintro e w2 ⟨rp,G,rfl,hR,hu2,hG⟩)
  | fail)
 go_ret2;have l1:=hu1.size;have l2:=hu2.size;have l7:=hC.lt;have e3:((w2.alloc (.cells #[.pointer none] 202)).heap.size)=w2.heap.size+1:=by rw [World.size_alloc]
 have hh:=eH (w2.alloc (.cells #[.pointer none] 202)) [.pointer (some ⟨c,0,none⟩),.int .i64 (d:Int),.slice (some ⟨w2.heap.size,0,none⟩) 1 1] 207;rw [e3] at hh;have hv:aa [] w2 (w2.alloc (.cells #[.pointer none] 202)):=(aa.refl _ _).alloc _;have hv2:aa [] (w2.alloc (.cells #[.pointer none] 202)) ((w2.alloc (.cells #[.pointer none] 202)).alloc (.cells #[.pointer (some ⟨c,0,none⟩),.int .i64 (d:Int),.slice (some ⟨w2.heap.size,0,none⟩) 1 1] 207)):=(aa.refl _ _).alloc _
 have hw:aa [] w2 ((w2.alloc (.cells #[.pointer none] 202)).alloc (.cells #[.pointer (some ⟨c,0,none⟩),.int .i64 (d:Int),.slice (some ⟨w2.heap.size,0,none⟩) 1 1] 207)):=hv.trans hv2;have ho:=qB w2 [.pointer none] 202 0 1 1 rfl ω μ;have hnF:∀x,w1.heap.size<=x->x∉F:=fun x hx hm=>by have:=l7 x hm;omega
 refine ⟨⟨w2.heap.size+1,c,d⟩,F,w2.heap.size,rfl,⟨1,fun _=>none,fun _=>[],fun _=>[],⟨hh,(hC.aA hu2).aA hw,⟨?_,fun k hk=>?_,fun k hk=>?_,fun k j hk=>?_,fun z hz=>by simp at hz,σ⟩,⟨hnF _ (by first|omega|(simp only;omega)),hnF _ ω,σ⟩,fun z hz=>by simp at hz,hd⟩,⟨fun k hk=>?_,fun k hk=>?_,fun k x hk=>?_⟩⟩,(hu1.trans hu2).trans hw,fun x hx=>?_,rfl⟩
 ·exact aF ho hv2 σ
 ·rw [og] at hk;cases hk
 ·rw [og] at hk;cases hk
 ·rw [og] at hk;cases hk
 ·have:=og n k;unfold nC at this;rw [this] at hk;cases hk
 ·have:=og n k;unfold nC at this;rw [this] at hk;cases hk
 ·have:=og n k;unfold nC at this;rw [this] at hk;cases hk
 ·simp only [DB.blk,ρ,List.append_nil] at hx;rcases hx with rfl|rfl|hx
  ·omega
  ·omega
  ·exact hF x hx
section
variable {w:World} {B:DB} {F Z:List Nat} {gr st:Nat} {A:NS}
theorem Rm (h:ow w B F Z gr A st) (hl:65536<A.hs.length) :
  Calls Tryz.prog 143 #[.pointer (some ⟨B.n0,0,none⟩)] w fun e w'=>e=.returned (.int .i64 0)/\Goes (B.blk F Z gr) w w' (fun F'=>∃F1,F'=B.blk F1 Z gr/\ow w' B F1 Z gr A st):=by
 obtain ⟨cr,ptr,G,L,hM,hI⟩:=h;have k:=iX hM.cells;have e1:dF A=0:=by unfold dF;rw [if_pos hl]
 have e2:aQ A=A:=by unfold aQ;rw [if_pos hl]
 rw [e1,e2] at k;have h0:=hM.h0;have HM:=χ (ψ hM hI);clear hM hI e1 e2
 go_enter Tryz.func143,Tryz.ntmps143
 go_wp2_with (first|((go_at_call 156;(with_reducible refine (k).mono ?_));rintro e w1 ⟨rfl,F1,hC,hu,hF⟩))
 go_ret;refine ⟨rfl,B.blk F1 Z gr,⟨F1,rfl,cr,ptr,G,L,HM.out.1.dB hu hC hF rfl,HM.out.2⟩,hu.mono (fun y hy=>by simp [DB.blk,hy]),fun x hx=>?_⟩;simp only [DB.blk,ρ,τ] at hx ⊢;rcases hx with rfl|rfl|hx|hx
 ·simp
 ·simp
 ·rcases hF x hx with h|h
  ·simp [h]
  ·exact Or.inr h
 ·simp [hx]
theorem Nq (h:ow w B F Z gr A st) (hl:¬65536<A.hs.length) :
  Calls Tryz.prog 143 #[.pointer (some ⟨B.n0,0,none⟩)] w fun e w'=>e=.returned (.int .i64 (A.hs.length:Int))/\Goes (B.blk F Z gr) w w' (fun F'=>∃F1 Z1 EW,F'=B.blk F1 Z1 EW/\ow w' B F1 Z1 EW (aQ A) st):=by
 obtain ⟨cr,ptr,G,L,hM,hI⟩:=h;have k:=iX hM.cells;have e1:dF A=A.hs.length:=by unfold dF;rw [if_neg hl]
 rw [e1] at k;have lX:(aQ A).hs.length=A.hs.length+1:=by unfold aQ;rw [if_neg hl];simp
 have hh0:=hM.cells.ok.h0;have hI2:=hI.make hM.dd.1 hM.cells.ok hl ω;have h0:=hM.h0;have kr:=fun W=>Ho B.d hM.dd W;have HM:=χ (ψ hM (ψ hI2 lX));clear hM hI e1 hI2 lX;generalize hm:A.hs.length=m at *;have Fj:=χ hm;clear hm
 go_enter Tryz.func143,Tryz.ntmps143
 go_wp2_with (first
  | ((go_at_call 156;(with_reducible refine (k).mono ?_));rintro e w1 ⟨rfl,F1,hC,hu,hF⟩;(have q1:=hu.kept HM.out.1.h1 HM.out.1.bI.1);(have q2:=hu.kept HM.out.1.h2 HM.out.1.bI.1);(have f2:=hu.aR HM.out.1.h2 HM.out.1.bI.1 (HM.out.1.head.free 2));(have ho1:=aF HM.out.1.lJ.rows hu (fun k hk hm=>by cases hk;exact HM.out.1.bI.2.1 hm));(rw [Fj.out] at q2 ho1))
  | ((go_at_call 108;(with_reducible refine (kr _).mono ?_));rintro e w2 ⟨rp,G2,rfl,hR,hu2,hG2⟩;(have q3:=hu2.was q2);(have f3:=hu2.aR q2 σ f2);(have ho2:=aF ho1 hu2 σ))
  | (at_builtin;refine aW rfl _ _ 205 rfl 0 202 (.pointer none) 1 8 Tryz.underlying205 Oo rfl δ _ _ _ rfl (ho2) [Bw (some rp)] rfl (by simp [Value.oneCell',Bw]) (by first|rfl|(rw [World.size_alloc];rfl)) μ ω ω ?_;intro v3 w3 ho3 hu3 Gj;(have hu3:aa [gr] w2 w3:=hu3);obtain ⟨g3,c3,ev, -⟩:=gM ho3 ω;subst ev;(have d4:=hu3.kept q3 (by simp;exact HM.out.1.bI.2.2));(have f4:=hu3.aR q3 (by simp;exact HM.out.1.bI.2.2) f3))
  | fail)
 go_ret;obtain ⟨hM,hI2,lX⟩:=HM.out;have hlt:=hM.lt;have l0:=hlt B.n0 (by simp [DB.blk]);have l1:=hlt gr (by simp [DB.blk]);have hs1:=hu.size;have hs2:=hu2.size;have hs3:=hu3.size;have jD:=hC.lt;have hg3:g3=gr\/w2.heap.size<g3:=by
  rcases Gj with h|h
  ·exact Or.inl (Option.some.inj h)
  ·exact Or.inr (h g3 rfl)
 have hw4:aa [B.n0] w3 (w3.setCell ⟨B.n0,2,none⟩ (.slice (some ⟨g3,0,none⟩) (m+1) c3)):=β;have hnF:∀y,y<w.heap.size->y∉F->y∉F1:=fun y hy hn hm=>by rcases hF y hm with h'|h';exact hn h';omega
 have Jm:B.n0≠g3:=by have:=hM.bI.2.2;omega
 have Zu:g3∉F1:=by
  rcases hg3 with e|e
  ·rw [e];exact hnF gr l1 hM.bI.2.1
  ·exact fun hm=>by have:=jD g3 hm;omega
 have Td:∀z,z∈F1->z≠gr/\z≠B.n0:=fun z hz=>⟨fun e=>hnF gr l1 hM.bI.2.1 (by rw [←e];exact hz),fun e=>hnF _ l0 hM.bI.1 (by rw [←e];exact hz)⟩
 have hG2l:=hR.lt;have hRk:(rowK B.d).at_ (w3.setCell ⟨B.n0,2,none⟩ (.slice (some ⟨g3,0,none⟩) (m+1) c3)) rp G2 []:=(hR.upd hu3 (fun z hz hm=>by simp at hz;have:=hG2 z hm;omega)).upd hw4 (fun z hz hm=>by simp at hz;have:=hG2 z hm;omega);have huA:aa (B.n0::gr::F) w (w3.setCell ⟨B.n0,2,none⟩ (.slice (some ⟨g3,0,none⟩) (m+1) c3)):=(((hu.mono (fun y hy=>by simp [hy])).then hu2).trans (hu3.mono (fun y hy=>by simp at hy;simp [hy]))).trans (hw4.mono (fun y hy=>by simp at hy;simp [hy]))
 have hfs:=hM.lJ.snoc (by rw [Fj.out];cases hh:nC A m with
  | false=>rfl
  | true=>have:=(aT _ _).1 hh;have:=Fj.out;omega) huA (fun z hz=>by
   simp only [ρ] at hz;rcases hz with rfl|rfl|hz
   ·exact fun hm=>(hM.lH _ hm).2 rfl
   ·exact hM.lJ.Uf
   ·exact fun hm=>(hM.lH z hm).1 hz) hRk (fun z hz=>by have:=hG2 z hz;omega) (Z4:=g3) (cr':=c3) (by
   rcases hg3 with e|e
   ·rw [e];exact hM.lJ.Uf
   ·exact fun hm=>by have:=hM.lJ.Jl _ hm;omega) (by
   rcases hg3 with e|e
   ·rw [e];exact fun hm=>by have:=hG2 _ hm;omega
   ·exact fun hm=>by have:=hG2l _ hm;omega) (by rw [Fj.out];exact aF ho3 hw4 (fun k hk hm=>by cases hk;simp at hm;exact Jm hm.symm))
 rw [Fj.out] at hfs;have hhF:(fun h=>nC A h || h == m)=nC (aQ A):=funext fun q=>by unfold nC;rw [←Fj.out];exact (vW A (by rw [Fj.out];exact hl) (by have:=Fj.out;omega) q).symm
 rw [hhF] at hfs;refine ⟨rfl,B.blk F1 (Z++G2) g3,⟨F1,Z++G2,g3,rfl,c3,j3 ptr m (some rp),j3 G m G2,j3 L m [],⟨?_,?_,by rw [lX];exact hfs,⟨hnF _ l0 hM.bI.1,Zu,Jm⟩,fun z hz=>?_,hM.dd⟩,hI2⟩,huA.mono (fun y hy=>?_),fun y hy=>?_⟩
 ·rw [lX];refine ((((hM.head.upd hu hM.bI.1).upd hu2 σ).upd hu3 (by simp;exact hM.bI.2.2)).set 2 _).ext (fun j hj=>?_);rcases (ω:j=0\/j=1\/j=2) with rfl|rfl|rfl<;>rfl
 ·exact ((hC.aA hu2).upd hu3 (fun z hz hm=>by simp at hz;exact (Td z hm).1 hz)).upd hw4 (fun z hz hm=>by simp at hz;exact (Td z hm).2 hz)
 ·rcases τ.1 hz with h|h
  ·exact ⟨hnF z (hM.lJ.Jl z h) (hM.lH z h).1,(hM.lH z h).2⟩
  ·have:=hG2 z h;exact ⟨fun hm=>by have:=jD z hm;omega,ω⟩
 ·simp only [DB.blk,ρ,τ] at hy ⊢;rcases hy with h|h|h
  ·exact Or.inl h
  ·exact Or.inr (Or.inl h)
  ·exact Or.inr (Or.inr (Or.inl h))
 ·simp only [DB.blk,ρ,τ] at hy ⊢;rcases hy with h|h|h|h|h
  ·exact Or.inl (Or.inl h)
  ·rcases hg3 with e|e
   ·exact Or.inl (Or.inr (Or.inl (by rw [h,e])))
   ·exact Or.inr ω
  ·rcases hF y h with h|h
   ·exact Or.inl (Or.inr (Or.inr (Or.inl h)))
   ·exact Or.inr h
  ·exact Or.inl (Or.inr (Or.inr (Or.inr h)))
  ·exact Or.inr (by have:=hG2 y h;omega)
end
theorem Y5:(Tryz.prog.info? 317).map (fun i=>(i.zero,i.size,i.bytes))=some (some (.pointer none),1,8):=by kernel_rfl
theorem Vr (W:World) (n:Nat) (hn:n<=65536):IZ (W.alloc (.cells (madeCells #[.int .i64 0] n) 3)) W.heap.size n (bJ (List.replicate n 0)):=by
 have hl:(bJ (List.replicate n 0)).length=n:=by rw [dI];simp
 refine ⟨⟨by rw [hl];simp [fG,hl],Or.inr ⟨W.heap.size,n,madeCells #[.int .i64 0] n,by rw [hl],Nat.zero_le _,?_,by rw [hl];exact Nat.le_refl _,μ,by simp [madeCells],?_⟩⟩⟩
 ·show (W.heap.push _)[W.heap.size]?=_;simp
 ·rw [hl];apply List.ext_getElem?;intro j
  by_cases hj:j<n
  ·simp [madeCells,hj,aU,bJ,Nat.mod_one]
  ·rw [List.getElem?_eq_none (by simp [madeCells];omega),List.getElem?_eq_none (by rw [fG,hl];omega)]
theorem Mr (n:Nat) (w:World) (h:n<=65536) :
  Calls Tryz.prog 104 #[.int .i64 (n:Int)] w fun e w'=>∃B F gr,e=.returned (.tuple #[.pointer (some ⟨B.n0,0,none⟩),.int .i64 0])/\ShAt w' B F [] gr (NS.new n) 0/\aa [] w w'/\∀x,x∈B.blk F [] gr->w.heap.size<=x:=by
 have hmk:=run_make_row' (P:=Tryz.prog) 26 3 (.int .i64 0) 8 Tryz.underlying26 fK rfl .i64 .i64 n ω ω
 go_enter Tryz.func104,Tryz.ntmps104
 go_wp2_with (first
  | ((go_at_call 107;(with_reducible refine (oh n _ h).mono ?_));rintro e w1 ⟨c,F,rfl,hC,hu1,hF⟩)
  | fail)
 go_ret2;have l1:=hu1.size;have l7:=hC.lt;have hv:aa [] w1 (w1.alloc (.cells #[.pointer none] 317)):=(aa.refl _ _).alloc _;obtain ⟨w2,hw2⟩:∃w2,w2=w1.alloc (.cells #[.pointer none] 317):=⟨_,rfl⟩;have e2:w2.heap.size=w1.heap.size+1:=by rw [hw2,World.size_alloc]
 have hz:=Vr w2 n h;obtain ⟨w3,hw3⟩:∃w3,w3=w2.alloc (.cells (madeCells #[.int .i64 0] n) 3):=⟨_,rfl⟩;have e3:w3.heap.size=w1.heap.size+1+1:=by rw [hw3,World.size_alloc,e2]
 have hh:=eH w3 [.pointer (some ⟨c,0,none⟩),.slice (some ⟨w1.heap.size,0,none⟩) 1 1,.slice (some ⟨w1.heap.size+1,0,none⟩) n n] 237;rw [e3] at hh;have ZK:aa [] w2 w3:=by rw [hw3];exact (aa.refl _ _).alloc _
 have hv3:aa [] w3 (w3.alloc (.cells #[.pointer (some ⟨c,0,none⟩),.slice (some ⟨w1.heap.size,0,none⟩) 1 1,.slice (some ⟨w1.heap.size+1,0,none⟩) n n] 237)):=(aa.refl _ _).alloc _;have hv12:aa [] w1 w2:=by rw [hw2];exact hv
 have ho:=qB w1 [.pointer none] 317 0 1 1 rfl ω μ;rw [←hw3,e2] at hz;have hnF:∀x,w1.heap.size<=x->x∉F:=fun x hx hm=>by have:=l7 x hm;omega
 have hno:∀k:Nat,bK (NS.new n) k=false:=fun k=>og n k;have hrep:(List.replicate n 0).length=n:=σ;rw [←hw2,←hw3]
 refine ⟨⟨w1.heap.size+1+1,c,w1.heap.size+1⟩,F,w1.heap.size,rfl,⟨1,fun _=>none,fun _=>[],fun _=>[],List.replicate n 0,⟨?_,((hC.aA hv12).aA ZK).aA hv3,⟨?_,fun k hk=>?_,fun k hk=>?_,fun k j hk=>?_,fun z hz=>by simp at hz,σ⟩,?_,?_,⟨hnF _ (by first|omega|(simp only;omega)),hnF _ ω,hnF _ (by first|omega|(simp only;omega))⟩,⟨by simp only;omega,by simp only;omega,by simp only;omega⟩,fun z hz=>by simp at hz⟩,⟨⟨fun k hk=>?_,fun k hk=>?_,fun k x hk=>?_⟩,fun k hk=>?_⟩⟩,((hu1.trans hv12).trans ZK).trans hv3,fun x hx=>?_⟩
 ·rw [hrep];exact hh
 ·rw [←hw2] at ho;exact aF (aF ho ZK σ) hv3 σ
 ·unfold nC at hk;rw [hno] at hk;cases hk
 ·unfold nC at hk;rw [hno] at hk;cases hk
 ·unfold nC at hk;rw [hno] at hk;cases hk
 ·rw [hrep];exact hz.upd hv3 σ
 ·simp [NS.new]
 ·rw [hno] at hk;cases hk
 ·rw [hno] at hk;cases hk
 ·rw [hno] at hk;cases hk
 ·rw [hno] at hk;cases hk
 ·simp only [HB.blk,ρ,List.append_nil] at hx;rcases hx with rfl|rfl|rfl|hx
  ·omega
  ·omega
  ·omega
  ·exact hF x hx
section
variable {w:World} {B:HB} {F Z:List Nat} {gr st:Nat} {A:NS}
theorem Mv (h:ShAt w B F Z gr A st) (hl:65536<A.hs.length) :
  Calls Tryz.prog 274 #[.pointer (some ⟨B.n0,0,none⟩)] w fun e w'=>e=.returned (.int .i64 0)/\Goes (B.blk F Z gr) w w' (fun F'=>∃F1,F'=B.blk F1 Z gr/\ShAt w' B F1 Z gr A st):=by
 obtain ⟨cr,ptr,G,L,T,hM,hI⟩:=h;have k:=iX hM.cells;have e1:dF A=0:=by unfold dF;rw [if_pos hl]
 have e2:aQ A=A:=by unfold aQ;rw [if_pos hl]
 rw [e1,e2] at k;have h0:=hM.h0;have HM:=χ (ψ hM hI);clear hM hI e1 e2
 go_enter Tryz.func274,Tryz.ntmps274
 go_wp2_with (first|((go_at_call 156;(with_reducible refine (k).mono ?_));rintro e w1 ⟨rfl,F1,hC,hu,hF⟩))
 go_ret;refine ⟨rfl,B.blk F1 Z gr,⟨F1,rfl,cr,ptr,G,L,T,HM.out.1.dB hu hC hF rfl rfl,HM.out.2⟩,hu.mono (fun y hy=>by simp [HB.blk,hy]),fun x hx=>?_⟩;simp only [HB.blk,ρ,τ] at hx ⊢;rcases hx with rfl|rfl|rfl|hx|hx
 ·simp
 ·simp
 ·simp
 ·rcases hF x hx with h|h
  ·simp [h]
  ·exact Or.inr h
 ·simp [hx]
theorem Kq (h:ShAt w B F Z gr A st) (hl:¬65536<A.hs.length) :
  Calls Tryz.prog 274 #[.pointer (some ⟨B.n0,0,none⟩)] w fun e w'=>e=.returned (.int .i64 (A.hs.length:Int))/\Goes (B.blk F Z gr) w w' (fun F'=>∃F1 Z1 EW,F'=B.blk F1 Z1 EW/\ShAt w' B F1 Z1 EW (aQ A) st):=by
 obtain ⟨cr,ptr,G,L,T,hM,hI⟩:=h;have k:=iX hM.cells;have e1:dF A=A.hs.length:=by unfold dF;rw [if_neg hl]
 rw [e1] at k;have lX:(aQ A).hs.length=A.hs.length+1:=by unfold aQ;rw [if_neg hl];simp
 have hh0:=hM.cells.ok.h0;have hIp:SdI (aQ A) (j3 L A.hs.length []) T:=by
  refine ⟨hI.di.make ω hM.cells.ok hl ω,fun k hk j x hj=>?_⟩
  by_cases e:k=A.hs.length
  ·subst e;rw [dX] at hj;simp at hj
  ·rw [bQ _ _ e] at hj;rw [vW A hl ω] at hk;exact hI.Be k (by simpa [e] using hk) j x hj
 have h0:=hM.h0;have HM:=χ (ψ hM (ψ hIp lX));clear hM hI e1 hIp lX;generalize hm:A.hs.length=m at *;have Fj:=χ hm;clear hm
 go_enter Tryz.func274,Tryz.ntmps274
 go_wp2_with (first
  | ((go_at_call 156;(with_reducible refine (k).mono ?_));rintro e w1 ⟨rfl,F1,hC,hu,hF⟩;(have q2:=hu.kept HM.out.1.h1 HM.out.1.bI.1);(have f2:=hu.aR HM.out.1.h1 HM.out.1.bI.1 (HM.out.1.head.free 1));(have ho1:=aF HM.out.1.lJ.rows hu (fun k hk hm=>by cases hk;exact HM.out.1.bI.2.1 hm));(rw [Fj.out] at q2 ho1);(have ho2:(w1.alloc (.cells #[.pointer (some ⟨B.n0,0,none⟩),.slice none 0 0] 321)).ownsRow _ _ _ _ _ _:=aF ho1 ((aa.refl [] w1).alloc (.cells #[.pointer (some ⟨B.n0,0,none⟩),.slice none 0 0] 321)) σ))
  | (at_builtin;refine aW rfl _ _ 235 rfl 0 317 (.pointer none) 1 8 Tryz.underlying235 Y5 rfl δ _ _ _ rfl (ho2) [Bw (some w1.heap.size)] rfl (by simp [Value.oneCell',Bw]) (by first|rfl|(rw [World.size_alloc];rfl)) μ ω ω ?_;intro v3 w3 ho3 hu3 Gj;(have hu3:aa [gr] (w1.alloc (.cells #[.pointer (some ⟨B.n0,0,none⟩),.slice none 0 0] 321)) w3:=hu3);obtain ⟨g3,c3,ev, -⟩:=gM ho3 ω;subst ev;(have q3:(w1.alloc (.cells #[.pointer (some ⟨B.n0,0,none⟩),.slice none 0 0] 321)).cell? ⟨B.n0,1,none⟩=_:=((aa.refl [] w1).alloc _).was q2);(have f3:(w1.alloc (.cells #[.pointer (some ⟨B.n0,0,none⟩),.slice none 0 0] 321)).frozen? ⟨B.n0,1,none⟩=false:=((aa.refl [] w1).alloc _).aR q2 σ f2);(have d4:=hu3.kept q3 (by simp;exact HM.out.1.sep.1));(have f4:=hu3.aR q3 (by simp;exact HM.out.1.sep.1) f3))
  | fail)
 go_ret;obtain ⟨hM,hI2,lX⟩:=HM.out;have hlt:=hM.lt;have l0:=hlt B.n0 (by simp [HB.blk]);have l1:=hlt gr (by simp [HB.blk]);have l2:=hlt B.ga (by simp [HB.blk]);have hs1:=hu.size;have hs3:=hu3.size;rw [World.size_alloc] at hs3;have jD:=hC.lt;have hrow:=eH w1 [.pointer (some ⟨B.n0,0,none⟩),.slice none 0 0] 321;have Vb:aa [] w1 (w1.alloc (.cells #[.pointer (some ⟨B.n0,0,none⟩),.slice none 0 0] 321)):=(aa.refl _ _).alloc _;have hg3:g3=gr\/w1.heap.size+1<g3:=by
  rcases Gj with h|h
  ·exact Or.inl (Option.some.inj h)
  ·right;have:=h g3 rfl;rwa [World.size_alloc] at this
 have hw4:aa [B.n0] w3 (w3.setCell ⟨B.n0,1,none⟩ (.slice (some ⟨g3,0,none⟩) (m+1) c3)):=β;have hnF:∀y,y<w.heap.size->y∉F->y∉F1:=fun y hy hn hm=>by rcases hF y hm with h'|h';exact hn h';omega
 have Jm:B.n0≠g3:=by have:=hM.sep.1;omega
 have Zu:g3∉F1:=by
  rcases hg3 with e|e
  ·rw [e];exact hnF gr l1 hM.bI.2.1
  ·exact fun hm=>by have:=jD g3 hm;omega
 have Td:∀z,z∈F1->z≠gr/\z≠B.n0:=fun z hz=>⟨fun e=>hnF gr l1 hM.bI.2.1 (by rw [←e];exact hz),fun e=>hnF _ l0 hM.bI.1 (by rw [←e];exact hz)⟩
 have hRk:(pilK B).at_ (w3.setCell ⟨B.n0,1,none⟩ (.slice (some ⟨g3,0,none⟩) (m+1) c3)) w1.heap.size [w1.heap.size] []:=by
  refine ⟨.slice none 0 0,((hrow.ext (fun j hj=>rfl)).upd hu3 ζ).upd hw4 ζ,⟨rfl,Or.inl ⟨rfl,rfl⟩⟩,rfl,fun g hg=>by cases hg⟩
 have huA:aa (B.n0::gr::F) w (w3.setCell ⟨B.n0,1,none⟩ (.slice (some ⟨g3,0,none⟩) (m+1) c3)):=(((hu.mono (fun y hy=>by simp [hy])).then Vb).trans (hu3.mono (fun y hy=>by simp at hy;simp [hy]))).trans (hw4.mono (fun y hy=>by simp at hy;simp [hy]))
 have hfs:=hM.lJ.snoc (by rw [Fj.out];cases hh:nC A m with
  | false=>rfl
  | true=>have:=(aT _ _).1 hh;have:=Fj.out;omega) huA (fun z hz=>by
   simp only [ρ] at hz;rcases hz with rfl|rfl|hz
   ·exact fun hm=>(hM.lH _ hm).2.1 rfl
   ·exact hM.lJ.Uf
   ·exact fun hm=>(hM.lH z hm).1 hz) hRk (fun z hz=>by simp at hz;omega) (Z4:=g3) (cr':=c3) (by
   rcases hg3 with e|e
   ·rw [e];exact hM.lJ.Uf
   ·exact fun hm=>by have:=hM.lJ.Jl _ hm;omega) ζ (by rw [Fj.out];exact aF ho3 hw4 (fun k hk hm=>by cases hk;simp at hm;exact Jm hm.symm))
 rw [Fj.out] at hfs;have hhF:(fun h=>nC A h || h == m)=nC (aQ A):=funext fun q=>by unfold nC;rw [←Fj.out];exact (vW A (by rw [Fj.out];exact hl) (by have:=Fj.out;omega) q).symm
 rw [hhF] at hfs;have hcs:(aQ A).cs.length=A.cs.length:=by unfold aQ;split<;>rfl
 refine ⟨rfl,B.blk F1 (Z++[w1.heap.size]) g3,⟨F1,Z++[w1.heap.size],g3,rfl,c3,j3 ptr m (some w1.heap.size),j3 G m [w1.heap.size],j3 L m [],T,⟨?_,?_,by rw [lX];exact hfs,?_,by rw [hcs];exact hM.tl,⟨hnF _ l0 hM.bI.1,Zu,hnF _ l2 hM.bI.2.2⟩,⟨Jm,hM.sep.2.1,by have:=hM.sep.2.2;omega⟩,fun z hz=>?_⟩,hI2⟩,huA.mono (fun y hy=>?_),fun y hy=>?_⟩
 ·rw [lX];refine ((((hM.head.upd hu hM.bI.1).upd Vb σ).upd hu3 (by simp;exact hM.sep.1)).set 1 _).ext (fun j hj=>?_);rcases (ω:j=0\/j=1\/j=2) with rfl|rfl|rfl<;>rfl
 ·exact ((hC.aA Vb).upd hu3 (fun z hz hm=>by simp at hz;exact (Td z hm).1 hz)).upd hw4 (fun z hz hm=>by simp at hz;exact (Td z hm).2 hz)
 ·exact (((hM.zD.upd hu hM.bI.2.2).upd Vb σ).upd hu3 (by simp;exact hM.sep.2.2)).upd hw4 (by simp;exact hM.sep.2.1)
 ·rcases τ.1 hz with h|h
  ·exact ⟨hnF z (hM.lJ.Jl z h) (hM.lH z h).1,(hM.lH z h).2⟩
  ·simp at h;subst h;exact ⟨fun hm=>by have:=jD _ hm;omega,ω,ω⟩
 ·simp only [HB.blk,ρ,τ] at hy ⊢;rcases hy with h|h|h
  ·exact Or.inl h
  ·exact Or.inr (Or.inl h)
  ·exact Or.inr (Or.inr (Or.inr (Or.inl h)))
 ·simp only [HB.blk,ρ,τ,ς,or_false] at hy ⊢;rcases hy with h|h|h|h|h|h
  ·exact Or.inl (Or.inl h)
  ·rcases hg3 with e|e
   ·exact Or.inl (Or.inr (Or.inl (by rw [h,e])))
   ·exact Or.inr ω
  ·exact Or.inl (Or.inr (Or.inr (Or.inl h)))
  ·rcases hF y h with h|h
   ·exact Or.inl (Or.inr (Or.inr (Or.inr (Or.inl h))))
   ·exact Or.inr h
  ·exact Or.inl (Or.inr (Or.inr (Or.inr (Or.inr h))))
  ·exact Or.inr ω
end
theorem rE.ready {d:Nat} {A:NS} {L:Nat->List Nat} (h:rE d A L) (hd:2<=d) (ok:A.Ok) {g x:Nat} {k s:Int} (hB:oF A g x=true) :
  x∉L g/\(L g).length+1<=A.cs.length/\Hp (oI (aN A g x k s)) d (L g)/\(∀y,y∈x::L g->bX (aN A g x k s) (y:Int)=true)/\(∀y,y∈x::L g->y<A.cs.length):=by
 obtain ⟨b1,b2,b3⟩:=(fE _ _ _).1 hB;have hx:x<A.cs.length:=by have:=(ic _ _).1 b2;omega
 have hg0:=(aT _ _).1 b1;have hc:∀y,(aN A g x k s).c y=if y=x then ⟨g,k,s⟩ else A.c y:=fun y=>by
  unfold aN;rw [if_pos hB,π,kV]
  by_cases e:y=x
  ·rw [if_pos ⟨e,hx⟩,if_pos e]
  ·rw [if_neg (fun h=>e h.1),if_neg e]
 have hl:(aN A g x k s).cs.length=A.cs.length:=by unfold aN;rw [if_pos hB,fO]
 have hxL:x∉L g:=fun hm=>by
  have:=(h.len b1 hm).2.1;rw [this] at b3;cases b3
 have hlt:∀y,y∈x::L g->y<A.cs.length:=fun y hy=>by
  rcases ρ.1 hy with e|e
  ·rw [e];exact hx
  ·exact (h.len b1 e).1
 refine ⟨hxL,?_,rE.frame (h.hp g b1) hd (fun y hy=>by rw [hc,if_neg (fun e=>hxL (by rw [←e];exact hy))]),fun y hy=>?_,hlt⟩
 ·have h1:=nodup_range A.cs.length ((x::L g).map (fun (x:Nat)=>(x:Int))) (by
   have hn:=List.nodup_cons.2 ⟨hxL,h.nd g b1⟩;unfold List.Nodup at hn ⊢;rw [List.pairwise_map];exact hn.imp (fun h e=>h ω)) (fun z hz=>by
   obtain ⟨y,hy,rfl⟩:=List.mem_map.1 hz
   have:=hlt y hy;omega)
  simpa using h1
 ·refine (ai _ _).2 ⟨by rw [hl];exact hlt y hy,?_⟩;rw [hc]
  by_cases e:y=x
  ·rw [if_pos e];simp only;omega
  ·rw [if_neg e];rcases ρ.1 hy with e2|e2
   ·exact absurd e2 e
   ·have:=(h.len b1 e2).2.2;omega
section
variable {w w':World} {B:DB} {F Z:List Nat} {gr cr st:Nat} {A:NS} {ptr:Nat->Option Nat} {G L:Nat->List Nat}
theorem vS.clear (h:vS w B F Z gr cr A st ptr G L) {g:Nat} (hg:bK A g=true):∀z,z∈G g->z∉(UU B F A h.cells.mem).rd:=fun z hz hm=>by
 have h1:=h.lH z (h.lJ.yF g hg z hz);rcases ρ.1 hm with e|e
 ·exact h1.2 e
 ·exact h1.1 e
theorem vS.zQ (h:vS w B F Z gr cr A st ptr G L) {g rp:Nat} (hg:bK A g=true) (hp:ptr g=some rp) {G' L':List Nat} (hu:aa (G g++[B.c]) w w') (hr:mU w' rp G' B.d L') (hG:∀z,z∈G'->z∈G g\/w.heap.size<=z) (hO:(UU B F A h.cells.mem).at_ w') :
  ∃st',vS w' B F (Z++G') gr cr A st' ptr (j3 G g G') (j3 L g L'):=by
 obtain ⟨h1, -,st',h2⟩:=hO;have hcl:=h.clear hg;have qA:=h.cells.mem;have hsl:=h.lt;refine ⟨st',⟨h.head.upd hu (fun hm=>?_),h2,h.lJ.one hg hp hu (fun z hz=>?_) hr hG,h.bI,fun z hz=>?_,h.dd⟩⟩
 ·rcases τ.1 hm with e|e
  ·exact hcl _ e (ρ.2 (Or.inl rfl))
  ·simp at e;exact h.bI.1 (by rw [e];exact qA)
 ·rcases τ.1 hz with e|e
  ·exact Or.inl e
  ·simp at e;refine Or.inr ⟨fun e2=>h.bI.2.1 (by rw [←e2,e];exact qA),fun hm=>(h.lH z hm).1 (by rw [e];exact qA)⟩
 ·rcases τ.1 hz with e|e
  ·exact h.lH z e
  ·rcases hG z e with e2|e2
   ·exact h.lH z (h.lJ.yF g hg z e2)
   ·exact ⟨fun hm=>by have:=hsl z (by simp [DB.blk,hm]);omega,fun e3=>by have:=hsl B.n0 (by simp [DB.blk]);omega⟩
def AddR (B:DB) (F Z:List Nat) (gr cr:Nat) (A':NS) (st:Nat) (ptr:Nat->Option Nat) (G L:Nat->List Nat) (g rp x:Nat) (w2:World):Prop:=vS w2 B F Z gr cr A' st ptr G L/\∀Y,aa [] w2 Y->
   Calls Tryz.prog 155 #[.pointer (some ⟨rp,0,none⟩),.iface 170 (.pointer (some ⟨B.n0,0,none⟩)),.int .i64 (x:Int)] Y fun e w'=>e=.returned (.bool true)/\∃G' L',mU w' rp G' B.d L'/\L'.Perm (x::L g)/\Hp (oI A') B.d L'/\(∃hc,(UU B F A' hc).at_ w')/\aa (G g++[B.c]) Y w'/\∀z,z∈G'->z∈G g\/Y.heap.size<=z
theorem Io (h:ow w B F Z gr A st) (g x:Nat) (k s:Int) (hk:-9223372036854775808<=k/\k<=9223372036854775807/\0<=s/\s<=18446744073709551615) (hB:oF A g x=true) :
  Calls Tryz.prog 141 #[.pointer (some ⟨B.n0,0,none⟩),.int .i64 (g:Int),.int .i64 (x:Int),.agg #[.int .i64 k,.int .u64 s]] w fun e w'=>e=.returned (.bool true)/\Goes (B.blk F Z gr) w w' (fun F'=>∃Z' st',F'=B.blk F Z' gr/\ow w' B F Z' gr (aN A g x k s) st'):=by
 obtain ⟨cr,ptr,G,L,hM,hI⟩:=h;have hb1:=(fE _ _ _).1 hB;have hgN:=(aT _ _).1 hb1.1;have hok:=hM.cells.ok;have hcs:=hok.c1;obtain ⟨r1,r2,r3,r4,r5⟩:=hI.ready hM.dd.1 hok (k:=k) (s:=s) hB;obtain ⟨rp,hp,hR⟩:=hM.lJ.row g hb1.1;have pG:(aN A g x k s).hs=A.hs:=by unfold aN;rw [if_pos hB];rfl
 have iF:bK (aN A g x k s) g=true:=by have:=hb1.1;unfold bK at this ⊢;rw [pG];exact this
 have Vl:∀X w2,aa [] w X->aG w2 B.c F (aN A g x k s) st->aa F X w2->AddR B F Z gr cr (aN A g x k s) st ptr G L g rp x w2:=by
  intro X w2 hX hC2 hu2;have hM2:=(hM.aA hX).dB hu2 hC2 (fun x hx=>Or.inl hx) pG;refine ⟨hM2,fun Y hY=>?_⟩;have Ma:=hM2.aA hY;obtain ⟨rp',hp',hRY⟩:=Ma.lJ.row g iF;rw [hp] at hp';cases hp';have Qa:mU Y rp (G g) B.d (L g):=hRY;refine (Q9 (UU B F (aN A g x k s) Ma.cells.mem) Ma.ord Qa hM.dd ω r3 x r1 (hI.nd g hb1.1) r4 (fun y hy=>by have:=r5 y hy;omega) (Ma.clear iF)).mono ?_;rintro e w' ⟨rfl,G',L',h1,h2,h3,h4,h5,h6⟩;exact ⟨rfl,G',L',h1,h2,h3,⟨_,h4⟩,h5,h6⟩
 have Tv:∀W (hW:aa [] w W),Calls Tryz.prog 154 #[.pointer (some ⟨B.c,0,none⟩),.int .i64 (g:Int),.int .i64 (x:Int),.agg #[.int .i64 k,.int .u64 s]] W fun e w2=>e=.returned (.bool true)/\aa F W w2/\AddR B F Z gr cr (aN A g x k s) st ptr G L g rp x w2:=fun W hW=>(oC (hM.aA hW).cells g x k s hk hB).mono (fun e w2 h=>by
  obtain ⟨rfl,hC2,hu2⟩:=h
  exact ⟨rfl,hu2,Vl W w2 hW hC2 hu2⟩)
 have c0:=hM.h0;have c2:=hM.h2;have cg:=hM.lJ.cell ω hp;have hlt:=hM.lt;have HX:=χ (ψ hM (ψ hI (ψ hok (ψ hB (ψ hp (ψ iF hlt))))));have n1:B.n0∉F++Z:=fun hm=>by rcases τ.1 hm with e|e;exact hM.bI.1 e;exact (hM.lH _ e).2 rfl
 have n2:gr∉F++Z:=fun hm=>by rcases τ.1 hm with e|e;exact hM.bI.2.1 e;exact hM.lJ.Uf e
 have n3:∀z,z∈F++Z->z<w.heap.size:=fun z hm=>hlt z (by simp only [DB.blk,ρ,τ] at hm ⊢;exact Or.inr (Or.inr hm));have Qk:(g:Int)<(A.hs.length:Int):=ω;have hgz:∀z,z∈G g++[B.c]->z∈F++Z:=fun z hz=>by
  rcases τ.1 hz with e|e
  ·exact τ.2 (Or.inr (hM.lJ.yF g hb1.1 z e))
  ·simp at e;rw [e];exact τ.2 (Or.inl hM.cells.mem)
 clear hM hI hok hB hp iF hlt hR r1 r3 r4 r5 hb1 hgN r2 hcs pG;generalize A.hs.length=m at *
 go_enter Tryz.func141,Tryz.ntmps141
 go_upto_region 1 with (fail)
 refine jA (fun W=>W.cell? ⟨w.heap.size,0,none⟩=some (.int .i64 k)/\W.cell? ⟨w.heap.size,1,none⟩=some (.int .u64 s)/\aa [] w W) ⟨γ,γ,β⟩ ?_;rintro W ⟨x0,x1,hW⟩;have hb:w.heap.size∉F++Z:=fun hm=>by have:=n3 _ hm;omega
 have e0:∀X,aa (F++Z) W X->X.cell? ⟨w.heap.size,0,none⟩=some (.int .i64 k):=fun X h=>h.kept x0 hb;have e1:∀X,aa (F++Z) W X->X.cell? ⟨w.heap.size,1,none⟩=some (.int .u64 s):=fun X h=>h.kept x1 hb;have e2:∀X,aa (F++Z) W X->X.cell? ⟨B.n0,0,none⟩=some (.pointer (some ⟨B.c,0,none⟩)):=fun X h=>h.kept (hW.was c0) n1;have e3:∀X,aa (F++Z) W X->X.cell? ⟨B.n0,2,none⟩=some (.slice (some ⟨gr,0,none⟩) m cr):=fun X h=>h.kept (hW.was c2) n1;have e4:∀X,aa (F++Z) W X->X.cell? ⟨gr,g,none⟩=some (.pointer (some ⟨rp,0,none⟩)):=fun X h=>h.kept (hW.was cg) n2;have HW:=χ hW
 have LC:=fun X (hX:aa [] W X)=>Tv X (hW.trans hX);clear x0 x1 hW Tv c0 c2 cg
 go_region_held3 (aa (F++Z) W) (exact ν)
  (first
   | ((go_at_call 154;(with_reducible refine (LC _ ν).mono ?_));rintro e w2 ⟨rfl,hu2,hM2,TY⟩;(have hv2:aa (F++Z) W w2:=aa.trans ν (hu2.mono (fun z hz=>τ.2 (Or.inl hz)))))
   | ((go_at_call 155;(with_reducible refine (TY _ ν).mono ?_));rintro e w3 ⟨rfl,G',L',hR3,hp3,hH3,hO3,hu3,hG3⟩;(have hv3:aa (F++Z) W w3:=aa.trans ν (hu3.mono hgz))))
 obtain ⟨hM,hI,hok,hB,hp,iF,hlt⟩:=HX.out;obtain ⟨hc3,hO3⟩:=hO3;have hG3':∀z,z∈G'->z∈G g\/w2.heap.size<=z:=hG3;have Yd:aa (G g++[B.c]) w2 w3:=aa.trans ν hu3;obtain ⟨st',jV⟩:=hM2.zQ iF hp Yd hR3 hG3' hO3;have hI3:=hI.put hM.dd.1 hok hB hp3 hH3;go_wp2;go_ret;have hsz:=(HW.out).size;have hsz2:=hv2.size;refine ⟨rfl,B.blk F (Z++G') gr,⟨Z++G',st',rfl,cr,ptr,_,_,jV,hI3.1⟩,((HW.out).mono σ).trans (hv3.mono (fun z hz=>?_)),fun z hz=>?_⟩
 ·simp only [DB.blk,ρ,τ] at hz ⊢;exact Or.inr (Or.inr hz)
 ·simp only [DB.blk,ρ,τ] at hz ⊢;rcases hz with h|h|h|h|h
  ·exact Or.inl (Or.inl h)
  ·exact Or.inl (Or.inr (Or.inl h))
  ·exact Or.inl (Or.inr (Or.inr (Or.inl h)))
  ·exact Or.inl (Or.inr (Or.inr (Or.inr h)))
  ·rcases hG3' z h with h|h
   ·have:=hgz z (τ.2 (Or.inl h));rcases τ.1 this with h|h
    ·exact Or.inl (Or.inr (Or.inr (Or.inl h)))
    ·exact Or.inl (Or.inr (Or.inr (Or.inr h)))
   ·exact Or.inr ω
end
section
variable {w w':World} {B:HB} {F Z:List Nat} {gr cr st:Nat} {A:NS} {ptr:Nat->Option Nat} {G L:Nat->List Nat} {T:List Nat}
theorem SdI.turn {A':NS} {g:Nat} {l T':List Nat} (h:SdI A L T) (hd:rE 2 A' (j3 L g l)) (hh:∀k:Nat,bK A' k=bK A k) (hg:bK A g=true) (hl:∀j x,l[j]?=some x->T'.getD x 0=j) (ho:∀x,x∉l->x∉L g->T'.getD x 0=T.getD x 0) (hm:∀k x,k≠g->bK A k=true->x∈L k->x∉l/\x∉L g):SdI A' (j3 L g l) T':=by
 refine ⟨hd,fun k hk j x hj=>?_⟩;rw [hh] at hk
 by_cases e:k=g
 ·subst e;rw [dX] at hj;exact hl j x hj
 ·rw [bQ _ _ e] at hj;have hx:=hm k x e hk (List.mem_of_getElem? hj);rw [ho x hx.1 hx.2];exact h.Be k hk j x hj
theorem rE.apart (h:rE 2 A L) {k g x:Nat} (e:k≠g) (hk:bK A k=true) (hg:bK A g=true) (hx:x∈L k):x∉L g:=fun hm=>by
 have h1:=(h.mem k x hk).1 hx;have h2:=(h.mem g x hg).1 hm;omega
def PuR (B:HB) (F Z:List Nat) (gr cr:Nat) (A':NS) (st:Nat) (ptr:Nat->Option Nat) (G L:Nat->List Nat) (T:List Nat) (g rp x:Nat) (v:Value) (w2:World):Prop:=ShM w2 B F Z gr cr A' st ptr G L T/\∀Y,aa [] w2 Y->
   Calls Tryz.prog 279 #[.iface 317 (.pointer (some ⟨rp,0,none⟩)),.iface 3 (.int .i64 (x:Int))] Y fun e w'=>e=.returned (.tuple #[])/\PuE Y B F A' rp v (L g) T x w'
theorem D7 (h:ShAt w B F Z gr A st) (g x:Nat) (k s:Int) (hk:-9223372036854775808<=k/\k<=9223372036854775807/\0<=s/\s<=18446744073709551615) (hB:oF A g x=true) :
  Calls Tryz.prog 273 #[.pointer (some ⟨B.n0,0,none⟩),.int .i64 (g:Int),.int .i64 (x:Int),.agg #[.int .i64 k,.int .u64 s]] w fun e w'=>e=.returned (.bool true)/\Goes (B.blk F Z gr) w w' (fun F'=>∃Z' st',F'=B.blk F Z' gr/\ShAt w' B F Z' gr (aN A g x k s) st'):=by
 obtain ⟨cr,ptr,G,L,T,hM,hI⟩:=h;have hb1:=(fE _ _ _).1 hB;have hgN:=(aT _ _).1 hb1.1;have hok:=hM.cells.ok;have hcs:=hok.c1;obtain ⟨r1,r2,r3,r4,r5⟩:=hI.di.ready ω hok (k:=k) (s:=s) hB;have pG:(aN A g x k s).hs=A.hs:=by unfold aN;rw [if_pos hB];rfl
 have Kl:(aN A g x k s).cs.length=A.cs.length:=by unfold aN;rw [if_pos hB];exact fO _ _ _
 have iF:bK (aN A g x k s) g=true:=by have:=hb1.1;unfold bK at this ⊢;rw [pG];exact this
 have hdom:∀y,y∈L g->bX (aN A g x k s) (y:Int)=true/\y<T.length:=fun y hy=>⟨r4 y (by simp [hy]),by rw [hM.tl];exact r5 y (by simp [hy])⟩
 obtain ⟨rp,hp,v, -, -,CX, -⟩:=hM.lJ.row g hb1.1;have Vl:∀X w2,aa [] w X->aG w2 B.c F (aN A g x k s) st->aa F X w2->PuR B F Z gr cr (aN A g x k s) st ptr G L T g rp x v w2:=by
  intro X w2 hX hC2 hu2;have hM2:=(hM.aA hX).dB hu2 hC2 (fun x hx=>Or.inl hx) pG Kl;refine ⟨hM2,fun Y hY=>?_⟩;obtain ⟨rp',v',hp',hG',hP⟩:=(hM2.aA hY).pile iF hdom (hI.di.nd g hb1.1) (hI.Be g hb1.1);rw [hp] at hp';cases hp';rw [CX] at hG';have ev:v'.ownBlock.toList=v.ownBlock.toList:=(List.cons.inj hG').2.symm;refine (M3 hP x r1 (r4 x σ) (by rw [hM.tl];exact r5 x σ) (by rw [hM.tl];omega) r3).mono ?_;rintro e w' ⟨rfl,gs,cap,L',T',q1,q2,q3,q4,q5,q6,q7⟩;refine ⟨rfl,gs,cap,L',T',q1,q2,q3,q4,q5,by rw [←ev];exact q6,?_⟩;rcases q7 with e|e
  ·left;have:gs∈v.ownBlock.toList:=by rw [←ev];exact Option.mem_toList.2 e
   exact Option.mem_toList.1 this
  ·exact Or.inr e
 have Tv:∀W (hW:aa [] w W),Calls Tryz.prog 154 #[.pointer (some ⟨B.c,0,none⟩),.int .i64 (g:Int),.int .i64 (x:Int),.agg #[.int .i64 k,.int .u64 s]] W fun e w2=>e=.returned (.bool true)/\aa F W w2/\PuR B F Z gr cr (aN A g x k s) st ptr G L T g rp x v w2:=fun W hW=>(oC (hM.aA hW).cells g x k s hk hB).mono (fun e w2 h=>by
  obtain ⟨rfl,hC2,hu2⟩:=h
  exact ⟨rfl,hu2,Vl W w2 hW hC2 hu2⟩)
 have c0:=hM.h0;have c2:=hM.h1;have cg:=hM.lJ.cell ω hp;have hlt:=hM.lt;have HX:=χ (ψ hM (ψ hI (ψ hok (ψ hB (ψ hp (ψ iF (ψ hlt (ψ CX (ψ hb1.1 (ψ pG Kl))))))))));have n1:B.n0∉F:=hM.bI.1;have n2:gr∉F:=hM.bI.2.1;have n3:∀z,z∈F->z<w.heap.size:=fun z hm=>hlt z (by simp only [HB.blk,ρ,τ];exact Or.inr (Or.inr (Or.inr (Or.inl hm))));have Qk:(g:Int)<(A.hs.length:Int):=ω;clear hM hI hok hB hp iF hlt r1 r3 r4 r5 hb1 hgN r2 hcs pG Kl Vl hdom CX;generalize A.hs.length=m at *
 go_enter Tryz.func273,Tryz.ntmps273
 go_upto_region 1 with (fail)
 refine jA (fun W=>W.cell? ⟨w.heap.size,0,none⟩=some (.int .i64 k)/\W.cell? ⟨w.heap.size,1,none⟩=some (.int .u64 s)/\aa [] w W) ⟨γ,γ,β⟩ ?_;rintro W ⟨x0,x1,hW⟩;have hb:w.heap.size∉F:=fun hm=>by have:=n3 _ hm;omega
 have e0:∀X,aa F W X->X.cell? ⟨w.heap.size,0,none⟩=some (.int .i64 k):=fun X h=>h.kept x0 hb;have e1:∀X,aa F W X->X.cell? ⟨w.heap.size,1,none⟩=some (.int .u64 s):=fun X h=>h.kept x1 hb;have e2:∀X,aa F W X->X.cell? ⟨B.n0,0,none⟩=some (.pointer (some ⟨B.c,0,none⟩)):=fun X h=>h.kept (hW.was c0) n1;have e3:∀X,aa F W X->X.cell? ⟨B.n0,1,none⟩=some (.slice (some ⟨gr,0,none⟩) m cr):=fun X h=>h.kept (hW.was c2) n1;have e4:∀X,aa F W X->X.cell? ⟨gr,g,none⟩=some (.pointer (some ⟨rp,0,none⟩)):=fun X h=>h.kept (hW.was cg) n2;have HW:=χ hW;have LC:=fun X (hX:aa [] W X)=>Tv X (hW.trans hX)
 clear x0 x1 hW Tv c0 c2 cg
 go_region_held3 (aa F W) (exact ν)
  (first
   | ((go_at_call 154;(with_reducible refine (LC _ ν).mono ?_));rintro e w2 ⟨rfl,hu2,hM2,TY⟩;(have hv2:aa F W w2:=aa.trans ν hu2)))
 have a3:=e3 w2 hv2;have a4:=e4 w2 hv2;have HV:=χ hv2;clear e0 e1 e2 e3 e4 LC hv2 hu2
 go_wp2_with (first
  | ((go_at_call 279;(with_reducible refine (TY _ (aa.refl _ _)).mono ?_));rintro e w3 ⟨rfl,hQ⟩)
  | fail)
 go_ret;obtain ⟨hM,hI,hok,hB,hp,iF,hlt,CX,hg1,pG,Kl⟩:=HX.out;obtain ⟨gs,cap,L',T',q1,q2,q3,q4,q5,q6,q7⟩:=hQ;have hPE:=q1.any;have vN:∀z,z∈rp::v.ownBlock.toList->z∈G g:=fun z hz=>by rw [CX];exact hz
 obtain ⟨st',jV⟩:=hM2.zQ (g:=g) iF hp q6 (fun z hz=>by
  simp only [ρ] at hz;rcases hz with e|e|e|e
  ·exact Or.inl (vN z (by simp [e]))
  ·exact Or.inr (Or.inl e)
  ·exact Or.inr (Or.inr e)
  ·exact Or.inl (vN z (List.mem_cons_of_mem _ e))) (vN rp σ) hPE q5 (fun k hk=>by
  cases hk;rcases q7 with e|e
  ·exact Or.inl (vN _ (List.mem_cons_of_mem _ (Option.mem_toList.2 e)))
  ·exact Or.inr e)
 have hI3:=hI.di.put ω hok hB q2 q3
 have hsd:SdI (aN A g x k s) (j3 L g L') T':=hI.turn hI3.1 (fun q=>by unfold bK;rw [pG]) hg1 q1.Be (fun y h1 h2=>q4 y (fun hm=>h1 (q2.mem_iff.2 hm))) (fun q y e hq hy=>by
  have h2:=hI.di.apart e hq hg1 hy;refine ⟨fun hm=>?_,h2⟩;rcases ρ.1 (q2.mem_iff.1 hm) with e3|e3
  ·subst e3;have h4:=(hI.di.mem q y hq).1 hy;have h5:=((fE _ _ _).1 hB).2.2;have h6:=(aT _ _).1 hq;rw [(ai A y).2 ⟨h4.1,ω⟩] at h5;cases h5
  ·exact h2 e3)
 have hsz:=HW.out.size;have hsz2:=HV.out.size;have hbl:∀z,z∈F->z∈B.blk F Z gr:=fun z hz=>by simp only [HB.blk,ρ,τ];exact Or.inr (Or.inr (Or.inr (Or.inl hz)))
 have hbz:∀z,z∈G g->z∈B.blk F Z gr:=fun z hz=>by simp only [HB.blk,ρ,τ];exact Or.inr (Or.inr (Or.inr (Or.inr (hM.lJ.yF g hg1 z hz))))
 refine ⟨rfl,B.blk F (Z++(rp::Option.toList (some gs))) gr,⟨_,st',rfl,cr,ptr,_,_,T',jV,hsd⟩,((HW.out.mono σ).trans (HV.out.mono hbl)).trans (q6.mono (fun z hz=>?_)),fun z hz=>?_⟩
 ·simp only [ρ] at hz;rcases hz with e|e|e|e
  ·exact hbz z (vN z (by simp [e]))
  ·simp [HB.blk,e]
  ·exact hbl z (by rw [e];exact hM.cells.mem)
  ·exact hbz z (vN z (List.mem_cons_of_mem _ e))
 ·simp only [HB.blk,ρ,τ,Option.toList_some,ς,or_false] at hz;rcases hz with h|h|h|h|h|h|h
  ·left;simp [HB.blk,h]
  ·left;simp [HB.blk,h]
  ·left;simp [HB.blk,h]
  ·exact Or.inl (hbl z h)
  ·left;simp [HB.blk,h]
  ·exact Or.inl (hbz z (vN z (by simp [h])))
  ·rcases q7 with e|e
   ·exact Or.inl (hbz z (vN z (List.mem_cons_of_mem _ (by rw [h];exact Option.mem_toList.2 e))))
   ·exact Or.inr ω
end
end Go.Proofs.YtklibcncmbofpaaGreat
