/-
  Lemmas for RankSorts: Pq3, Pq4, Pq5, Pq6, Pq7. Conditions: those of each lemma.
-/
import Derived.Test.YtklibcncmbofpaaGreatP07
set_option maxHeartbeats 8000000
set_option maxRecDepth 10000
set_option linter.unusedVariables false
set_option linter.unusedSimpArgs false
namespace Go.Proofs.YtklibcncmbofpaaGreat
open Go Go.RowKit
section
variable {K:fJ} {w:World} {p pa pn:Nat} {Fa Fn F:List Nat} {kd d:Int} {R:AR} {A:NS} {q:Nat}
theorem Dq (h:fG K w p F kd d R A q) (x:Nat) (hv:R.v x=true) :
  Calls Tryz.prog 69 #[.pointer (some ⟨p,0,none⟩),.agg #[.int .i64 (x:Int),.int .u32 (R.g x:Int)]] w fun e w'=>e=.returned (.tuple #[.agg #[.int .i64 (A.c x).k,.int .u64 (A.c x).s],.int .i64 0])∧aa [] w w':=by
 obtain ⟨pa,pn,Fa,Fn,rfl,h⟩:=h;have hin:bD A (x:Int)=true:=by rw [←h.link];exact hv
 have hx:=AR.Gx hv;have hgm:=h.ar.ok.gm x;have hmo:=h.ar.ok.NJ;have hlv:yY R (x:Int) (R.g x:Int)=true:=by
  unfold yY;rw [show ((x:Nat):Int).toNat=x by omega,hv,decide_eq_true (ω:(0:Int)≤x),decide_eq_true (ω:(x:Int)<R.sl.length)]
  simp
 have kl:=fun W (hW:aa [] w W)=>xI (h.ar.upd hW σ) (x:Int) (R.g x:Int) ω
 rw [hlv] at kl;have c2':=h.c2;have c3':=h.c3;have HH:=χ h;clear h hlv hv;generalize R.g x=gx at *
 go_enter Tryz.func69,Tryz.ntmps69
 go_upto_region 1 with (fail)
 refine gB (fun W=>W.cell? ⟨w.heap.size,0,none⟩=some (.int .i64 (x:Int))∧W.cell? ⟨w.heap.size,1,none⟩=some (.int .u32 (gx:Int))∧W.cell? ⟨w.heap.size+1,0,none⟩=some (.int .i64 0)∧W.cell? ⟨w.heap.size+1,1,none⟩=some (.int .u64 0)∧W.frozen? ⟨w.heap.size+1,0,none⟩=false∧W.frozen? ⟨w.heap.size+1,1,none⟩=false∧aa [] w W) ⟨σ,σ,σ,σ,σ,σ,β⟩ ?_
 rintro W ⟨x0,x1,r0,r1,fr0,fr1,hu⟩;have kl1:=fun X (hX:aa [] W X)=>kl X (hu.trans hX)
 have e0:∀X,aa [] W X→X.cell? ⟨w.heap.size,0,none⟩=some (.int .i64 (x:Int)):=fun X h=>h.was x0
 have e1:∀X,aa [] W X→X.cell? ⟨w.heap.size,1,none⟩=some (.int .u32 (gx:Int)):=fun X h=>h.was x1
 have e2:∀X,aa [] W X→X.cell? ⟨p,2,none⟩=some (.pointer (some ⟨pa,0,none⟩)):=fun X h=>h.was (hu.was c2')
 have HU:=χ (ψ hu (ψ x0 (ψ r0 (ψ r1 (ψ fr0 fr1)))));clear hu x0 x1 r0 r1 fr0 fr1 kl c2'
 go_region_held3 (aa [] W) (repeat (first|assumption|exact aa.refl _ _|refine aa.drew ?_|refine aa.alloc ?_ _|refine aa.setCell ?_ ?_ _|focus (left;simp;done)|focus (right;simp;done)|focus (right;simp;omega)|(apply aa.trans;rotate_left;assumption)))
  (first
   | ((go_at_call 83;(with_reducible refine (kl1 _ (by (repeat (first|assumption|exact aa.refl _ _|refine aa.drew ?_|refine aa.alloc ?_ _|refine aa.setCell ?_ ?_ _|focus (left;simp;done)|focus (right;simp;done)|focus (right;simp;omega)|(apply aa.trans;rotate_left;assumption))))).mono ?_));rintro e w1 ⟨rfl,hu1⟩;(have hv1:aa [] W w1:=aa.trans (by (repeat (first|assumption|exact aa.refl _ _|refine aa.drew ?_|refine aa.alloc ?_ _|refine aa.setCell ?_ ?_ _|focus (left;simp;done)|focus (right;simp;done)|focus (right;simp;omega)|(apply aa.trans;rotate_left;assumption)))) hu1)))
 go_upto_region 3 with (fail)
 obtain ⟨hu,x0,r0,r1,fr0,fr1⟩:=HU.out;refine gB (fun X=>aa [] W X) β ?_
 intro X hX;have y0:=hX.was x0;have z3:=hX.was (hu.was c3');have t0:=hX.was r0;have t1:=hX.was r1;have ft0:=hX.aO r0 σ fr0;have ft1:=hX.aO r1 σ fr1;have hN:=K.upd HH.out.nest (hu.trans hX) σ;obtain ⟨f,fv,hen,hfv⟩:=K.entry (x:Int) hN;unfold Enters at hen;have hm:=(hfv X.drew ((aa.refl _ _).drew)).1;have hc:=(hfv X.drew ((aa.refl _ _).drew)).2;have huB:aa [] X (X.alloc (.cells #[.int .i64 0,.int .u64 0] 129)).drew:=((aa.refl _ _).alloc _).drew;have tB0:=huB.was t0;have tB1:=huB.was t1;have tfB0:=huB.aO t0 σ ft0;have tfB1:=huB.aO t1 σ ft1
 have nB0:(X.alloc (.cells #[.int .i64 0,.int .u64 0] 129)).drew.cell? ⟨X.heap.size,0,none⟩=some (.int .i64 0):=σ;have nB1:(X.alloc (.cells #[.int .i64 0,.int .u64 0] 129)).drew.cell? ⟨X.heap.size,1,none⟩=some (.int .u64 0):=σ;have nfB0:(X.alloc (.cells #[.int .i64 0,.int .u64 0] 129)).drew.frozen? ⟨X.heap.size,0,none⟩=false:=σ;have nfB1:(X.alloc (.cells #[.int .i64 0,.int .u64 0] 129)).drew.frozen? ⟨X.heap.size,1,none⟩=false:=σ;have HB:=χ (ψ tB0 (ψ tB1 (ψ tfB0 (ψ tfB1 (ψ nB0 (ψ nB1 (ψ nfB0 nfB1)))))));clear tB0 tB1 tfB0 tfB1 nB0 nB1 nfB0 nfB1;have hmB:=(hfv _ huB).1;have hcB:=(hfv _ huB).2
 rw [hin,show ((x:Nat):Int).toNat=x by omega] at hc hcB
 simp only [if_true] at hc hcB;have hrl:=World.block_lt_of_cell? X _ t0;have hxl:=World.block_lt_of_cell? X _ y0;have hpl:=World.block_lt_of_cell? X _ z3;dsimp only at hrl hxl hpl;have HU2:=χ (hu.trans hX);clear hu x0 r0 r1 fr0 fr1 hX hN hfv huB kl1 e0 e1 e2 c3';generalize hkk:(A.c x).k=kk at *
 generalize hss:(A.c x).s=ss at *
 have HKS:=χ (ψ hkk hss);clear hkk hss
 go_region_law
  (first
   | (go_simp;(with_reducible refine (hc).mono ?_);rintro e w5 ⟨rfl,hu5⟩;(have s0:w5.cell? ⟨w.heap.size+1,0,none⟩=some (.int .i64 0):=hu5.was t0);(have s1:w5.cell? ⟨w.heap.size+1,1,none⟩=some (.int .u64 0):=hu5.was t1);(have fs0:=hu5.aO (v:=.int .i64 0) t0 σ ft0);(have fs1:=hu5.aO (v:=.int .u64 0) t1 σ ft1);(have hsl:=World.block_lt_of_cell? w5 _ s0))
   | (go_simp;(with_reducible refine (hcB).mono ?_);rintro e w5 ⟨rfl,hu5⟩;(have s0:=hu5.was HB.out.1);(have s1:=hu5.was HB.out.2.1);(have fs0:=hu5.aO HB.out.1 σ HB.out.2.2.1);(have fs1:=hu5.aO HB.out.2.1 σ HB.out.2.2.2.1);(have hsl:=World.block_lt_of_cell? w5 _ s0);(have b0:=hu5.was HB.out.2.2.2.2.1);(have b1:=hu5.was HB.out.2.2.2.2.2.1);(have fb0:=hu5.aO HB.out.2.2.2.2.1 σ HB.out.2.2.2.2.2.2.1);(have fb1:=hu5.aO HB.out.2.2.2.2.2.1 σ HB.out.2.2.2.2.2.2.2)))
 all_goals
  go_wp2;have h5:aa [] w w5:=HU2.out.trans (aa.trans β hu5);have h6:=h5.size;exact bodyPost_ret (v:=.tuple #[.agg #[.int .i64 kk,.int .u64 ss],.int .i64 0]) (by simp [results,Tryz.results69,go_sem, *]) rfl ⟨by rw [HKS.out.1,HKS.out.2],β⟩
end
section
variable {K:fJ} {w:World} {p pa pn:Nat} {Fa Fn F:List Nat} {kd d:Int} {R:AR} {A:NS} {q:Nat}
theorem Bc.moved (h:Bc K w p pa pn Fa Fn kd d R A q) {w':World} {Fn':List Nat} (hn:K.at_ w' pn Fn' A) (hu:aa Fn w w') (hf:∀x,x∈Fn'→x∈Fn∨w.heap.size≤x):Goes (p::(Fa++Fn)) w w' (fun F'=>fG K w' p F' kd d R A q):=by
 refine ⟨p::(Fa++Fn'),⟨pa,pn,Fa,Fn',rfl,h.ND hn hu hf rfl (h.ar.upd hu (fun x hx hm=>h.s3 x hm hx)) rfl h.link⟩,hu.mono (fun x hx=>by simp [hx]),fun x hx=>?_⟩
 simp only [List.mem_cons,List.mem_append] at hx ⊢;rcases hx with hx|hx|hx
 ·exact Or.inl (Or.inl hx)
 ·exact Or.inl (Or.inr (Or.inl hx))
 ·rcases hf x hx with hx|hx
  ·exact Or.inl (Or.inr (Or.inr hx))
  ·exact Or.inr hx
theorem Goes.beh {F S:List Nat} {w w0 w1 w2:World} {p:Nat} {kd d:Int} (h:Goes F w0 w1 (fun F'=>fG K w1 p F' kd d R A q)) (hu:aa S w1 w2) (hw:aa [] w w0) (hS:∀r,r∈S→r<w0.heap.size∧r∉F∧w.heap.size≤r):Goes F w w2 (fun F'=>fG K w2 p F' kd d R A q):=by
 obtain ⟨F',h1,h2,h3⟩:=h;refine ⟨F',h1.upd hu (fun r hr hm=>?_),((hw.mono σ).trans h2).joined hu (fun r hr=>Or.inr (hS r hr).2.2),fun x hx=>by rcases h3 x hx with h|h;exact Or.inl h;exact Or.inr (Nat.le_trans hw.size h)⟩
 rcases h3 r hm with e|e
 ·exact (hS r hr).2.1 e
 ·have:=(hS r hr).1;omega
theorem Cy (h:fG K w p F kd d R A q) (hh:Int) {m:Nat} (hM:bL A hh=some m) :
  Calls Tryz.prog 68 #[.pointer (some ⟨p,0,none⟩),.int .i64 hh] w fun e w'=>e=.returned (.tuple #[.agg #[.int .i64 (m:Int),.int .u32 (R.g m:Int)],.int .i64 0])∧Goes F w w' (fun F'=>fG K w' p F' kd d R A q):=by
 obtain ⟨pa,pn,Fa,Fn,rfl,h⟩:=h;have hok:=K.ok h.nest;obtain ⟨m1,m2,m3,m4⟩:=j3 hM;have hB:aY A hh=true:=by rw [←m3];have:=gN hok m4;simpa using this
 obtain ⟨hh,rfl⟩:∃n:Nat,hh=n:=⟨hh.toNat,by have:=(aK _ _).1 hB;omega⟩
 have hb4:=(aK _ _).1 hB;have hhs:=hok.h1;have hv:R.v m=true:=by rw [h.link];exact m4
 have c2':=h.c2;have c3:=h.c3;have hpl:=h.head.lt;have hu0:aa [] w (w.alloc (.cells #[.int .i64 0,.int .u32 0] 85)):=(aa.refl [] w).alloc _;have hN:=K.upd h.nest hu0 σ;obtain ⟨f,fv,hen,hfv⟩:=K.has hh hN;obtain ⟨f2,fv2,hen2,hfv2⟩:=K.min hh hB hN;unfold Enters at hen hen2;have hm:=(hfv _ (aa.refl _ _)).1;have hc:=(hfv _ (aa.refl _ _)).2;have hm2:=(hfv2 _ (aa.refl _ _)).1;have hc2:=(hfv2 _ (aa.refl _ _)).2;rw [hB] at hc;rw [hM,show oD (some m)=(m:Int) from rfl,show (some m).isSome=true from rfl] at hc2
 have hrFn:w.heap.size∉Fn:=fun e=>by have:=K.lt h.nest _ e;omega
 have hs3:=h.s3;have ka:=fun W (hu:aa Fn (w.alloc (.cells #[.int .i64 0,.int .u32 0] 85)) W)=>Jp ((h.ar.upd hu0 σ).upd hu (fun x hx hm=>hs3 x hm hx)) m hv
 have hpn:=h.s2;have HG:=χ (fun w1 Fn' (hn:K.at_ w1 pn Fn' A) (hu:aa Fn (w.alloc (.cells #[.int .i64 0,.int .u32 0] 85)) w1) hf w2 (hu2:aa [w.heap.size] w1 w2)=>((h.upd hu0 σ).moved hn hu hf).beh hu2 hu0 (fun r hr=>by simp at hr;subst hr;exact ⟨σ,fun e=>by have:=h.lt _ e;omega,Nat.le_refl _⟩))
 clear h hfv hN hfv2 hok hB hv m4 hb4 hhs;generalize R.g m=gm at *
 go_enter Tryz.func68,Tryz.ntmps68
 go_wp2_with (first
  | ((with_reducible refine (hc).mono ?_);rintro e w1 ⟨rfl,rfl⟩)
  | ((with_reducible refine (hc2).mono ?_);rintro e w2 ⟨rfl,Fn',hn,hu,hf⟩;(have q0:w2.cell? ⟨w.heap.size,0,none⟩=some (.int .i64 0):=hu.kept γ hrFn);(have q1:w2.cell? ⟨w.heap.size,1,none⟩=some (.int .u32 0):=hu.kept γ hrFn);(have f0:w2.frozen? ⟨w.heap.size,0,none⟩=false:=hu.aO (v:=.int .i64 0) γ hrFn γ);(have f1:w2.frozen? ⟨w.heap.size,1,none⟩=false:=hu.aO (v:=.int .u32 0) γ hrFn γ);(have c2:=hu.kept (hu0.was c2') hpn);(have ka2:=ka _ hu))
  | ((go_at_call 84;(with_reducible refine (ka2).mono ?_));rintro e w3 ⟨rfl,hu3⟩;(have t0:=hu3.was q0);(have t1:=hu3.was q1);(have tf0:=hu3.aO q0 σ f0);(have tf1:=hu3.aO q1 σ f1);(have hrl:=World.block_lt_of_cell? w3 _ t0))
  | fail)
 exact bodyPost_ret (v:=.tuple #[.agg #[.int .i64 (m:Int),.int .u32 (gm:Int)],.int .i64 0]) (by simp [results,Tryz.results68,go_sem,t0,t1,hrl]) rfl ⟨rfl,HG.out _ _ hn hu hf _ ((((hu3.mono σ).setCell (Or.inl σ) _).setCell (Or.inl σ) _).alloc _)⟩
end
section
variable {K:fJ} {w:World} {p:Nat} {F:List Nat} {kd d:Int} {R:AR} {A:NS} {q:Nat}
theorem zy (h:fG K w p F kd d R A q) (hh:Int) {m:Nat} (hM:bL A hh=some m) :
  Calls Tryz.prog 43 #[.pointer (some ⟨p,0,none⟩),.int .i64 hh] w fun e w'=>e=.returned (.tuple #[.agg #[.int .i64 (m:Int),.int .u32 (R.g m:Int)],.int .i64 (A.c m).k,.int .i64 0])∧Goes F w w' (fun F'=>fG K w' p F' kd d R A q):=by
 have hu0:aa [] w (w.alloc (.cells #[.int .i64 0,.int .u32 0] 85)):=(aa.refl [] w).alloc _;have k:=Cy (h.aj hu0) hh hM;have hv:R.v m=true:=by rw [h.ok.2.2.2];exact (j3 hM).2.2.2
 have hlF:=h.lt;have hrF:w.heap.size∉F:=fun e=>by have:=hlF _ e;omega
 have HG:=χ (fun (w1 w2:World) (hg:Goes F (w.alloc (.cells #[.int .i64 0,.int .u32 0] 85)) w1 (fun F'=>fG K w1 p F' kd d R A q)) (hu2:aa [w.heap.size] w1 w2)=>hg.beh hu2 hu0 (fun r hr=>by simp at hr;subst hr;exact ⟨σ,hrF,Nat.le_refl _⟩))
 have ke:=fun W F' (hP:fG K W p F' kd d R A q)=>Dq hP m hv
 clear h hv hM hlF;generalize R.g m=gm at *
 generalize (A.c m).k=kk at *
 generalize (A.c m).s=ss at *
 go_enter Tryz.func43,Tryz.ntmps43
 go_upto_region 5 with (first
  | ((go_at_call 68;(with_reducible refine (k).mono ?_));rintro e w1 ⟨rfl,hg⟩;(have hu1:aa F (w.alloc (.cells #[.int .i64 0,.int .u32 0] 85)) w1:=by obtain ⟨_,_,h2,_⟩:=hg;exact h2);(have q0:w1.cell? ⟨w.heap.size,0,none⟩=some (.int .i64 0):=hu1.kept γ hrF);(have q1:w1.cell? ⟨w.heap.size,1,none⟩=some (.int .u32 0):=hu1.kept γ hrF);(have f0:w1.frozen? ⟨w.heap.size,0,none⟩=false:=hu1.aO (v:=.int .i64 0) γ hrF γ);(have f1:w1.frozen? ⟨w.heap.size,1,none⟩=false:=hu1.aO (v:=.int .u32 0) γ hrF γ);(have ke2:∀W,aa [] w1 W→Calls Tryz.prog 69 #[.pointer (some ⟨p,0,none⟩),.agg #[.int .i64 (m:Int),.int .u32 (gm:Int)]] W fun e w'=>e=.returned (.tuple #[.agg #[.int .i64 kk,.int .u64 ss],.int .i64 0])∧aa [] W w':=by obtain ⟨F1,hP1,_,_⟩:=hg;exact fun W hW=>ke W F1 (hP1.aj hW)))
  | ((go_at_call 69;(with_reducible refine (ke2 _ β).mono ?_));rintro e w2 ⟨rfl,hu2⟩;(have x0:w2.cell? ⟨w1.heap.size,0,none⟩=some (.int .i64 (m:Int)):=hu2.was γ);(have x1:w2.cell? ⟨w1.heap.size,1,none⟩=some (.int .u32 (gm:Int)):=hu2.was γ);(have hv2:aa [] w1 w2:=aa.trans β hu2))
  | fail)
 refine gB (fun W=>W.cell? ⟨w1.heap.size,0,none⟩=some (.int .i64 (m:Int))∧W.cell? ⟨w1.heap.size,1,none⟩=some (.int .u32 (gm:Int))∧W.cell? ⟨w2.heap.size,0,none⟩=some (.int .i64 kk)∧aa [] w1 W) ⟨by have:=World.block_lt_of_cell? w2 _ x0;go_simp,by have:=World.block_lt_of_cell? w2 _ x1;go_simp,γ,β⟩ ?_
 rintro W ⟨y0,y1,y2,hW⟩;have t0:=hW.was q0;have t1:=hW.was q1;have ft0:=hW.aO q0 σ f0;have ft1:=hW.aO q1 σ f1;have hrl:=World.block_lt_of_cell? w1 _ q0;have hz2:=hv2.size;dsimp only at hrl;have hne1:¬w2.heap.size=w.heap.size:=ω;have hne2:¬w1.heap.size=w.heap.size:=ω;have hne3:¬w.heap.size=w2.heap.size:=ω;have hne4:¬w.heap.size=w1.heap.size:=ω;have HW:=χ hW;clear hW q0 q1 f0 f1 ke2 x0 x1 hv2 hu2 ke k hu1
 go_region
 all_goals
  go_wp2;exact bodyPost_ret (v:=.tuple #[.agg #[.int .i64 (m:Int),.int .u32 (gm:Int)],.int .i64 kk,.int .i64 0]) (by simp [results,Tryz.results43,go_sem,t0,t1,hne1,hne2,hne3,hne4]) rfl ⟨rfl,HG.out _ _ hg ((((HW.out.mono σ).setCell (Or.inl σ) _).setCell (Or.inl σ) _).drew)⟩
end
section
variable {K:fJ} {w:World} {p:Nat} {F:List Nat} {kd d:Int} {R:AR} {A:NS} {q:Nat}
theorem xO {R:AR} {x:Nat} (hv:R.v x=true) (y:Nat):(fU R x).v y=(R.v y && !decide (y=x)):=by
 show (R.put x (R.g x,false)).v y=_
 rw [AR.wU]
 by_cases e:y=x
 ·rw [if_pos ⟨e,AR.Gx hv⟩,decide_eq_true e];simp
 ·rw [if_neg (fun h=>e h.1),decide_eq_false e];simp
theorem Aj {A:NS} {x:Nat} (hx:bD A (x:Int)=true) (y:Nat):bD (aL A (x:Int)) (y:Int)=(bD A (y:Int) && !decide (y=x)):=by
 have hc:=rq hx y;have hl:=dw A (x:Int)
 by_cases e:y=x
 ·rw [if_pos e] at hc;rw [decide_eq_true e];have:¬bD (aL A (x:Int)) (y:Int)=true:=fun h=>by
   have:=(af _ _).1 h;rw [hc] at this;exact absurd this.2 (by simp [Cl.z])
  simpa using this
 ·rw [if_neg e] at hc;rw [decide_eq_false e];have e1:bD (aL A (x:Int)) (y:Int)=true↔bD A (y:Int)=true:=by rw [af,af,hl,hc]
  cases h1:bD (aL A (x:Int)) (y:Int)<;>cases h2:bD A (y:Int)<;>simp_all
theorem tV (R:AR) (x:Nat):(fU R x).sl.length=R.sl.length:=by show (R.put x _).sl.length=_;rw [AR.iH]
theorem fG.out {kd d:Int} {m:Nat} {w1:World} {pa pn:Nat} {Fa Fn:List Nat} (h:Bc K w p pa pn Fa Fn kd d R A q) (hm:bD A (m:Int)=true) {Fn':List Nat} (hn:K.at_ w1 pn Fn' (aL A m)) (hu:aa Fn w w1) (hf:∀x,x∈Fn'→x∈Fn∨w.heap.size≤x)
  {w2 w3:World} (hu2:aa [] w1 w2) {Fa':List Nat} (ha:nI w3 pa Fa' (fU R m)) (hu3:aa Fa w2 w3) (hf3:∀x,x∈Fa'→x∈Fa∨w2.heap.size≤x):Goes (p::(Fa++Fn)) w w3 (fun F'=>fG K w3 p F' kd d (fU R m) (aL A m) q):=by
 have hA:=h.ar.lt;have hN:=K.lt h.nest;have hN1:=K.lt hn;have hs12:=hu2.size;have hs01:=hu.size;have hv:R.v m=true:=by rw [h.link];exact hm
 have hpl:=h.head.lt;have hnn:∀x,x∈Fa→x∉Fn':=fun x hx e=>by rcases hf x e with e|e;exact h.s3 x hx e;have:=hA x hx;omega
 refine ⟨p::(Fa'++Fn'),⟨pa,pn,Fa',Fn',rfl,⟨((h.head.upd hu h.s2).upd hu2 σ).upd hu3 h.s1,ha,K.upd (K.upd hn hu2 σ) hu3 hnn,fun e=>?_,fun e=>?_,fun x h1 h2=>?_,?_,fun y=>?_⟩⟩,?_,fun x hx=>?_⟩
 ·rcases hf3 _ e with e|e
  ·exact h.s1 e
  ·omega
 ·rcases hf _ e with e|e
  ·exact h.s2 e
  ·omega
 ·rcases hf3 x h1 with e|e
  ·exact hnn x e h2
  ·have:=hN1 x h2;omega
 ·rw [tV,dw];exact h.len
 ·rw [xO hv,Aj hm,h.link]
 ·exact ((hu.mono (fun x hx=>by simp [hx])).trans (hu2.mono σ)).trans (hu3.mono (fun x hx=>by simp [hx]))
 ·simp only [List.mem_cons,List.mem_append] at hx ⊢;rcases hx with hx|hx|hx
  ·exact Or.inl (Or.inl hx)
  ·rcases hf3 x hx with e|e
   ·exact Or.inl (Or.inr (Or.inl e))
   ·exact Or.inr ω
  ·rcases hf x hx with e|e
   ·exact Or.inl (Or.inr (Or.inr e))
   ·exact Or.inr e
end
section
variable {K:fJ} {w:World} {p:Nat} {F:List Nat} {kd d:Int} {R:AR} {A:NS} {q:Nat}
theorem Goes.chain {F G S:List Nat} {w W w2 w3:World} {R':AR} {A':NS} {q':Nat} (h1:aa F w W) (hf:∀x,x∈G→x∈F∨w.heap.size≤x) (h2:Goes G W w2 (fun F'=>fG K w2 p F' kd d R' A' q')) (hr:aa S w2 w3) (hS:∀r,r∈S→r∉G∧r<W.heap.size∧w.heap.size≤r) :
  Goes F w w3 (fun F'=>fG K w3 p F' kd d R' A' q'):=by
 obtain ⟨F2,hP,hu,hf2⟩:=h2;have hs:=h1.size;refine ⟨F2,hP.upd hr (fun r hr hm=>?_),(h1.joined hu hf).joined hr (fun r hr=>Or.inr (hS r hr).2.2),fun x hx=>?_⟩
 ·rcases hf2 r hm with e|e
  ·exact (hS r hr).1 e
  ·have:=(hS r hr).2.1;omega
 ·rcases hf2 x hx with e|e
  ·exact hf x e
  ·exact Or.inr (Nat.le_trans hs e)
theorem yJ (h:fG K w p F kd d R A q) (hh:Int) {m:Nat} (hM:bL A hh=some m) :
  Calls Tryz.prog 41 #[.pointer (some ⟨p,0,none⟩),.int .i64 hh] w fun e w'=>e=.returned (.tuple #[.agg #[.int .i64 (m:Int),.int .u32 (R.g m:Int)],.int .i64 (A.c m).k,.int .i64 0])∧Goes F w w' (fun F'=>fG K w' p F' kd d (fU R m) (aL A m) q):=by
 obtain ⟨hh,rfl⟩:∃n:Nat,hh=n:=⟨hh.toNat,by have:=(j3 hM).1;omega⟩
 have hu0:aa [] w (w.alloc (.cells #[.int .i64 0,.int .u32 0] 85)):=(aa.refl [] w).alloc _;have k:=zy (h.aj hu0) hh hM;have hin:=(j3 hM).2.2.2;have hv:R.v m=true:=by rw [h.ok.2.2.2];exact hin
 have hb:-9223372036854775808≤(hh:Int)∧(hh:Int)≤9223372036854775807:=by
  obtain ⟨m1,m2,m3,m4⟩:=j3 hM;have:=gN h.ok.1 m4;have h4:=(aK _ _).1 this;have h5:=h.ok.1.h1;rw [show ((m:Nat):Int).toNat=m by omega,m3] at h4
  omega
 have hex:qM A hh=aL A m:=by unfold qM;rw [hM]
 have hlF:=h.lt;have hrF:w.heap.size∉F:=fun e=>by have:=hlF _ e;omega
 have HS:=χ (ψ hin (ψ hv (ψ hb (ψ hex hM))));clear h hM hin hv hb hex;generalize hgm:R.g m=gm at *
 generalize (A.c m).k=kk at *
 have HGM:=χ hgm;clear hgm
 go_enter Tryz.func41,Tryz.ntmps41
 go_upto_region 4 with (first
  | ((go_at_call 43;(with_reducible refine (k).mono ?_));rintro e w1 ⟨rfl,hg⟩;(have hu1:aa F (w.alloc (.cells #[.int .i64 0,.int .u32 0] 85)) w1:=by obtain ⟨_,_,h2,_⟩:=hg;exact h2);(have q0:w1.cell? ⟨w.heap.size,0,none⟩=some (.int .i64 0):=hu1.kept γ hrF);(have q1:w1.cell? ⟨w.heap.size,1,none⟩=some (.int .u32 0):=hu1.kept γ hrF);(have f0:w1.frozen? ⟨w.heap.size,0,none⟩=false:=hu1.aO (v:=.int .i64 0) γ hrF γ);(have f1:w1.frozen? ⟨w.heap.size,1,none⟩=false:=hu1.aO (v:=.int .u32 0) γ hrF γ);(have hrl:=World.block_lt_of_cell? w1 _ q0))
  | fail)
 refine gB (fun W=>W.cell? ⟨w1.heap.size,0,none⟩=some (.int .i64 (m:Int))∧W.cell? ⟨w1.heap.size,1,none⟩=some (.int .u32 (gm:Int))∧aa [] w1 W) ⟨γ,γ,β⟩ ?_
 rintro W ⟨y0,y1,hW⟩;obtain ⟨F1,⟨pa,pn,Fa,Fn,rfl,hP1⟩,hu1',hf1⟩:=hg;have hP:=hP1.upd hW σ;have c2:=hP.c2;have c3:=hP.c3;have hPl:=hP1.lt;have hrF1:w.heap.size∉p::(Fa++Fn):=fun e=>by rcases hf1 _ e with e|e;exact hrF e;simp at e;omega
 have hxF1:w1.heap.size∉p::(Fa++Fn):=fun e=>by have:=hPl _ e;omega
 obtain ⟨f,fv,hen,hfv⟩:=K.extract hh m HS.out.2.2.2.2 hP.nest;unfold Enters at hen;have hm:=(hfv _ (aa.refl _ _)).1;have hc:=(hfv _ (aa.refl _ _)).2;have t0:=hW.was q0;have t1:=hW.was q1;have ft0:=hW.aO q0 σ f0;have ft1:=hW.aO q1 σ f1;have hrFn:w.heap.size∉Fn:=fun e=>hrF1 (by simp [e])
 have hxFn:w1.heap.size∉Fn:=fun e=>hxF1 (by simp [e])
 have hpFn:=hP.s2;have hrFa:w.heap.size∉Fa:=fun e=>hrF1 (by simp [e])
 have hxFa:w1.heap.size∉Fa:=fun e=>hxF1 (by simp [e])
 have HZ:=χ (ψ hP (ψ hu1 (ψ hW (ψ hf1 hP1))));have ka:∀ (w5:World) (hu5:aa Fn W w5) (X:World) (hX:aa [] w5 X),Calls Tryz.prog 67 #[.pointer (some ⟨pa,0,none⟩),.agg #[.int .i64 (m:Int),.int .u32 (gm:Int)]] X fun e w'=>e=.returned (.int .i64 0)∧Goes Fa X w' (fun F'=>nI w' pa F' (fU R m)):=fun w5 hu5 X hX=>by
  have:=EX ((hP.ar.upd hu5 (fun x hx hm=>hP.s3 x hm hx)).upd hX σ) m HS.out.2.1
  rw [HGM.out] at this;exact this
 clear hfv hP hu1 hW hu1' hf1 hP1 q0 q1 f0 f1 hPl hlF hrF k
 go_upto_region 5 with (first
  | ((with_reducible refine (hc).mono ?_);rintro e w5 ⟨rfl,Fn',hn5,hu5,hf5⟩;(have z0:=hu5.kept y0 hxFn);(have z1:=hu5.kept y1 hxFn);(have z2:=hu5.kept c2 hpFn);(have s0:=hu5.kept t0 hrFn);(have s1:=hu5.kept t1 hrFn);(have sf0:=hu5.aO t0 hrFn ft0);(have sf1:=hu5.aO t1 hrFn ft1))
  | fail)
 have ka5:=ka w5 hu5 w5.drew ((aa.refl _ _).drew);clear ka
 go_region_law
  (first
   | (go_simp;go_at_call 67;(with_reducible refine (ka5).mono ?_);rintro e w6 ⟨rfl,Fa',ha6,hu6,hf6⟩;(have v0:=hu6.kept z0 hxFa);(have v1:=hu6.kept z1 hxFa);(have r0:=hu6.kept s0 hrFa);(have r1:=hu6.kept s1 hrFa);(have rf0:=hu6.aO s0 hrFa sf0);(have rf1:=hu6.aO s1 hrFa sf1)))
 all_goals
  go_wp2;obtain ⟨hP,hu1,hW,hf1,hP1⟩:=HZ.out;have hsW:=hW.size;have hUF:aa F w W:=(aa.trans ((aa.refl _ _).alloc _) hu1).trans (hW.mono σ);refine bodyPost_ret (v:=.tuple #[.agg #[.int .i64 (m:Int),.int .u32 (gm:Int)],.int .i64 kk,.int .i64 0]) (by simp [results,Tryz.results41,go_sem,r0,r1]) rfl ⟨rfl,?_⟩
  exact Goes.chain hUF (fun x hx=>by rcases hf1 x hx with e|e;exact Or.inl e;simp at e;exact Or.inr ω) (fG.out hP HS.out.1 hn5 hu5 hf5 ((aa.refl _ _).drew) ha6 hu6 hf6) (S:=[w.heap.size]) (((aa.refl _ _).setCell (Or.inl σ) _).setCell (Or.inl σ) _) (fun r hr=>by simp at hr;subst hr;exact ⟨hrF1,ω,Nat.le_refl _⟩)
end
end Go.Proofs.YtklibcncmbofpaaGreat
