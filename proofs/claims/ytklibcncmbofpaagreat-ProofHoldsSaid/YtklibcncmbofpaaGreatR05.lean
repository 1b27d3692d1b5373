/-
  Lemmas for ProofHolds: Pq4, Pq5, Pq6, Pq7, Pq8, Chk, PqO. Conditions: those of each lemma.
-/
import Derived.Test.YtklibcncmbofpaaGreatR04
set_option linter.all false
set_option maxHeartbeats 8000000
set_option maxRecDepth 10000
namespace Go.Proofs.YtklibcncmbofpaaGreat
open Go Go.RowKit
section
variable {K:gW}{w:World}{p pa pn:Nat}{Fa Fn F:List Nat}{kd d:Int}{R:AR}{A:NS}{q:Nat}
theorem Fv.moved(h:Fv K w p pa pn Fa Fn kd d R A q){w':World}{wR:List Nat}(hn:K.at_ w' pn wR A)(hu:aa Fn w w')(hf:∀x,x∈wR->x∈Fn\/w.heap.size<=x):Goes (p::(Fa++Fn)) w w' (fun F'=>gP K w' p F' kd d R A q):=by
 refine⟨p::(Fa++wR),⟨pa,pn,Fa,wR,rfl,h.RN hn hu hf rfl (h.ar.upd hu (fun x hx hm=>h.s3 x hm hx)) rfl h.link⟩,hu.mono (fun x hx=>by simp[hx]),fun x hx=>?_⟩;simp only[ρ,τ]at hx⊢;rcases hx with hx|hx|hx
 ·exact Or.inl (Or.inl hx)
 ·exact Or.inl (Or.inr (Or.inl hx))
 ·rcases hf x hx with hx|hx
  ·exact Or.inl (Or.inr (Or.inr hx))
  ·exact Or.inr hx
theorem Goes.after{F:List Nat}{w w0 w':World}{P:List Nat->Prop}(h:Goes F w0 w' P)(hu:aa [] w w0):Goes F w w' P:=by
 obtain⟨F',h1,h2,h3⟩:=h;exact⟨F',h1,(hu.mono σ).trans h2,fun x hx=>by rcases h3 x hx with h|h;exact Or.inl h;exact Or.inr (Nat.le_trans hu.size h)⟩
theorem Goes.beh{F S:List Nat}{w w0 w1 w2:World}{p:Nat}{kd d:Int}(h:Goes F w0 w1 (fun F'=>gP K w1 p F' kd d R A q))(hu:aa S w1 w2)(hw:aa [] w w0)(hS:∀r,r∈S->r<w0.heap.size/\r∉F/\w.heap.size<=r):Goes F w w2 (fun F'=>gP K w2 p F' kd d R A q):=by
 obtain⟨F',h1,h2,h3⟩:=h;refine⟨F',h1.upd hu (fun r hr hm=>?_),((hw.mono σ).trans h2).joined hu (fun r hr=>Or.inr (hS r hr).2.2),fun x hx=>by rcases h3 x hx with h|h;exact Or.inl h;exact Or.inr (Nat.le_trans hw.size h)⟩;rcases h3 r hm with e|e
 ·exact(hS r hr).2.1 e
 ·have:=(hS r hr).1;omega
theorem EM(h:gP K w p F kd d R A q)(hh:Int)(hB:bJ A hh=false) :
  Calls Tryz.prog 68 #[.pointer (some ⟨p,0,none⟩),.int .i64 hh] w fun e w'=>e=.returned (.tuple #[.agg #[.int .i64 0,.int .u32 0],.int .i64 171])/\aa [] w w':=by
 obtain⟨pa,pn,Fa,Fn,rfl,h⟩:=h;have c3:=h.c3;have hpl:=h.head.lt;have hN:=K.upd h.nest (((aa.refl [] w).alloc (.cells #[.int .i64 0,.int .u32 0] 85))) σ;obtain⟨f,fv,hen,rU⟩:=K.has hh hN;unfold Enters at hen;have hm:=(rU _ (aa.refl _ _)).1;have hc:=(rU _ (aa.refl _ _)).2;rw[hB]at hc;clear h rU hN
 go_enter Tryz.func68,Tryz.ntmps68
 go_wp2_with (first
  | ((with_reducible refine(hc).mono ?_);rintro e w1 ⟨rfl,rfl⟩)
  | fail)
 exact bodyPost_ret (v:=.tuple #[.agg #[.int .i64 0,.int .u32 0],.int .i64 171]) (by simp[results,Tryz.results68,go_sem]) rfl ⟨rfl,β⟩
theorem Io(h:gP K w p F kd d R A q)(hh:Int)(hB:bJ A hh=true)(hb:-9223372036854775808<=hh/\hh<=9223372036854775807)(hM:dL A hh=none) :
  Calls Tryz.prog 68 #[.pointer (some ⟨p,0,none⟩),.int .i64 hh] w fun e w'=>e=.returned (.tuple #[.agg #[.int .i64 0,.int .u32 0],.int .i64 172])/\Goes F w w' (fun F'=>gP K w' p F' kd d R A q):=by
 obtain⟨hh,rfl⟩:∃n:Nat,hh=n:=⟨hh.toNat,by have:=(aV _ _).1 hB;omega⟩;obtain⟨pa,pn,Fa,Fn,rfl,h⟩:=h;have c3:=h.c3;have hpl:=h.head.lt;have hu0:aa [] w (w.alloc (.cells #[.int .i64 0,.int .u32 0] 85)):=(aa.refl [] w).alloc _;have hN:=K.upd h.nest hu0 σ;obtain⟨f,fv,hen,rU⟩:=K.has hh hN;obtain⟨f2,fv2,R5,z8⟩:=K.min hh hB hN;unfold Enters at hen R5;have hm:=(rU _ (aa.refl _ _)).1;have hc:=(rU _ (aa.refl _ _)).2;have hm2:=(z8 _ (aa.refl _ _)).1;have hc2:=(z8 _ (aa.refl _ _)).2;rw[hB]at hc;rw[hM,show qh none=0 from rfl,show(none:Option Nat).isSome=false from rfl]at hc2
 have p9:w.heap.size∉Fn:=fun e=>by have:=K.lt h.nest _ e;omega
 have HG:=χ (fun w1 wR (hn:K.at_ w1 pn wR A) (hu:aa Fn (w.alloc (.cells #[.int .i64 0,.int .u32 0] 85)) w1) hf w2 (hu2:aa [w.heap.size] w1 w2)=>((h.upd hu0 σ).moved hn hu hf).beh hu2 hu0 (fun r hr=>by simp at hr;subst hr;exact⟨σ,fun e=>by have:=h.lt _ e;omega,Nat.le_refl _⟩));clear h rU hN z8
 go_enter Tryz.func68,Tryz.ntmps68
 go_wp2_with (first
  | ((with_reducible refine(hc).mono ?_);rintro e w1 ⟨rfl,rfl⟩)
  | ((with_reducible refine(hc2).mono ?_);rintro e w2 ⟨rfl,wR,hn,hu,hf⟩;(have q0:w2.cell? ⟨w.heap.size,0,none⟩=some (.int .i64 0):=hu.kept γ p9);(have q1:w2.cell? ⟨w.heap.size,1,none⟩=some (.int .u32 0):=hu.kept γ p9);(have f0:w2.frozen? ⟨w.heap.size,0,none⟩=false:=hu.aS (v:=.int .i64 0) γ p9 γ);(have f1:w2.frozen? ⟨w.heap.size,1,none⟩=false:=hu.aS (v:=.int .u32 0) γ p9 γ);(have hrl:=World.block_lt_of_cell? w2 _ q0))
  | fail)
 exact bodyPost_ret (v:=.tuple #[.agg #[.int .i64 0,.int .u32 0],.int .i64 172]) (by simp[results,Tryz.results68,go_sem,q0,q1]) rfl ⟨rfl,HG.out _ _ hn hu hf _ (((aa.refl _ _).setCell (Or.inl σ) _).setCell (Or.inl σ) _)⟩
theorem yK(h:gP K w p F kd d R A q)(hh:Int){m:Nat}(hM:dL A hh=some m) :
  Calls Tryz.prog 68 #[.pointer (some ⟨p,0,none⟩),.int .i64 hh] w fun e w'=>e=.returned (.tuple #[.agg #[.int .i64 (m:Int),.int .u32 (R.g m:Int)],.int .i64 0])/\Goes F w w' (fun F'=>gP K w' p F' kd d R A q):=by
 obtain⟨pa,pn,Fa,Fn,rfl,h⟩:=h;have hok:=K.ok h.nest;obtain⟨m1,m2,m3,m4⟩:=lK hM;have hB:bJ A hh=true:=by rw[←m3];have:=iX hok m4;simpa using this
 obtain⟨hh,rfl⟩:∃n:Nat,hh=n:=⟨hh.toNat,by have:=(aV _ _).1 hB;omega⟩;have hb4:=(aV _ _).1 hB;have lT:=hok.h1;have hv:R.v m=true:=by rw[h.link];exact m4
 have c2':=h.c2;have c3:=h.c3;have hpl:=h.head.lt;have hu0:aa [] w (w.alloc (.cells #[.int .i64 0,.int .u32 0] 85)):=(aa.refl [] w).alloc _;have hN:=K.upd h.nest hu0 σ;obtain⟨f,fv,hen,rU⟩:=K.has hh hN;obtain⟨f2,fv2,R5,z8⟩:=K.min hh hB hN;unfold Enters at hen R5;have hm:=(rU _ (aa.refl _ _)).1;have hc:=(rU _ (aa.refl _ _)).2;have hm2:=(z8 _ (aa.refl _ _)).1;have hc2:=(z8 _ (aa.refl _ _)).2;rw[hB]at hc;rw[hM,show qh (some m)=(m:Int)from rfl,show(some m).isSome=true from rfl]at hc2;have p9:w.heap.size∉Fn:=fun e=>by have:=K.lt h.nest _ e;omega
 have hs3:=h.s3;have ka:=fun W (hu:aa Fn (w.alloc (.cells #[.int .i64 0,.int .u32 0] 85)) W)=>R9 ((h.ar.upd hu0 σ).upd hu (fun x hx hm=>hs3 x hm hx)) m hv;have hpn:=h.s2;have HG:=χ (fun w1 wR (hn:K.at_ w1 pn wR A) (hu:aa Fn (w.alloc (.cells #[.int .i64 0,.int .u32 0] 85)) w1) hf w2 (hu2:aa [w.heap.size] w1 w2)=>((h.upd hu0 σ).moved hn hu hf).beh hu2 hu0 (fun r hr=>by simp at hr;subst hr;exact⟨σ,fun e=>by have:=h.lt _ e;omega,Nat.le_refl _⟩));clear h rU hN z8 hok hB hv m4 hb4 lT;generalize R.g m=gm at *
 go_enter Tryz.func68,Tryz.ntmps68
 go_wp2_with (first
  | ((with_reducible refine(hc).mono ?_);rintro e w1 ⟨rfl,rfl⟩)
  | ((with_reducible refine(hc2).mono ?_);rintro e w2 ⟨rfl,wR,hn,hu,hf⟩;(have q0:w2.cell? ⟨w.heap.size,0,none⟩=some (.int .i64 0):=hu.kept γ p9);(have q1:w2.cell? ⟨w.heap.size,1,none⟩=some (.int .u32 0):=hu.kept γ p9);(have f0:w2.frozen? ⟨w.heap.size,0,none⟩=false:=hu.aS (v:=.int .i64 0) γ p9 γ);(have f1:w2.frozen? ⟨w.heap.size,1,none⟩=false:=hu.aS (v:=.int .u32 0) γ p9 γ);(have c2:=hu.kept (hu0.was c2') hpn);(have ka2:=ka _ hu))
  | ((go_at_call 84;(with_reducible refine(ka2).mono ?_));rintro e w3 ⟨rfl,hu3⟩;(have t0:=hu3.was q0);(have t1:=hu3.was q1);(have tf0:=hu3.aS q0 σ f0);(have tf1:=hu3.aS q1 σ f1);(have hrl:=World.block_lt_of_cell? w3 _ t0))
  | fail)
 exact bodyPost_ret (v:=.tuple #[.agg #[.int .i64 (m:Int),.int .u32 (gm:Int)],.int .i64 0]) (by simp[results,Tryz.results68,go_sem,t0,t1,hrl]) rfl ⟨rfl,HG.out _ _ hn hu hf _ ((((hu3.mono σ).setCell (Or.inl σ) _).setCell (Or.inl σ) _).alloc _)⟩
end
section
variable {K:gW}{w:World}{p:Nat}{F:List Nat}{kd d:Int}{R:AR}{A:NS}{q:Nat}
def sD(A:NS)(hh:Int):Int:=if bJ A hh then (match dL A hh with|some _=>0|none=>172)else 171
def Lv(A:NS)(hh:Int):Int:=match dL A hh with|some m=>(m:Int)|none=>0
def Lm(R:AR)(A:NS)(hh:Int):Int:=match dL A hh with|some m=>(R.g m:Int)|none=>0
theorem Kw(h:gP K w p F kd d R A q)(hh:Int)(hb:-9223372036854775808<=hh/\hh<=9223372036854775807) :
  Calls Tryz.prog 68 #[.pointer (some ⟨p,0,none⟩),.int .i64 hh] w fun e w'=>e=.returned (.tuple #[.agg #[.int .i64 (Lv A hh),.int .u32 (Lm R A hh)],.int .i64 (sD A hh)])/\Goes F w w' (fun F'=>gP K w' p F' kd d R A q):=by
 unfold Lv Lm sD;have hok:=h.ok.1;cases hm:dL A hh with
 | some m=>
  have hB:bJ A hh=true:=by
   obtain⟨m1,m2,m3,m4⟩:=lK hm;rw[←m3];have:=iX hok m4;simpa using this
  rw[hB,if_pos rfl];exact yK h hh hm
 | none=>
  cases hB:bJ A hh with
  | true=>rw[if_pos rfl];exact Io h hh hB hb hm
  | false=>
   rw[if_neg σ];refine(EM h hh hB).mono fun e w' ⟨h1,h2⟩=>⟨h1,F,h.au h2,h2.mono σ,fun x hx=>Or.inl hx⟩
theorem RB(h:gP K w p F kd d R A q)(hh:Int)(hb:-9223372036854775808<=hh/\hh<=9223372036854775807)(hE:dL A hh=none) :
  Calls Tryz.prog 43 #[.pointer (some ⟨p,0,none⟩),.int .i64 hh] w fun e w'=>e=.returned (.tuple #[.agg #[.int .i64 0,.int .u32 0],.int .i64 0,.int .i64 (sD A hh)])/\Goes F w w' (fun F'=>gP K w' p F' kd d R A q):=by
 have hu0:aa [] w (w.alloc (.cells #[.int .i64 0,.int .u32 0] 85)):=(aa.refl [] w).alloc _;have k:=Kw (h.au hu0) hh hb;have eX:Lv A hh=0:=by unfold Lv;rw[hE]
 have eG:Lm R A hh=0:=by unfold Lm;rw[hE]
 have eE:sD A hh≠0:=by unfold sD;rw[hE];split<;>simp
 rw[eX,eG]at k;have LA:=h.lt;have xw:w.heap.size∉F:=fun e=>by have:=LA _ e;omega
 have HG:=χ (fun(w1 w2:World) (hg:Goes F (w.alloc (.cells #[.int .i64 0,.int .u32 0] 85)) w1 (fun F'=>gP K w1 p F' kd d R A q)) (hu2:aa [w.heap.size] w1 w2)=>hg.beh hu2 hu0 (fun r hr=>by simp at hr;subst hr;exact⟨σ,xw,Nat.le_refl _⟩));generalize sD A hh=er at *;have eb:(er != 0)=true:=by simpa using eE
 clear h hE eX eG eE LA
 go_enter Tryz.func43,Tryz.ntmps43
 go_wp2_with (first
  | ((go_at_call 68;(with_reducible refine(k).mono ?_));rintro e w1 ⟨rfl,hg⟩;(have hu1:aa F (w.alloc (.cells #[.int .i64 0,.int .u32 0] 85)) w1:=by obtain⟨_,_,h2,_⟩:=hg;exact h2);(have q0:w1.cell? ⟨w.heap.size,0,none⟩=some (.int .i64 0):=hu1.kept γ xw);(have q1:w1.cell? ⟨w.heap.size,1,none⟩=some (.int .u32 0):=hu1.kept γ xw);(have f0:w1.frozen? ⟨w.heap.size,0,none⟩=false:=hu1.aS (v:=.int .i64 0) γ xw γ);(have f1:w1.frozen? ⟨w.heap.size,1,none⟩=false:=hu1.aS (v:=.int .u32 0) γ xw γ);(have hrl:=World.block_lt_of_cell? w1 _ q0))
  | fail)
 exact bodyPost_ret (v:=.tuple #[.agg #[.int .i64 0,.int .u32 0],.int .i64 0,.int .i64 er]) (by simp[results,Tryz.results43,go_sem,q0,q1,hrl]) rfl ⟨rfl,HG.out _ _ hg ((((aa.refl _ _).setCell (Or.inl σ) _).setCell (Or.inl σ) _).alloc _)⟩
theorem NY(h:gP K w p F kd d R A q)(hh:Int){m:Nat}(hM:dL A hh=some m) :
  Calls Tryz.prog 43 #[.pointer (some ⟨p,0,none⟩),.int .i64 hh] w fun e w'=>e=.returned (.tuple #[.agg #[.int .i64 (m:Int),.int .u32 (R.g m:Int)],.int .i64 (A.c m).k,.int .i64 0])/\Goes F w w' (fun F'=>gP K w' p F' kd d R A q):=by
 have hu0:aa [] w (w.alloc (.cells #[.int .i64 0,.int .u32 0] 85)):=(aa.refl [] w).alloc _;have k:=yK (h.au hu0) hh hM;have hv:R.v m=true:=by rw[h.ok.2.2.2];exact(lK hM).2.2.2
 have LA:=h.lt;have xw:w.heap.size∉F:=fun e=>by have:=LA _ e;omega
 have HG:=χ (fun(w1 w2:World) (hg:Goes F (w.alloc (.cells #[.int .i64 0,.int .u32 0] 85)) w1 (fun F'=>gP K w1 p F' kd d R A q)) (hu2:aa [w.heap.size] w1 w2)=>hg.beh hu2 hu0 (fun r hr=>by simp at hr;subst hr;exact⟨σ,xw,Nat.le_refl _⟩));have ke:=fun W F' (hP:gP K W p F' kd d R A q)=>AZ hP m hv;clear h hv hM LA;generalize R.g m=gm at *;generalize (A.c m).k=kk at *;generalize (A.c m).s=ss at *
 go_enter Tryz.func43,Tryz.ntmps43
 go_upto_region 5 with(first
  | ((go_at_call 68;(with_reducible refine(k).mono ?_));rintro e w1 ⟨rfl,hg⟩;(have hu1:aa F (w.alloc (.cells #[.int .i64 0,.int .u32 0] 85)) w1:=by obtain⟨_,_,h2,_⟩:=hg;exact h2);(have q0:w1.cell? ⟨w.heap.size,0,none⟩=some (.int .i64 0):=hu1.kept γ xw);(have q1:w1.cell? ⟨w.heap.size,1,none⟩=some (.int .u32 0):=hu1.kept γ xw);(have f0:w1.frozen? ⟨w.heap.size,0,none⟩=false:=hu1.aS (v:=.int .i64 0) γ xw γ);(have f1:w1.frozen? ⟨w.heap.size,1,none⟩=false:=hu1.aS (v:=.int .u32 0) γ xw γ);(have ke2:∀W,aa [] w1 W->Calls Tryz.prog 69 #[.pointer (some ⟨p,0,none⟩),.agg #[.int .i64 (m:Int),.int .u32 (gm:Int)]] W fun e w'=>e=.returned (.tuple #[.agg #[.int .i64 kk,.int .u64 ss],.int .i64 0])/\aa [] W w':=by obtain⟨F1,hP1,_,_⟩:=hg;exact fun W hW=>ke W F1 (hP1.au hW)))
  | ((go_at_call 69;(with_reducible refine(ke2 _ β).mono ?_));rintro e w2 ⟨rfl,hu2⟩;(have x0:w2.cell? ⟨w1.heap.size,0,none⟩=some (.int .i64 (m:Int)):=hu2.was γ);(have x1:w2.cell? ⟨w1.heap.size,1,none⟩=some (.int .u32 (gm:Int)):=hu2.was γ);(have hv2:aa [] w1 w2:=aa.trans β hu2))
  | fail)
 refine jk (fun W=>W.cell? ⟨w1.heap.size,0,none⟩=some (.int .i64 (m:Int))/\W.cell? ⟨w1.heap.size,1,none⟩=some (.int .u32 (gm:Int))/\W.cell? ⟨w2.heap.size,0,none⟩=some (.int .i64 kk)/\aa [] w1 W) ⟨by have:=World.block_lt_of_cell? w2 _ x0;go_simp,by have:=World.block_lt_of_cell? w2 _ x1;go_simp,γ,β⟩ ?_;rintro W ⟨y0,y1,y2,hW⟩;have t0:=hW.was q0;have t1:=hW.was q1;have Zw:=hW.aS q0 σ f0;have YQ:=hW.aS q1 σ f1;have hrl:=World.block_lt_of_cell? w1 _ q0;have hz2:=hv2.size;dsimp only at hrl;have hne1:¬w2.heap.size=w.heap.size:=ω;have hne2:¬w1.heap.size=w.heap.size:=ω
 have hne3:¬w.heap.size=w2.heap.size:=ω;have hne4:¬w.heap.size=w1.heap.size:=ω;have HW:=χ hW;clear hW q0 q1 f0 f1 ke2 x0 x1 hv2 hu2 ke k hu1
 go_region
 all_goals
  go_wp2;exact bodyPost_ret (v:=.tuple #[.agg #[.int .i64 (m:Int),.int .u32 (gm:Int)],.int .i64 kk,.int .i64 0]) (by simp[results,Tryz.results43,go_sem,t0,t1,hne1,hne2,hne3,hne4]) rfl ⟨rfl,HG.out _ _ hg ((((HW.out.mono σ).setCell (Or.inl σ) _).setCell (Or.inl σ) _).drew)⟩
end
section
variable {K:gW}{w:World}{p:Nat}{F:List Nat}{kd d:Int}{R:AR}{A:NS}{q:Nat}
theorem EH{R:AR}{x:Nat}(hv:R.v x=true)(y:Nat):(kW R x).v y=(R.v y && !decide (y=x)):=by
 show(R.put x (R.g x,false)).v y=_
 rw[AR.zK]
 by_cases e:y=x
 ·rw[if_pos ⟨e,AR.Oo hv⟩,decide_eq_true e];simp
 ·rw[if_neg (fun h=>e h.1),decide_eq_false e];simp
theorem Lx{A:NS}{x:Nat}(hx:bS A (x:Int)=true)(y:Nat):bS (bz A (x:Int)) (y:Int)=(bS A (y:Int) && !decide (y=x)):=by
 have hc:=x9 hx y;have hl:=fG A (x:Int)
 by_cases e:y=x
 ·rw[if_pos e]at hc;rw[decide_eq_true e];have:¬bS (bz A (x:Int)) (y:Int)=true:=fun h=>by
   have:=(ah _ _).1 h;rw[hc]at this;exact absurd this.2 (by simp[Cl.z])
  simpa using this
 ·rw[if_neg e]at hc;rw[decide_eq_false e];have e1:bS (bz A (x:Int)) (y:Int)=true↔bS A (y:Int)=true:=by rw[ah,ah,hl,hc]
  cases h1:bS (bz A (x:Int)) (y:Int)<;>cases h2:bS A (y:Int)<;>simp_all
theorem CB(R:AR)(x:Nat):(kW R x).sl.length=R.sl.length:=by show(R.put x _).sl.length=_;rw[AR.jZ]
theorem QJ(h:gP K w p F kd d R A q)(hh:Int)(hb:-9223372036854775808<=hh/\hh<=9223372036854775807)(hE:dL A hh=none) :
  Calls Tryz.prog 41 #[.pointer (some ⟨p,0,none⟩),.int .i64 hh] w fun e w'=>e=.returned (.tuple #[.agg #[.int .i64 0,.int .u32 0],.int .i64 0,.int .i64 (sD A hh)])/\Goes F w w' (fun F'=>gP K w' p F' kd d R A q):=by
 have hu0:aa [] w (w.alloc (.cells #[.int .i64 0,.int .u32 0] 85)):=(aa.refl [] w).alloc _;have k:=RB (h.au hu0) hh hb hE;have eE:sD A hh≠0:=by unfold sD;rw[hE];split<;>simp
 have LA:=h.lt;have xw:w.heap.size∉F:=fun e=>by have:=LA _ e;omega
 have HG:=χ (fun(w1 w2:World) (hg:Goes F (w.alloc (.cells #[.int .i64 0,.int .u32 0] 85)) w1 (fun F'=>gP K w1 p F' kd d R A q)) (hu2:aa [w.heap.size] w1 w2)=>hg.beh hu2 hu0 (fun r hr=>by simp at hr;subst hr;exact⟨σ,xw,Nat.le_refl _⟩));generalize sD A hh=er at *;have eb:(er != 0)=true:=by simpa using eE
 clear h hE eE LA
 go_enter Tryz.func41,Tryz.ntmps41
 go_wp2_with (first
  | ((go_at_call 43;(with_reducible refine(k).mono ?_));rintro e w1 ⟨rfl,hg⟩;(have hu1:aa F (w.alloc (.cells #[.int .i64 0,.int .u32 0] 85)) w1:=by obtain⟨_,_,h2,_⟩:=hg;exact h2);(have q0:w1.cell? ⟨w.heap.size,0,none⟩=some (.int .i64 0):=hu1.kept γ xw);(have q1:w1.cell? ⟨w.heap.size,1,none⟩=some (.int .u32 0):=hu1.kept γ xw);(have f0:w1.frozen? ⟨w.heap.size,0,none⟩=false:=hu1.aS (v:=.int .i64 0) γ xw γ);(have f1:w1.frozen? ⟨w.heap.size,1,none⟩=false:=hu1.aS (v:=.int .u32 0) γ xw γ);(have hrl:=World.block_lt_of_cell? w1 _ q0))
  | fail)
 exact bodyPost_ret (v:=.tuple #[.agg #[.int .i64 0,.int .u32 0],.int .i64 0,.int .i64 er]) (by simp[results,Tryz.results41,go_sem,q0,q1,hrl]) rfl ⟨rfl,HG.out _ _ hg ((((aa.refl _ _).setCell (Or.inl σ) _).setCell (Or.inl σ) _).alloc _)⟩
theorem gP.out{kd d:Int}{m:Nat}{w1:World}{pa pn:Nat}{Fa Fn:List Nat}(h:Fv K w p pa pn Fa Fn kd d R A q)(hm:bS A (m:Int)=true){wR:List Nat}(hn:K.at_ w1 pn wR (bz A m))(hu:aa Fn w w1)(hf:∀x,x∈wR->x∈Fn\/w.heap.size<=x)
  {w2 w3:World} (hu2:aa [] w1 w2) {Mi:List Nat} (ha:qM w3 pa Mi (kW R m)) (hu3:aa Fa w2 w3) (hf3:∀x,x∈Mi->x∈Fa\/w2.heap.size<=x):Goes (p::(Fa++Fn)) w w3 (fun F'=>gP K w3 p F' kd d (kW R m) (bz A m) q):=by
 have hA:=h.ar.lt;have hN:=K.lt h.nest;have hN1:=K.lt hn;have hs12:=hu2.size;have hs01:=hu.size;have hv:R.v m=true:=by rw[h.link];exact hm
 have hpl:=h.head.lt;have hnn:∀x,x∈Fa->x∉wR:=fun x hx e=>by rcases hf x e with e|e;exact h.s3 x hx e;have:=hA x hx;omega
 refine⟨p::(Mi++wR),⟨pa,pn,Mi,wR,rfl,⟨((h.head.upd hu h.s2).upd hu2 σ).upd hu3 h.s1,ha,K.upd (K.upd hn hu2 σ) hu3 hnn,fun e=>?_,fun e=>?_,fun x h1 h2=>?_,?_,fun y=>?_⟩⟩,?_,fun x hx=>?_⟩
 ·rcases hf3 _ e with e|e
  ·exact h.s1 e
  ·omega
 ·rcases hf _ e with e|e
  ·exact h.s2 e
  ·omega
 ·rcases hf3 x h1 with e|e
  ·exact hnn x e h2
  ·have:=hN1 x h2;omega
 ·rw[CB,fG];exact h.len
 ·rw[EH hv,Lx hm,h.link]
 ·exact((hu.mono (fun x hx=>by simp[hx])).trans (hu2.mono σ)).trans (hu3.mono (fun x hx=>by simp[hx]))
 ·simp only[ρ,τ]at hx⊢;rcases hx with hx|hx|hx
  ·exact Or.inl (Or.inl hx)
  ·rcases hf3 x hx with e|e
   ·exact Or.inl (Or.inr (Or.inl e))
   ·exact Or.inr ω
  ·rcases hf x hx with e|e
   ·exact Or.inl (Or.inr (Or.inr e))
   ·exact Or.inr e
end
section
variable {K:gW}{w:World}{p:Nat}{F:List Nat}{kd d:Int}{R:AR}{A:NS}{q:Nat}
theorem Goes.chain{F G S:List Nat}{w W w2 w3:World}{R':AR}{A':NS}{q':Nat}(h1:aa F w W)(hf:∀x,x∈G->x∈F\/w.heap.size<=x)(h2:Goes G W w2 (fun F'=>gP K w2 p F' kd d R' A' q'))(hr:aa S w2 w3)(hS:∀r,r∈S->r∉G/\r<W.heap.size/\w.heap.size<=r) :
  Goes F w w3 (fun F'=>gP K w3 p F' kd d R' A' q'):=by
 obtain⟨F2,hP,hu,hf2⟩:=h2;have hs:=h1.size;refine⟨F2,hP.upd hr (fun r hr hm=>?_),(h1.joined hu hf).joined hr (fun r hr=>Or.inr (hS r hr).2.2),fun x hx=>?_⟩
 ·rcases hf2 r hm with e|e
  ·exact(hS r hr).1 e
  ·have:=(hS r hr).2.1;omega
 ·rcases hf2 x hx with e|e
  ·exact hf x e
  ·exact Or.inr (Nat.le_trans hs e)
theorem MV(h:gP K w p F kd d R A q)(hh:Int){m:Nat}(hM:dL A hh=some m) :
  Calls Tryz.prog 41 #[.pointer (some ⟨p,0,none⟩),.int .i64 hh] w fun e w'=>e=.returned (.tuple #[.agg #[.int .i64 (m:Int),.int .u32 (R.g m:Int)],.int .i64 (A.c m).k,.int .i64 0])/\Goes F w w' (fun F'=>gP K w' p F' kd d (kW R m) (bz A m) q):=by
 obtain⟨hh,rfl⟩:∃n:Nat,hh=n:=⟨hh.toNat,by have:=(lK hM).1;omega⟩;have hu0:aa [] w (w.alloc (.cells #[.int .i64 0,.int .u32 0] 85)):=(aa.refl [] w).alloc _;have k:=NY (h.au hu0) hh hM;have hin:=(lK hM).2.2.2;have hv:R.v m=true:=by rw[h.ok.2.2.2];exact hin
 have hb:-9223372036854775808<=(hh:Int)/\(hh:Int)<=9223372036854775807:=by
  obtain⟨m1,m2,m3,m4⟩:=lK hM;have:=iX h.ok.1 m4;have h4:=(aV _ _).1 this;have h5:=h.ok.1.h1;rw[show((m:Nat):Int).toNat=m by omega,m3]at h4;omega
 have hex:uU A hh=bz A m:=by unfold uU;rw[hM]
 have LA:=h.lt;have xw:w.heap.size∉F:=fun e=>by have:=LA _ e;omega
 have HS:=χ (ψ hin (ψ hv (ψ hb (ψ hex hM))));clear h hM hin hv hb hex;generalize hgm:R.g m=gm at *;generalize (A.c m).k=kk at *;have HGM:=χ hgm;clear hgm
 go_enter Tryz.func41,Tryz.ntmps41
 go_upto_region 4 with(first
  | ((go_at_call 43;(with_reducible refine(k).mono ?_));rintro e w1 ⟨rfl,hg⟩;(have hu1:aa F (w.alloc (.cells #[.int .i64 0,.int .u32 0] 85)) w1:=by obtain⟨_,_,h2,_⟩:=hg;exact h2);(have q0:w1.cell? ⟨w.heap.size,0,none⟩=some (.int .i64 0):=hu1.kept γ xw);(have q1:w1.cell? ⟨w.heap.size,1,none⟩=some (.int .u32 0):=hu1.kept γ xw);(have f0:w1.frozen? ⟨w.heap.size,0,none⟩=false:=hu1.aS (v:=.int .i64 0) γ xw γ);(have f1:w1.frozen? ⟨w.heap.size,1,none⟩=false:=hu1.aS (v:=.int .u32 0) γ xw γ);(have hrl:=World.block_lt_of_cell? w1 _ q0))
  | fail)
 refine jk (fun W=>W.cell? ⟨w1.heap.size,0,none⟩=some (.int .i64 (m:Int))/\W.cell? ⟨w1.heap.size,1,none⟩=some (.int .u32 (gm:Int))/\aa [] w1 W) ⟨γ,γ,β⟩ ?_;rintro W ⟨y0,y1,hW⟩;obtain⟨F1,⟨pa,pn,Fa,Fn,rfl,hP1⟩,hu1',hf1⟩:=hg;have hP:=hP1.upd hW σ;have c2:=hP.c2;have c3:=hP.c3;have hPl:=hP1.lt;have Yk:w.heap.size∉p::(Fa++Fn):=fun e=>by rcases hf1 _ e with e|e;exact xw e;simp at e;omega
 have hxF1:w1.heap.size∉p::(Fa++Fn):=fun e=>by have:=hPl _ e;omega
 obtain⟨f,fv,hen,rU⟩:=K.extract hh m HS.out.2.2.2.2 hP.nest;unfold Enters at hen;have hm:=(rU _ (aa.refl _ _)).1;have hc:=(rU _ (aa.refl _ _)).2;have t0:=hW.was q0;have t1:=hW.was q1;have Zw:=hW.aS q0 σ f0;have YQ:=hW.aS q1 σ f1;have p9:w.heap.size∉Fn:=fun e=>Yk (by simp[e]);have QP:w1.heap.size∉Fn:=fun e=>hxF1 (by simp[e]);have hpFn:=hP.s2;have Qm:w.heap.size∉Fa:=fun e=>Yk (by simp[e]);have hxFa:w1.heap.size∉Fa:=fun e=>hxF1 (by simp[e]);have HZ:=χ (ψ hP (ψ hu1 (ψ hW (ψ hf1 hP1))))
 have ka:∀ (w5:World) (bW:aa Fn W w5) (X:World) (hX:aa [] w5 X),Calls Tryz.prog 67 #[.pointer (some ⟨pa,0,none⟩),.agg #[.int .i64 (m:Int),.int .u32 (gm:Int)]] X fun e w'=>e=.returned (.int .i64 0)/\Goes Fa X w' (fun F'=>qM w' pa F' (kW R m)):=fun w5 bW X hX=>by
  have:=JZ ((hP.ar.upd bW (fun x hx hm=>hP.s3 x hm hx)).upd hX σ) m HS.out.2.1;rw[HGM.out]at this;exact this
 clear rU hP hu1 hW hu1' hf1 hP1 q0 q1 f0 f1 hPl LA xw k
 go_upto_region 5 with(first
  | ((with_reducible refine(hc).mono ?_);rintro e w5 ⟨rfl,wR,OU,bW,VG⟩;(have z0:=bW.kept y0 QP);(have z1:=bW.kept y1 QP);(have z2:=bW.kept c2 hpFn);(have s0:=bW.kept t0 p9);(have s1:=bW.kept t1 p9);(have sf0:=bW.aS t0 p9 Zw);(have sf1:=bW.aS t1 p9 YQ))
  | fail)
 have ka5:=ka w5 bW w5.drew ((aa.refl _ _).drew);clear ka
 go_region_law
  (first
   | (go_simp;go_at_call 67;(with_reducible refine(ka5).mono ?_);rintro e w6 ⟨rfl,Mi,ha6,ik,hf6⟩;(have v0:=ik.kept z0 hxFa);(have v1:=ik.kept z1 hxFa);(have r0:=ik.kept s0 Qm);(have r1:=ik.kept s1 Qm);(have rf0:=ik.aS s0 Qm sf0);(have rf1:=ik.aS s1 Qm sf1)))
 all_goals
  go_wp2;obtain⟨hP,hu1,hW,hf1,hP1⟩:=HZ.out;have G7:=hW.size;have XC:aa F w W:=(aa.trans ((aa.refl _ _).alloc _) hu1).trans (hW.mono σ);refine bodyPost_ret (v:=.tuple #[.agg #[.int .i64 (m:Int),.int .u32 (gm:Int)],.int .i64 kk,.int .i64 0]) (by simp[results,Tryz.results41,go_sem,r0,r1]) rfl ⟨rfl,?_⟩
  exact Goes.chain XC (fun x hx=>by rcases hf1 x hx with e|e;exact Or.inl e;simp at e;exact Or.inr ω) (gP.out hP HS.out.1 OU bW VG ((aa.refl _ _).drew) ha6 ik hf6) (S:=[w.heap.size]) (((aa.refl _ _).setCell (Or.inl σ) _).setCell (Or.inl σ) _) (fun r hr=>by simp at hr;subst hr;exact⟨Yk,ω,Nat.le_refl _⟩)
end
section
variable {K:gW}{w:World}{p:Nat}{F:List Nat}{kd d:Int}{R:AR}{A:NS}{q:Nat}
theorem Gp{A:NS}{x:Nat}{k s:Int}(y:Nat):bS (ay A (x:Int) k s) (y:Int)=bS A (y:Int):=by
 by_cases hB:jg A (x:Int) k s=true
 ·have hin:=rq hB;have hx:=(ah _ _).1 hin;have hi:=iM hB hx.1 y;have hl:=fE A (x:Int) k s;have e:bS (ay A (x:Int) k s) (y:Int)=true↔bS A (y:Int)=true:=by rw[ah,ah,hl,hi]
  cases h1:bS (ay A (x:Int) k s) (y:Int)<;>cases h2:bS A (y:Int)<;>simp_all
 ·unfold ay;rw[if_neg hB]
theorem MI{A:NS}{x:Nat}{k:Int}(hin:bS A (x:Int)=true)(hk:k<=(A.c x).k):jg A (x:Int) k (A.c x).s=true:=by
 unfold jg Dh;rw[hin,show((x:Nat):Int).toNat=x by omega]
 split
 ·simp
 ·simp;omega
theorem Ru(h:gP K w p F kd d R A q)(x:Nat)(k:Int)(hv:R.v x=true)(hk:k<=(A.c x).k)(hkb:-9223372036854775808<=k) :
  Calls Tryz.prog 76 #[.pointer (some ⟨p,0,none⟩),.agg #[.int .i64 (x:Int),.int .u32 (R.g x:Int)],.int .i64 k] w fun e w'=>e=.returned (.int .i64 0)/\Goes F w w' (fun F'=>gP K w' p F' kd d R (ay A (x:Int) k (A.c x).s) q):=by
 have hin:bS A (x:Int)=true:=by rw[←h.ok.2.2.2];exact hv
 have vv:=(ah _ _).1 hin;have hsn:=h.ok.1.c1;have hkey:=h.ok.1.key x;have hac:-9223372036854775808<=k/\k<=9223372036854775807/\0<=(A.c x).s/\(A.c x).s<=18446744073709551615:=ω;have ke:=fun W (hW:aa [] w W)=>AZ (h.au hW) x hv;have hlow:=MI hin hk;have HL:=χ (ψ hlow (fun y=>Gp (A:=A) (x:=x) (k:=k) (s:=(A.c x).s) y));have LA:=h.lt;obtain⟨pa,pn,Fa,Fn,rfl,h⟩:=h;have c3:=h.c3;have HH:=χ (ψ h hac);have hgt:decide (k > (A.c x).k)=false:=ζ;have hgt2:¬k > (A.c x).k:=ω;clear h hv hin hac hlow hkey;generalize hkk:(A.c x).k=kk at *;generalize hss:(A.c x).s=ss at *;generalize R.g x=gx at *;clear hkk hss hk
 go_enter Tryz.func76,Tryz.ntmps76
 go_upto_region 6 with(first
  | ((go_at_call 69;(with_reducible refine(ke _ β).mono ?_));rintro e w1 ⟨rfl,hu1⟩;(have x0:w1.cell? ⟨w.heap.size,0,none⟩=some (.int .i64 (x:Int)):=hu1.was γ);(have hw1:aa [] w w1:=aa.trans β hu1))
  | fail)
 have hxl:=World.block_lt_of_cell? w1 _ x0;refine jk (fun W=>W.cell? ⟨w.heap.size,0,none⟩=some (.int .i64 (x:Int))/\W.cell? ⟨w1.heap.size,1,none⟩=some (.int .u64 ss)/\aa [] w W) ⟨γ,γ,by have:=hw1;exact β⟩ ?_;rintro W ⟨y0,y1,hW⟩;have z3:=hW.was c3;have hN:=K.upd HH.out.1.nest hW σ;obtain⟨f,fv,hen,rU⟩:=K.mD x k ss HH.out.2 HL.out.1 hN;unfold Enters at hen;have hm:=(rU W.drew ((aa.refl _ _).drew)).1;have hc:=(rU W.drew ((aa.refl _ _).drew)).2;have HZ:=χ hW;clear hW hN rU x0 hw1 hu1 hxl ke c3
 go_region_law
  (first
   | (go_simp;(with_reducible refine(hc).mono ?_);rintro e w5 ⟨rfl,F5,hA5,bW,Ws⟩))
 all_goals
  go_wp2;go_ret;have hPW:=HH.out.1.upd HZ.out σ;have qV:aa Fn W w5:=((aa.refl Fn W).drew).trans bW;refine⟨rfl,Goes.after ?_ HZ.out⟩;refine⟨p::(Fa++F5),⟨pa,pn,Fa,F5,rfl,hPW.RN hA5 qV Ws (fE _ _ _ _) (hPW.ar.upd qV (fun z hz hm=>hPW.s3 z hm hz)) rfl (fun y=>by rw[HL.out.2];exact hPW.link y)⟩,qV.mono (fun z hz=>by simp[hz]),fun z hz=>?_⟩;simp only[ρ,τ]at hz⊢;rcases hz with hz|hz|hz
  ·exact Or.inl (Or.inl hz)
  ·exact Or.inl (Or.inr (Or.inl hz))
  ·rcases Ws z hz with e|e
   ·exact Or.inl (Or.inr (Or.inr e))
   ·exact Or.inr e
end
end Go.Proofs.YtklibcncmbofpaaGreat
namespace Go.Proofs.YtklibcncmbofpaaGreat
open Go.RowKit
def yS(k d:Int):Int:=
 if k<1\/8<k then 21 else if (k=2/\(d<2\/16<d))\/(k≠2/\d≠0)then 22 else 0
theorem RL{k d:Int}(h:k<1\/8<k):yS k d=21:=by unfold yS;rw[if_pos h]
theorem Qh{k d:Int}(h:¬ (k<1\/8<k))(h2:(k=2/\(d<2\/16<d))\/(k≠2/\d≠0)):yS k d=22:=by unfold yS;rw[if_neg h,if_pos h2]
theorem XW{k d:Int}(h:¬ (k<1\/8<k))(h2:¬ ((k=2/\(d<2\/16<d))\/(k≠2/\d≠0))):yS k d=0:=by unfold yS;rw[if_neg h,if_neg h2]
theorem Jc{k d:Int}(h:yS k d=0):1<=k/\k<=8/\(k=2->2<=d/\d<=16)/\(k≠2->d=0):=by
 unfold yS at h;split at h
 ·omega
 ·split at h
  ·omega
  ·omega
theorem yj(k d:Int)(w:World) :
  Calls Tryz.prog 50 #[.agg #[.int .i64 k,.int .i64 d]] w fun e w'=>e=.returned (.int .i64 (yS k d))/\aa [] w w':=by
 go_enter Tryz.func50,Tryz.ntmps50
 go_wp2
 all_goals
  go_ret;refine⟨j3 ?_,(aa.refl _ _).alloc _⟩
  try simp only[bne_iff_ne,ne_eq,bne_eq_false_iff_eq]at *
  first
  | (rw[RL ω];done)
  | (rw[Qh ω ω];done)
  | (rw[XW ω ω];done)
theorem Jk(k d:Int)(w:World) :
  Calls Tryz.prog 18 #[.agg #[.int .i64 k,.int .i64 d]] w fun e w'=>e=.returned (.int .i64 (yS k d))/\aa [] w w':=by
 go_enter Tryz.func18,Tryz.ntmps18
 go_wp2
 all_goals
  go_ret;refine⟨j3 ?_,(aa.refl _ _).alloc _⟩
  try simp only[bne_iff_ne,ne_eq,bne_eq_false_iff_eq,beq_iff_eq,beq_eq_false_iff_ne]at *
  first
  | (rw[RL ω];done)
  | (rw[Qh ω ω];done)
  | (rw[XW ω ω];done)
end Go.Proofs.YtklibcncmbofpaaGreat
namespace Go.Proofs.YtklibcncmbofpaaGreat
open Go Go.RowKit
def pJ(K:gW)(kd d:Int)(n:Nat):Prop:=∀W:World,Calls Tryz.prog 81 #[.agg #[.int .i64 kd,.int .i64 d],.int .i64 (n:Int)] W fun e w'=>∃pn Fn,e=.returned (.tuple #[.iface K.ty (.pointer (some ⟨pn,0,none⟩)),.int .i64 0])/\K.at_ w' pn Fn (NS.new n)/\aa [] W w'/\∀x,x∈Fn->W.heap.size<=x
theorem Sm(n:Nat)(x:Nat):bS (NS.new n) (x:Int)=false:=by
 cases h:bS (NS.new n) (x:Int)with
 | false=>rfl
 | true=>have:=(ah _ _).1 h;rw[NS.yM]at this;exact absurd this.2 (by simp[Cl.z])
theorem TM(n m x:Nat):(AR.new n m).v x=false:=by
 unfold AR.new AR.v;simp only[φ,List.getElem?_replicate]
 split<;>rfl
theorem Np{K:gW}{kd d:Int}(n m:Nat)(w:World)(hn:n<=65536)(hm:1<=m/\m<=4294967295)(hc:yS kd d=0)(ko:pJ K kd d n) :
  Calls Tryz.prog 64 #[.agg #[.int .i64 kd,.int .i64 d],.int .i64 (n:Int),.int .u32 (m:Int)] w fun e w'=>∃p F,e=.returned (.tuple #[.pointer (some ⟨p,0,none⟩),.int .i64 0])/\gP K w' p F kd d (AR.new n m) (NS.new n) 0/\aa [] w w'/\∀x,x∈F->w.heap.size<=x:=by
 have kc:=fun W=>yj kd d W;rw[hc]at kc;have ka:=fun W=>MS n m W hn hm;unfold pJ at ko;have hcs:(NS.new n).cs.length=n:=by simp[NS.new]
 have hal:(AR.new n m).sl.length=n:=by simp[AR.new]
 have HL:=χ (ψ hcs hal);clear hcs hal hc
 go_enter Tryz.func64,Tryz.ntmps64
 go_wp2_with (first
  | ((go_at_call 50;(with_reducible refine(kc _).mono ?_));rintro e w1 ⟨rfl,hu1⟩;(have q0:w1.cell? ⟨w.heap.size,0,none⟩=some (.int .i64 kd):=hu1.was γ);(have q1:w1.cell? ⟨w.heap.size,1,none⟩=some (.int .i64 d):=hu1.was γ);(have hw1:aa [] w w1:=aa.trans β hu1))
  | ((go_at_call 80;(with_reducible refine(ka _).mono ?_));rintro e w2 ⟨pa,Fa,rfl,hA,hu2,hfa⟩;(have q2:=hu2.was q0);(have q3:=hu2.was q1))
  | ((go_at_call 81;(with_reducible refine(ko _).mono ?_));rintro e w3 ⟨pn,Fn,rfl,hN,hu3,hfn⟩;(have q4:=hu3.was q2);(have q5:=hu3.was q3))
  | fail)
 go_ret2;have hh:=dP w3 [.int .i64 kd,.int .i64 d,.pointer (some ⟨pa,0,none⟩),.iface K.ty (.pointer (some ⟨pn,0,none⟩)),.int .u64 0] 124;have hb:aa [] w3 (w3.alloc (.cells #[.int .i64 kd,.int .i64 d,.pointer (some ⟨pa,0,none⟩),.iface K.ty (.pointer (some ⟨pn,0,none⟩)),.int .u64 0] 124)):=(aa.refl _ _).alloc _;have hAl:=hA.lt;have hNl:=K.lt hN;have s3:=hu3.size;have s1:=hw1.size;have s2:=hu2.size
 refine⟨w3.heap.size,w3.heap.size::(Fa++Fn),rfl,⟨pa,pn,Fa,Fn,rfl,⟨hh.ext (fun j hj=>by unfold pqC;rfl),(hA.upd hu3 σ).upd hb σ,K.upd hN hb σ,fun e=>by have:=hAl _ e;omega,fun e=>by have:=hNl _ e;omega,fun x h1 h2=>by have:=hAl x h1;have:=hfn x h2;omega,by rw[HL.out.1,HL.out.2],fun x=>by rw[TM,Sm]⟩⟩,((hw1.trans hu2).trans hu3).trans hb,fun x hx=>?_⟩;simp only[ρ,τ]at hx;rcases hx with rfl|hx|hx
 ·omega
 ·have:=hfa x hx;omega
 ·have:=hfn x hx;omega
end Go.Proofs.YtklibcncmbofpaaGreat
