/-
  Lemmas for PathBest: Pq2, Pq3, Pq4, Pq5, Pq6, Pq7, Pq8, Chk, PqO. Conditions: those of each lemma.
-/
import Derived.Test.YtklibcncmbofpaaGreatB05
set_option linter.all false
set_option maxHeartbeats 8000000
set_option maxRecDepth 10000
namespace Go.Proofs.YtklibcncmbofpaaGreat
open Go Go.RowKit
section
variable {K:gV} {w:World} {p pa pn:Nat} {Fa Fn F:List Nat} {kd d:Int} {R:AR} {A:NS} {q:Nat}
theorem SA {A:NS} {hh x k s:Int} (hB:oF A hh x=true) (y:Nat):bX (aN A hh x k s) (y:Int)=(bX A (y:Int) || decide ((y:Int)=x)):=by
 obtain ⟨b1,b2,b3⟩:=(fE _ _ _).1 hB;have b4:=(aT _ _).1 b1;have b5:=(ic _ _).1 b2;unfold aN;rw [if_pos hB];have e1:bX (jh A x.toNat ⟨hh,k,s⟩) (y:Int)=true↔(bX A (y:Int) || decide ((y:Int)=x))=true:=by
  rw [ai,fO,kV,Bool.or_eq_true,ai,decide_eq_true_eq]
  by_cases e:y=x.toNat
  ·rw [if_pos ⟨e,ω⟩];constructor
   ·intro _;right;omega
   ·intro _;exact ⟨ω,by show 0<hh;omega⟩
  ·rw [if_neg (fun h=>e h.1)];constructor
   ·intro h;exact Or.inl h
   ·rintro (h|h)
    ·exact h
    ·omega
 cases h1:bX (jh A x.toNat ⟨hh,k,s⟩) (y:Int)<;>cases h2:(bX A (y:Int) || decide ((y:Int)=x))<;>simp_all
theorem FN (A:NS) (h x k s:Int):(aN A h x k s).cs.length=A.cs.length:=by unfold aN;split;exact fO _ _ _;rfl
theorem Ae {R R':AR} {x:Nat} (h:R.Ok) (hp:uO R=some (x,R')) (y:Nat):R'.v y=(R.v y || decide ((y:Int)=(x:Int))):=by
 obtain ⟨_,h1,h2,_,h3,_⟩:=wS h hp;have e:R'.v y=(R.put x (R.g x+1,true)).v y:=by unfold AR.v AR.put;rw [h3]
 rw [e,AR.Ay]
 by_cases e2:y=x
 ·rw [if_pos ⟨e2,h1⟩,e2];simp
 ·rw [if_neg (fun h=>e2 h.1),decide_eq_false ω];simp
theorem Ig (h:gU K w p F kd d R A q) (hh k:Int) (hB:bK A hh=true) (hk:-9223372036854775808<=k/\k<=9223372036854775807) (hq:q+1<=18446744073709551615) {x:Nat} {R':AR} (hT:uO R=some (x,R')) :
  Calls Tryz.prog 40 #[.pointer (some ⟨p,0,none⟩),.int .i64 hh,.int .i64 k] w fun e w'=>e=.returned (.tuple #[.agg #[.int .i64 (x:Int),.int .u32 ((R.g x:Int)+1)],.int .i64 0])/\
   Goes F w w' (fun F'=>gU K w' p F' kd d R' (aN A hh (x:Int) k ((q:Int)+1)) (q+1)):=by
 obtain ⟨hh,rfl⟩:∃n:Nat,hh=n:=⟨hh.toNat,by have:=(aT _ _).1 hB;omega⟩;obtain ⟨pa,pn,Fa,Fn,rfl,h⟩:=h;have hok:=K.ok h.nest;have O6:=wS h.ar.ok hT;have Iq:=h.link;have hBp:oF A (hh:Int) (x:Int)=true:=by
  rw [fE];refine ⟨hB,(ic _ _).2 ⟨ω,by have:=h.len;omega⟩,?_⟩;rw [←h.link];exact O6.2.2.1
 have hb4:=(aT _ _).1 hB;have lX:=hok.h1;have hsn:=hok.c1;have hxl:=O6.2.1;have hlen:=h.len;have hac:-9223372036854775808<=k/\k<=9223372036854775807/\0<=(q:Int)+1/\(q:Int)+1<=18446744073709551615:=ω;have c2:=h.c2;have c3':=h.c3;have c4':=h.c4;have f4':=h.head.free 4;have hpl:=h.head.lt;have ZV:=h.ar.lt;have hFn:=K.lt h.nest;have hs1:=h.s1;have hs2:=h.s2;have hs3:=h.s3;have hu0:aa [] w (w.alloc (.cells #[.int .i64 0,.int .u32 0] 85)):=(aa.refl [] w).alloc _;have hN:=K.upd h.nest hu0 σ;have kt:=fun W (hW:aa [] w W)=>GX (h.ar.upd hW σ) hT;obtain ⟨f,fv,hen,rR⟩:=K.has hh hN;unfold Enters at hen
 have hm:=(rR _ (aa.refl _ _)).1;have hc:=(rR _ (aa.refl _ _)).2;rw [hB] at hc;have hwq:IntKind.u64.wrap ((q:Int)+1)=(q:Int)+1:=IntWalk.u64_in _ ω;have wV:w.heap.size∉Fa:=fun e=>by have:=ZV _ e;omega
 have HH:=χ (ψ h (ψ hN (ψ hac (ψ ZV (ψ hFn (ψ hs3 (ψ Iq O6)))))));have HBp:=χ hBp;clear h rR hN hac ZV hFn hs3 Iq O6 hok hB hBp
 go_enter Tryz.func40,Tryz.ntmps40
 go_upto_region 7 with (first
  | ((with_reducible refine (hc).mono ?_);rintro e w1 ⟨rfl,rfl⟩)
  | ((go_at_call 66;(with_reducible refine (kt _ β).mono ?_));rintro e w2 ⟨rfl,KU,hA2,huA,hfA⟩;(have c3:w2.cell? ⟨p,3,none⟩=some (.iface K.ty (.pointer (some ⟨pn,0,none⟩))):=huA.kept (hu0.was c3') hs1);(have c4:w2.cell? ⟨p,4,none⟩=some (.int .u64 (q:Int)):=huA.kept (hu0.was c4') hs1);(have f4:w2.frozen? ⟨p,4,none⟩=false:=huA.aR (hu0.was c4') hs1 (hu0.aR c4' σ f4'));(have q0:w2.cell? ⟨w.heap.size,0,none⟩=some (.int .i64 0):=huA.kept γ wV);(have q1:w2.cell? ⟨w.heap.size,1,none⟩=some (.int .u32 0):=huA.kept γ wV);(have f0:w2.frozen? ⟨w.heap.size,0,none⟩=false:=huA.aR (v:=.int .i64 0) γ wV γ);(have f1:w2.frozen? ⟨w.heap.size,1,none⟩=false:=huA.aR (v:=.int .u32 0) γ wV γ);(have hp2:=World.block_lt_of_cell? w2 _ c3);(have hr2:=World.block_lt_of_cell? w2 _ q0))
  | fail)
 obtain ⟨h,hN0,hac,ZV,hFn,hs3,Iq,O6⟩:=HH.out;have hd2:aO w2 p 124 5 (pqC K pa pn kd d q):=(h.head.upd hu0 σ).upd huA hs1;have Rp:K.at_ w2 pn Fn A:=K.upd hN0 huA hs3;have Xa:aa [p] w2 ((w2.setCell ⟨p,4,none⟩ (.int .u64 ((q:Int)+1))).alloc (.cells #[.int .i64 (x:Int),.int .u32 ((R.g x:Int)+1)] 85)):=((aa.refl _ _).setCell (Or.inl σ) _).alloc _;have RL:p∉KU:=fun e=>by rcases hfA _ e with e|e;exact hs1 e;simp at e;omega
 have RO:∀z,z∈KU->z<w2.heap.size:=hA2.lt
 refine jA (fun W=>aO W p 124 5 (pqC K pa pn kd d (q+1))/\qW W pa KU R'/\K.at_ W pn Fn A/\W.cell? ⟨w2.heap.size,0,none⟩=some (.int .i64 (x:Int))/\W.cell? ⟨w2.heap.size,1,none⟩=some (.int .u32 ((R.g x:Int)+1))/\
  W.cell? ⟨w.heap.size,0,none⟩=some (.int .i64 0)/\W.cell? ⟨w.heap.size,1,none⟩=some (.int .u32 0)/\W.frozen? ⟨w.heap.size,0,none⟩=false/\W.frozen? ⟨w.heap.size,1,none⟩=false/\aa [p] w2 W)
  ⟨((hd2.set 4 _).ext (fun j hj=>?_)).alloc _,hA2.upd Xa (fun z hz=>by simp at hz;rw [hz];exact RL),K.upd Rp Xa (fun z hz=>by simp at hz;rw [hz];exact hs2),γ,γ,Xa.kept q0 ζ,Xa.kept q1 ζ,Xa.aR q0 ζ f0,Xa.aR q1 ζ f1,Xa⟩ ?_
 ·rcases (ω:j=0\/j=1\/j=2\/j=3\/j=4) with rfl|rfl|rfl|rfl|rfl<;>simp [pqC]
 rintro W ⟨hd,hA,hN,x0,x1,r0,r1,Ub,PD,SY⟩;have z3:W.cell? ⟨p,3,none⟩=some (.iface K.ty (.pointer (some ⟨pn,0,none⟩))):=hd.cellAt 3 ω rfl;have z4:W.cell? ⟨p,4,none⟩=some (.int .u64 ((q:Int)+1)):=hd.cellAt 4 ω (by simp [pqC]);obtain ⟨f2,fv2,QB,Ac⟩:=K.insert hh x k ((q:Int)+1) hac HBp.out hN;unfold Enters at QB;have hm2:=(Ac W.drew ((aa.refl _ _).drew)).1;have hc2:=(Ac W.drew ((aa.refl _ _).drew)).2;have hszW:=SY.size;have hrw:w.heap.size<W.heap.size:=ω;have hxw:w2.heap.size<W.heap.size:=World.block_lt_of_cell? W _ x0;have RX:w2.heap.size∉Fn:=fun e=>by have:=hFn _ e;omega
 have qy:w.heap.size∉Fn:=fun e=>by have:=hFn _ e;omega
 have RF:∀z,z∈KU->z∈Fn->False:=fun z h1 h2=>by
  rcases hfA z h1 with e|e
  ·exact hs3 z e h2
  ·have:=hFn z h2;simp at e;omega
 have WS:∀z,z∈KU->z<W.heap.size:=hA.lt;have hUw2:aa (p::(Fa++Fn)) w w2:=aa.trans ((aa.refl _ _).alloc _) (huA.mono (fun z hz=>by simp [hz]));have HFIN:Hid (∀w5 F5,K.at_ w5 pn F5 (aN A hh (x:Int) k ((q:Int)+1))->aa Fn W.drew w5->(∀z,z∈F5->z∈Fn\/W.drew.heap.size<=z)->∀v0 v1,Goes (p::(Fa++Fn)) w ((w5.setCell ⟨w.heap.size,0,none⟩ v0).setCell ⟨w.heap.size,1,none⟩ v1) (fun F'=>gU K ((w5.setCell ⟨w.heap.size,0,none⟩ v0).setCell ⟨w.heap.size,1,none⟩ v1) p F' kd d R' (aN A hh (x:Int) k ((q:Int)+1)) (q+1))):=by
  intro w5 F5 hA5 qI UE v0 v1;have cu:aa Fn W w5:=((aa.refl Fn W).drew).trans qI;have hr:aa [w.heap.size] w5 ((w5.setCell ⟨w.heap.size,0,none⟩ v0).setCell ⟨w.heap.size,1,none⟩ v1):=((aa.refl _ _).setCell (Or.inl σ) _).setCell (Or.inl σ) _;have hrF5:w.heap.size∉F5:=fun e=>by rcases UE _ e with e|e;exact qy e;have e':W.heap.size<=w.heap.size:=e;omega
  have abA:w.heap.size∉KU:=fun e=>by rcases hfA _ e with e|e;have:=ZV _ e;omega;simp at e;omega
  refine ⟨p::(KU++F5),⟨pa,pn,KU,F5,rfl,⟨(hd.upd cu hs2).upd hr ζ,(hA.upd cu (fun z h1 h2=>RF z h2 h1)).upd hr (fun z hz=>by simp at hz;rw [hz];exact abA),K.upd hA5 hr (fun z hz=>by simp at hz;rw [hz];exact hrF5),RL,fun e=>?_,fun z h1 h2=>?_,?_,fun y=>?_⟩⟩,?_,fun z hz=>?_⟩
  ·rcases UE _ e with e|e
   ·exact hs2 e
   ·have e':W.heap.size<=p:=e;omega
  ·rcases UE _ h2 with e|e
   ·exact RF z h1 e
   ·have e':W.heap.size<=z:=e;have:=WS z h1;omega
  ·rw [FN,←hlen,O6.2.2.2.2.1];simp
  ·rw [Ae h.ar.ok hT,SA HBp.out,Iq]
  ·have h1:=(hUw2.trans (SY.mono σ)).trans (cu.mono (fun z hz=>by simp [hz]));exact (h1.setCell (Or.inr (Nat.le_refl _)) _).setCell (Or.inr (Nat.le_refl _)) _
  ·simp only [ρ,τ] at hz ⊢;rcases hz with hz|hz|hz
   ·exact Or.inl (Or.inl hz)
   ·rcases hfA z hz with e|e
    ·exact Or.inl (Or.inr (Or.inl e))
    ·simp at e;exact Or.inr ω
   ·rcases UE z hz with e|e
    ·exact Or.inl (Or.inr (Or.inr e))
    ·have e':W.heap.size<=z:=e;exact Or.inr ω
 clear h hN0 hac ZV hFn Iq O6 hd2 Rp hd hA hN SY Ac q0 q1 f0 f1 c3 c4 f4 c2 c3' c4' f4' hc hm hen kt hA2 Xa huA hfA RL RF WS hUw2
 go_region_law
  (first
   | (go_simp;(with_reducible refine (hc2).mono ?_);rintro e w5 ⟨rfl,F5,hA5,cu,UE⟩;(have y0:=cu.kept x0 RX);(have y1:=cu.kept x1 RX);(have t0:=cu.kept r0 qy);(have t1:=cu.kept r1 qy);(have tf0:=cu.aR r0 qy Ub);(have tf1:=cu.aR r1 qy PD)))
 all_goals
  go_wp2;exact bodyPost_ret (v:=.tuple #[.agg #[.int .i64 (x:Int),.int .u32 ((R.g x:Int)+1)],.int .i64 0]) (by simp [results,Tryz.results40,go_sem,t0,t1]) rfl ⟨rfl,HFIN.out _ _ hA5 cu UE _ _⟩
end
section
variable {K:gV} {w:World} {p pa pn:Nat} {Fa Fn F:List Nat} {kd d:Int} {R:AR} {A:NS} {q:Nat}
theorem zu (h:gU K w p F kd d R A q) (x:Nat) (hv:R.v x=true) :
  Calls Tryz.prog 69 #[.pointer (some ⟨p,0,none⟩),.agg #[.int .i64 (x:Int),.int .u32 (R.g x:Int)]] w fun e w'=>e=.returned (.tuple #[.agg #[.int .i64 (A.c x).k,.int .u64 (A.c x).s],.int .i64 0])/\aa [] w w':=by
 obtain ⟨pa,pn,Fa,Fn,rfl,h⟩:=h;have hin:bX A (x:Int)=true:=by rw [←h.link];exact hv
 have hx:=AR.Nw hv;have hgm:=h.ar.ok.gm x;have hmo:=h.ar.ok.Wl;have hlv:C9 R (x:Int) (R.g x:Int)=true:=by
  unfold C9;rw [show ((x:Nat):Int).toNat=x by omega,hv,decide_eq_true (ω:(0:Int)<=x),decide_eq_true (ω:(x:Int)<R.sl.length)];simp
 have kl:=fun W (hW:aa [] w W)=>A9 (h.ar.upd hW σ) (x:Int) (R.g x:Int) ω;rw [hlv] at kl;have c2':=h.c2;have c3':=h.c3;have HH:=χ h;clear h hlv hv;generalize R.g x=gx at *
 go_enter Tryz.func69,Tryz.ntmps69
 go_upto_region 1 with (fail)
 refine jA (fun W=>W.cell? ⟨w.heap.size,0,none⟩=some (.int .i64 (x:Int))/\W.cell? ⟨w.heap.size,1,none⟩=some (.int .u32 (gx:Int))/\W.cell? ⟨w.heap.size+1,0,none⟩=some (.int .i64 0)/\W.cell? ⟨w.heap.size+1,1,none⟩=some (.int .u64 0)/\W.frozen? ⟨w.heap.size+1,0,none⟩=false/\W.frozen? ⟨w.heap.size+1,1,none⟩=false/\aa [] w W) ⟨σ,σ,σ,σ,σ,σ,β⟩ ?_;rintro W ⟨x0,x1,r0,r1,Ub,PD,hu⟩;have Xh:=fun X (hX:aa [] W X)=>kl X (hu.trans hX);have e0:∀X,aa [] W X->X.cell? ⟨w.heap.size,0,none⟩=some (.int .i64 (x:Int)):=fun X h=>h.was x0
 have e1:∀X,aa [] W X->X.cell? ⟨w.heap.size,1,none⟩=some (.int .u32 (gx:Int)):=fun X h=>h.was x1;have e2:∀X,aa [] W X->X.cell? ⟨p,2,none⟩=some (.pointer (some ⟨pa,0,none⟩)):=fun X h=>h.was (hu.was c2');have HU:=χ (ψ hu (ψ x0 (ψ r0 (ψ r1 (ψ Ub PD)))));clear hu x0 x1 r0 r1 Ub PD kl c2'
 go_region_held3 (aa [] W) (exact ν)
  (first
   | ((go_at_call 83;(with_reducible refine (Xh _ ν).mono ?_));rintro e w1 ⟨rfl,hu1⟩;(have hv1:aa [] W w1:=aa.trans ν hu1)))
 go_upto_region 3 with (fail)
 obtain ⟨hu,x0,r0,r1,Ub,PD⟩:=HU.out;refine jA (fun X=>aa [] W X) β ?_;intro X hX;have y0:=hX.was x0;have z3:=hX.was (hu.was c3');have t0:=hX.was r0;have t1:=hX.was r1;have Y2:=hX.aR r0 σ Ub;have Yy:=hX.aR r1 σ PD;have hN:=K.upd HH.out.nest (hu.trans hX) σ;obtain ⟨f,fv,hen,rR⟩:=K.entry (x:Int) hN;unfold Enters at hen;have hm:=(rR X.drew ((aa.refl _ _).drew)).1;have hc:=(rR X.drew ((aa.refl _ _).drew)).2;have huB:aa [] X (X.alloc (.cells #[.int .i64 0,.int .u64 0] 129)).drew:=((aa.refl _ _).alloc _).drew;have tB0:=huB.was t0;have tB1:=huB.was t1;have tfB0:=huB.aR t0 σ Y2
 have tfB1:=huB.aR t1 σ Yy;have nB0:(X.alloc (.cells #[.int .i64 0,.int .u64 0] 129)).drew.cell? ⟨X.heap.size,0,none⟩=some (.int .i64 0):=σ;have nB1:(X.alloc (.cells #[.int .i64 0,.int .u64 0] 129)).drew.cell? ⟨X.heap.size,1,none⟩=some (.int .u64 0):=σ;have nfB0:(X.alloc (.cells #[.int .i64 0,.int .u64 0] 129)).drew.frozen? ⟨X.heap.size,0,none⟩=false:=σ;have nfB1:(X.alloc (.cells #[.int .i64 0,.int .u64 0] 129)).drew.frozen? ⟨X.heap.size,1,none⟩=false:=σ;have HB:=χ (ψ tB0 (ψ tB1 (ψ tfB0 (ψ tfB1 (ψ nB0 (ψ nB1 (ψ nfB0 nfB1)))))));clear tB0 tB1 tfB0 tfB1 nB0 nB1 nfB0 nfB1;have hmB:=(rR _ huB).1
 have hcB:=(rR _ huB).2;rw [hin,show ((x:Nat):Int).toNat=x by omega] at hc hcB;simp only [if_true] at hc hcB;have hrl:=World.block_lt_of_cell? X _ t0;have hxl:=World.block_lt_of_cell? X _ y0;have hpl:=World.block_lt_of_cell? X _ z3;dsimp only at hrl hxl hpl;have HU2:=χ (hu.trans hX);clear hu x0 r0 r1 Ub PD hX hN rR huB Xh e0 e1 e2 c3';generalize hkk:(A.c x).k=kk at *;generalize hss:(A.c x).s=ss at *;have HKS:=χ (ψ hkk hss);clear hkk hss
 go_region_law
  (first
   | (go_simp;(with_reducible refine (hc).mono ?_);rintro e w5 ⟨rfl,cu⟩;(have s0:w5.cell? ⟨w.heap.size+1,0,none⟩=some (.int .i64 0):=cu.was t0);(have s1:w5.cell? ⟨w.heap.size+1,1,none⟩=some (.int .u64 0):=cu.was t1);(have fs0:=cu.aR (v:=.int .i64 0) t0 σ Y2);(have fs1:=cu.aR (v:=.int .u64 0) t1 σ Yy);(have hsl:=World.block_lt_of_cell? w5 _ s0))
   | (go_simp;(with_reducible refine (hcB).mono ?_);rintro e w5 ⟨rfl,cu⟩;(have s0:=cu.was HB.out.1);(have s1:=cu.was HB.out.2.1);(have fs0:=cu.aR HB.out.1 σ HB.out.2.2.1);(have fs1:=cu.aR HB.out.2.1 σ HB.out.2.2.2.1);(have hsl:=World.block_lt_of_cell? w5 _ s0);(have b0:=cu.was HB.out.2.2.2.2.1);(have b1:=cu.was HB.out.2.2.2.2.2.1);(have fb0:=cu.aR HB.out.2.2.2.2.1 σ HB.out.2.2.2.2.2.2.1);(have fb1:=cu.aR HB.out.2.2.2.2.2.1 σ HB.out.2.2.2.2.2.2.2)))
 all_goals
  go_wp2;have h5:aa [] w w5:=HU2.out.trans (aa.trans β cu);have h6:=h5.size;exact bodyPost_ret (v:=.tuple #[.agg #[.int .i64 kk,.int .u64 ss],.int .i64 0]) (by simp [results,Tryz.results69,go_sem, *]) rfl ⟨by rw [HKS.out.1,HKS.out.2],β⟩
end
section
variable {K:gV} {w:World} {p pa pn:Nat} {Fa Fn F:List Nat} {kd d:Int} {R:AR} {A:NS} {q:Nat}
theorem ES.moved (h:ES K w p pa pn Fa Fn kd d R A q) {w':World} {wm:List Nat} (hn:K.at_ w' pn wm A) (hu:aa Fn w w') (hf:∀x,x∈wm->x∈Fn\/w.heap.size<=x):Goes (p::(Fa++Fn)) w w' (fun F'=>gU K w' p F' kd d R A q):=by
 refine ⟨p::(Fa++wm),⟨pa,pn,Fa,wm,rfl,h.Sw hn hu hf rfl (h.ar.upd hu (fun x hx hm=>h.s3 x hm hx)) rfl h.link⟩,hu.mono (fun x hx=>by simp [hx]),fun x hx=>?_⟩;simp only [ρ,τ] at hx ⊢;rcases hx with hx|hx|hx
 ·exact Or.inl (Or.inl hx)
 ·exact Or.inl (Or.inr (Or.inl hx))
 ·rcases hf x hx with hx|hx
  ·exact Or.inl (Or.inr (Or.inr hx))
  ·exact Or.inr hx
theorem Goes.after {F:List Nat} {w w0 w':World} {P:List Nat->Prop} (h:Goes F w0 w' P) (hu:aa [] w w0):Goes F w w' P:=by
 obtain ⟨F',h1,h2,h3⟩:=h;exact ⟨F',h1,(hu.mono σ).trans h2,fun x hx=>by rcases h3 x hx with h|h;exact Or.inl h;exact Or.inr (Nat.le_trans hu.size h)⟩
theorem Goes.beh {F S:List Nat} {w w0 w1 w2:World} {p:Nat} {kd d:Int} (h:Goes F w0 w1 (fun F'=>gU K w1 p F' kd d R A q)) (hu:aa S w1 w2) (hw:aa [] w w0) (hS:∀r,r∈S->r<w0.heap.size/\r∉F/\w.heap.size<=r):Goes F w w2 (fun F'=>gU K w2 p F' kd d R A q):=by
 obtain ⟨F',h1,h2,h3⟩:=h;refine ⟨F',h1.upd hu (fun r hr hm=>?_),((hw.mono σ).trans h2).joined hu (fun r hr=>Or.inr (hS r hr).2.2),fun x hx=>by rcases h3 x hx with h|h;exact Or.inl h;exact Or.inr (Nat.le_trans hw.size h)⟩;rcases h3 r hm with e|e
 ·exact (hS r hr).2.1 e
 ·have:=(hS r hr).1;omega
theorem D8 (h:gU K w p F kd d R A q) (hh:Int) (hB:bK A hh=false) :
  Calls Tryz.prog 68 #[.pointer (some ⟨p,0,none⟩),.int .i64 hh] w fun e w'=>e=.returned (.tuple #[.agg #[.int .i64 0,.int .u32 0],.int .i64 171])/\aa [] w w':=by
 obtain ⟨pa,pn,Fa,Fn,rfl,h⟩:=h;have c3:=h.c3;have hpl:=h.head.lt;have hN:=K.upd h.nest (((aa.refl [] w).alloc (.cells #[.int .i64 0,.int .u32 0] 85))) σ;obtain ⟨f,fv,hen,rR⟩:=K.has hh hN;unfold Enters at hen;have hm:=(rR _ (aa.refl _ _)).1;have hc:=(rR _ (aa.refl _ _)).2;rw [hB] at hc;clear h rR hN
 go_enter Tryz.func68,Tryz.ntmps68
 go_wp2_with (first
  | ((with_reducible refine (hc).mono ?_);rintro e w1 ⟨rfl,rfl⟩)
  | fail)
 exact bodyPost_ret (v:=.tuple #[.agg #[.int .i64 0,.int .u32 0],.int .i64 171]) (by simp [results,Tryz.results68,go_sem]) rfl ⟨rfl,β⟩
theorem G6 (h:gU K w p F kd d R A q) (hh:Int) (hB:bK A hh=true) (hb:-9223372036854775808<=hh/\hh<=9223372036854775807) (hM:dW A hh=none) :
  Calls Tryz.prog 68 #[.pointer (some ⟨p,0,none⟩),.int .i64 hh] w fun e w'=>e=.returned (.tuple #[.agg #[.int .i64 0,.int .u32 0],.int .i64 172])/\Goes F w w' (fun F'=>gU K w' p F' kd d R A q):=by
 obtain ⟨hh,rfl⟩:∃n:Nat,hh=n:=⟨hh.toNat,by have:=(aT _ _).1 hB;omega⟩;obtain ⟨pa,pn,Fa,Fn,rfl,h⟩:=h;have c3:=h.c3;have hpl:=h.head.lt;have hu0:aa [] w (w.alloc (.cells #[.int .i64 0,.int .u32 0] 85)):=(aa.refl [] w).alloc _;have hN:=K.upd h.nest hu0 σ;obtain ⟨f,fv,hen,rR⟩:=K.has hh hN;obtain ⟨f2,fv2,QB,Ac⟩:=K.min hh hB hN;unfold Enters at hen QB;have hm:=(rR _ (aa.refl _ _)).1;have hc:=(rR _ (aa.refl _ _)).2;have hm2:=(Ac _ (aa.refl _ _)).1;have hc2:=(Ac _ (aa.refl _ _)).2;rw [hB] at hc;rw [hM,show pK none=0 from rfl,show (none:Option Nat).isSome=false from rfl] at hc2
 have qy:w.heap.size∉Fn:=fun e=>by have:=K.lt h.nest _ e;omega
 have HG:=χ (fun w1 wm (hn:K.at_ w1 pn wm A) (hu:aa Fn (w.alloc (.cells #[.int .i64 0,.int .u32 0] 85)) w1) hf w2 (hu2:aa [w.heap.size] w1 w2)=>((h.upd hu0 σ).moved hn hu hf).beh hu2 hu0 (fun r hr=>by simp at hr;subst hr;exact ⟨σ,fun e=>by have:=h.lt _ e;omega,Nat.le_refl _⟩));clear h rR hN Ac
 go_enter Tryz.func68,Tryz.ntmps68
 go_wp2_with (first
  | ((with_reducible refine (hc).mono ?_);rintro e w1 ⟨rfl,rfl⟩)
  | ((with_reducible refine (hc2).mono ?_);rintro e w2 ⟨rfl,wm,hn,hu,hf⟩;(have q0:w2.cell? ⟨w.heap.size,0,none⟩=some (.int .i64 0):=hu.kept γ qy);(have q1:w2.cell? ⟨w.heap.size,1,none⟩=some (.int .u32 0):=hu.kept γ qy);(have f0:w2.frozen? ⟨w.heap.size,0,none⟩=false:=hu.aR (v:=.int .i64 0) γ qy γ);(have f1:w2.frozen? ⟨w.heap.size,1,none⟩=false:=hu.aR (v:=.int .u32 0) γ qy γ);(have hrl:=World.block_lt_of_cell? w2 _ q0))
  | fail)
 exact bodyPost_ret (v:=.tuple #[.agg #[.int .i64 0,.int .u32 0],.int .i64 172]) (by simp [results,Tryz.results68,go_sem,q0,q1]) rfl ⟨rfl,HG.out _ _ hn hu hf _ (((aa.refl _ _).setCell (Or.inl σ) _).setCell (Or.inl σ) _)⟩
theorem yz (h:gU K w p F kd d R A q) (hh:Int) {m:Nat} (hM:dW A hh=some m) :
  Calls Tryz.prog 68 #[.pointer (some ⟨p,0,none⟩),.int .i64 hh] w fun e w'=>e=.returned (.tuple #[.agg #[.int .i64 (m:Int),.int .u32 (R.g m:Int)],.int .i64 0])/\Goes F w w' (fun F'=>gU K w' p F' kd d R A q):=by
 obtain ⟨pa,pn,Fa,Fn,rfl,h⟩:=h;have hok:=K.ok h.nest;obtain ⟨m1,m2,m3,m4⟩:=lM hM;have hB:bK A hh=true:=by rw [←m3];have:=jf hok m4;simpa using this
 obtain ⟨hh,rfl⟩:∃n:Nat,hh=n:=⟨hh.toNat,by have:=(aT _ _).1 hB;omega⟩;have hb4:=(aT _ _).1 hB;have lX:=hok.h1;have hv:R.v m=true:=by rw [h.link];exact m4
 have c2':=h.c2;have c3:=h.c3;have hpl:=h.head.lt;have hu0:aa [] w (w.alloc (.cells #[.int .i64 0,.int .u32 0] 85)):=(aa.refl [] w).alloc _;have hN:=K.upd h.nest hu0 σ;obtain ⟨f,fv,hen,rR⟩:=K.has hh hN;obtain ⟨f2,fv2,QB,Ac⟩:=K.min hh hB hN;unfold Enters at hen QB;have hm:=(rR _ (aa.refl _ _)).1;have hc:=(rR _ (aa.refl _ _)).2;have hm2:=(Ac _ (aa.refl _ _)).1;have hc2:=(Ac _ (aa.refl _ _)).2;rw [hB] at hc;rw [hM,show pK (some m)=(m:Int) from rfl,show (some m).isSome=true from rfl] at hc2;have qy:w.heap.size∉Fn:=fun e=>by have:=K.lt h.nest _ e;omega
 have hs3:=h.s3;have ka:=fun W (hu:aa Fn (w.alloc (.cells #[.int .i64 0,.int .u32 0] 85)) W)=>TM ((h.ar.upd hu0 σ).upd hu (fun x hx hm=>hs3 x hm hx)) m hv;have hpn:=h.s2;have HG:=χ (fun w1 wm (hn:K.at_ w1 pn wm A) (hu:aa Fn (w.alloc (.cells #[.int .i64 0,.int .u32 0] 85)) w1) hf w2 (hu2:aa [w.heap.size] w1 w2)=>((h.upd hu0 σ).moved hn hu hf).beh hu2 hu0 (fun r hr=>by simp at hr;subst hr;exact ⟨σ,fun e=>by have:=h.lt _ e;omega,Nat.le_refl _⟩));clear h rR hN Ac hok hB hv m4 hb4 lX;generalize R.g m=gm at *
 go_enter Tryz.func68,Tryz.ntmps68
 go_wp2_with (first
  | ((with_reducible refine (hc).mono ?_);rintro e w1 ⟨rfl,rfl⟩)
  | ((with_reducible refine (hc2).mono ?_);rintro e w2 ⟨rfl,wm,hn,hu,hf⟩;(have q0:w2.cell? ⟨w.heap.size,0,none⟩=some (.int .i64 0):=hu.kept γ qy);(have q1:w2.cell? ⟨w.heap.size,1,none⟩=some (.int .u32 0):=hu.kept γ qy);(have f0:w2.frozen? ⟨w.heap.size,0,none⟩=false:=hu.aR (v:=.int .i64 0) γ qy γ);(have f1:w2.frozen? ⟨w.heap.size,1,none⟩=false:=hu.aR (v:=.int .u32 0) γ qy γ);(have c2:=hu.kept (hu0.was c2') hpn);(have ka2:=ka _ hu))
  | ((go_at_call 84;(with_reducible refine (ka2).mono ?_));rintro e w3 ⟨rfl,hu3⟩;(have t0:=hu3.was q0);(have t1:=hu3.was q1);(have tf0:=hu3.aR q0 σ f0);(have tf1:=hu3.aR q1 σ f1);(have hrl:=World.block_lt_of_cell? w3 _ t0))
  | fail)
 exact bodyPost_ret (v:=.tuple #[.agg #[.int .i64 (m:Int),.int .u32 (gm:Int)],.int .i64 0]) (by simp [results,Tryz.results68,go_sem,t0,t1,hrl]) rfl ⟨rfl,HG.out _ _ hn hu hf _ ((((hu3.mono σ).setCell (Or.inl σ) _).setCell (Or.inl σ) _).alloc _)⟩
end
section
variable {K:gV} {w:World} {p:Nat} {F:List Nat} {kd d:Int} {R:AR} {A:NS} {q:Nat}
def rU (A:NS) (hh:Int):Int:=if bK A hh then (match dW A hh with|some _=>0|none=>172) else 171
def L9 (A:NS) (hh:Int):Int:=match dW A hh with|some m=>(m:Int)|none=>0
def K9 (R:AR) (A:NS) (hh:Int):Int:=match dW A hh with|some m=>(R.g m:Int)|none=>0
theorem Ki (h:gU K w p F kd d R A q) (hh:Int) (hb:-9223372036854775808<=hh/\hh<=9223372036854775807) :
  Calls Tryz.prog 68 #[.pointer (some ⟨p,0,none⟩),.int .i64 hh] w fun e w'=>e=.returned (.tuple #[.agg #[.int .i64 (L9 A hh),.int .u32 (K9 R A hh)],.int .i64 (rU A hh)])/\Goes F w w' (fun F'=>gU K w' p F' kd d R A q):=by
 unfold L9 K9 rU;have hok:=h.ok.1;cases hm:dW A hh with
 | some m=>
  have hB:bK A hh=true:=by
   obtain ⟨m1,m2,m3,m4⟩:=lM hm;rw [←m3];have:=jf hok m4;simpa using this
  rw [hB,if_pos rfl];exact yz h hh hm
 | none=>
  cases hB:bK A hh with
  | true=>rw [if_pos rfl];exact G6 h hh hB hb hm
  | false=>
   rw [if_neg σ];refine (D8 h hh hB).mono fun e w' ⟨h1,h2⟩=>⟨h1,F,h.aA h2,h2.mono σ,fun x hx=>Or.inl hx⟩
theorem T9 (h:gU K w p F kd d R A q) (hh:Int) (hb:-9223372036854775808<=hh/\hh<=9223372036854775807) (hE:dW A hh=none) :
  Calls Tryz.prog 43 #[.pointer (some ⟨p,0,none⟩),.int .i64 hh] w fun e w'=>e=.returned (.tuple #[.agg #[.int .i64 0,.int .u32 0],.int .i64 0,.int .i64 (rU A hh)])/\Goes F w w' (fun F'=>gU K w' p F' kd d R A q):=by
 have hu0:aa [] w (w.alloc (.cells #[.int .i64 0,.int .u32 0] 85)):=(aa.refl [] w).alloc _;have k:=Ki (h.aA hu0) hh hb;have eX:L9 A hh=0:=by unfold L9;rw [hE]
 have eG:K9 R A hh=0:=by unfold K9;rw [hE]
 have eE:rU A hh≠0:=by unfold rU;rw [hE];split<;>simp
 rw [eX,eG] at k;have Lh:=h.lt;have wV:w.heap.size∉F:=fun e=>by have:=Lh _ e;omega
 have HG:=χ (fun (w1 w2:World) (hg:Goes F (w.alloc (.cells #[.int .i64 0,.int .u32 0] 85)) w1 (fun F'=>gU K w1 p F' kd d R A q)) (hu2:aa [w.heap.size] w1 w2)=>hg.beh hu2 hu0 (fun r hr=>by simp at hr;subst hr;exact ⟨σ,wV,Nat.le_refl _⟩));generalize rU A hh=er at *;have eb:(er != 0)=true:=by simpa using eE
 clear h hE eX eG eE Lh
 go_enter Tryz.func43,Tryz.ntmps43
 go_wp2_with (first
  | ((go_at_call 68;(with_reducible refine (k).mono ?_));rintro e w1 ⟨rfl,hg⟩;(have hu1:aa F (w.alloc (.cells #[.int .i64 0,.int .u32 0] 85)) w1:=by obtain ⟨_,_,h2,_⟩:=hg;exact h2);(have q0:w1.cell? ⟨w.heap.size,0,none⟩=some (.int .i64 0):=hu1.kept γ wV);(have q1:w1.cell? ⟨w.heap.size,1,none⟩=some (.int .u32 0):=hu1.kept γ wV);(have f0:w1.frozen? ⟨w.heap.size,0,none⟩=false:=hu1.aR (v:=.int .i64 0) γ wV γ);(have f1:w1.frozen? ⟨w.heap.size,1,none⟩=false:=hu1.aR (v:=.int .u32 0) γ wV γ);(have hrl:=World.block_lt_of_cell? w1 _ q0))
  | fail)
 exact bodyPost_ret (v:=.tuple #[.agg #[.int .i64 0,.int .u32 0],.int .i64 0,.int .i64 er]) (by simp [results,Tryz.results43,go_sem,q0,q1,hrl]) rfl ⟨rfl,HG.out _ _ hg ((((aa.refl _ _).setCell (Or.inl σ) _).setCell (Or.inl σ) _).alloc _)⟩
theorem NN (h:gU K w p F kd d R A q) (hh:Int) {m:Nat} (hM:dW A hh=some m) :
  Calls Tryz.prog 43 #[.pointer (some ⟨p,0,none⟩),.int .i64 hh] w fun e w'=>e=.returned (.tuple #[.agg #[.int .i64 (m:Int),.int .u32 (R.g m:Int)],.int .i64 (A.c m).k,.int .i64 0])/\Goes F w w' (fun F'=>gU K w' p F' kd d R A q):=by
 have hu0:aa [] w (w.alloc (.cells #[.int .i64 0,.int .u32 0] 85)):=(aa.refl [] w).alloc _;have k:=yz (h.aA hu0) hh hM;have hv:R.v m=true:=by rw [h.ok.2.2.2];exact (lM hM).2.2.2
 have Lh:=h.lt;have wV:w.heap.size∉F:=fun e=>by have:=Lh _ e;omega
 have HG:=χ (fun (w1 w2:World) (hg:Goes F (w.alloc (.cells #[.int .i64 0,.int .u32 0] 85)) w1 (fun F'=>gU K w1 p F' kd d R A q)) (hu2:aa [w.heap.size] w1 w2)=>hg.beh hu2 hu0 (fun r hr=>by simp at hr;subst hr;exact ⟨σ,wV,Nat.le_refl _⟩));have ke:=fun W F' (hP:gU K W p F' kd d R A q)=>zu hP m hv;clear h hv hM Lh;generalize R.g m=gm at *;generalize (A.c m).k=kk at *;generalize (A.c m).s=ss at *
 go_enter Tryz.func43,Tryz.ntmps43
 go_upto_region 5 with (first
  | ((go_at_call 68;(with_reducible refine (k).mono ?_));rintro e w1 ⟨rfl,hg⟩;(have hu1:aa F (w.alloc (.cells #[.int .i64 0,.int .u32 0] 85)) w1:=by obtain ⟨_,_,h2,_⟩:=hg;exact h2);(have q0:w1.cell? ⟨w.heap.size,0,none⟩=some (.int .i64 0):=hu1.kept γ wV);(have q1:w1.cell? ⟨w.heap.size,1,none⟩=some (.int .u32 0):=hu1.kept γ wV);(have f0:w1.frozen? ⟨w.heap.size,0,none⟩=false:=hu1.aR (v:=.int .i64 0) γ wV γ);(have f1:w1.frozen? ⟨w.heap.size,1,none⟩=false:=hu1.aR (v:=.int .u32 0) γ wV γ);(have ke2:∀W,aa [] w1 W->Calls Tryz.prog 69 #[.pointer (some ⟨p,0,none⟩),.agg #[.int .i64 (m:Int),.int .u32 (gm:Int)]] W fun e w'=>e=.returned (.tuple #[.agg #[.int .i64 kk,.int .u64 ss],.int .i64 0])/\aa [] W w':=by obtain ⟨F1,hP1,_,_⟩:=hg;exact fun W hW=>ke W F1 (hP1.aA hW)))
  | ((go_at_call 69;(with_reducible refine (ke2 _ β).mono ?_));rintro e w2 ⟨rfl,hu2⟩;(have x0:w2.cell? ⟨w1.heap.size,0,none⟩=some (.int .i64 (m:Int)):=hu2.was γ);(have x1:w2.cell? ⟨w1.heap.size,1,none⟩=some (.int .u32 (gm:Int)):=hu2.was γ);(have hv2:aa [] w1 w2:=aa.trans β hu2))
  | fail)
 refine jA (fun W=>W.cell? ⟨w1.heap.size,0,none⟩=some (.int .i64 (m:Int))/\W.cell? ⟨w1.heap.size,1,none⟩=some (.int .u32 (gm:Int))/\W.cell? ⟨w2.heap.size,0,none⟩=some (.int .i64 kk)/\aa [] w1 W) ⟨by have:=World.block_lt_of_cell? w2 _ x0;go_simp,by have:=World.block_lt_of_cell? w2 _ x1;go_simp,γ,β⟩ ?_;rintro W ⟨y0,y1,y2,hW⟩;have t0:=hW.was q0;have t1:=hW.was q1;have Y2:=hW.aR q0 σ f0;have Yy:=hW.aR q1 σ f1;have hrl:=World.block_lt_of_cell? w1 _ q0;have hz2:=hv2.size;dsimp only at hrl;have hne1:¬w2.heap.size=w.heap.size:=ω;have hne2:¬w1.heap.size=w.heap.size:=ω
 have hne3:¬w.heap.size=w2.heap.size:=ω;have hne4:¬w.heap.size=w1.heap.size:=ω;have HW:=χ hW;clear hW q0 q1 f0 f1 ke2 x0 x1 hv2 hu2 ke k hu1
 go_region
 all_goals
  go_wp2;exact bodyPost_ret (v:=.tuple #[.agg #[.int .i64 (m:Int),.int .u32 (gm:Int)],.int .i64 kk,.int .i64 0]) (by simp [results,Tryz.results43,go_sem,t0,t1,hne1,hne2,hne3,hne4]) rfl ⟨rfl,HG.out _ _ hg ((((HW.out.mono σ).setCell (Or.inl σ) _).setCell (Or.inl σ) _).drew)⟩
end
section
variable {K:gV} {w:World} {p:Nat} {F:List Nat} {kd d:Int} {R:AR} {A:NS} {q:Nat}
theorem Eo {R:AR} {x:Nat} (hv:R.v x=true) (y:Nat):(lu R x).v y=(R.v y && !decide (y=x)):=by
 show (R.put x (R.g x,false)).v y=_
 rw [AR.Ay]
 by_cases e:y=x
 ·rw [if_pos ⟨e,AR.Nw hv⟩,decide_eq_true e];simp
 ·rw [if_neg (fun h=>e h.1),decide_eq_false e];simp
theorem KY {A:NS} {x:Nat} (hx:bX A (x:Int)=true) (y:Nat):bX (bz A (x:Int)) (y:Int)=(bX A (y:Int) && !decide (y=x)):=by
 have hc:=xR hx y;have hl:=fT A (x:Int)
 by_cases e:y=x
 ·rw [if_pos e] at hc;rw [decide_eq_true e];have:¬bX (bz A (x:Int)) (y:Int)=true:=fun h=>by
   have:=(ai _ _).1 h;rw [hc] at this;exact absurd this.2 (by simp [Cl.z])
  simpa using this
 ·rw [if_neg e] at hc;rw [decide_eq_false e];have e1:bX (bz A (x:Int)) (y:Int)=true↔bX A (y:Int)=true:=by rw [ai,ai,hl,hc]
  cases h1:bX (bz A (x:Int)) (y:Int)<;>cases h2:bX A (y:Int)<;>simp_all
theorem Dh (R:AR) (x:Nat):(lu R x).sl.length=R.sl.length:=by show (R.put x _).sl.length=_;rw [AR.kg]
theorem TF (h:gU K w p F kd d R A q) (hh:Int) (hb:-9223372036854775808<=hh/\hh<=9223372036854775807) (hE:dW A hh=none) :
  Calls Tryz.prog 41 #[.pointer (some ⟨p,0,none⟩),.int .i64 hh] w fun e w'=>e=.returned (.tuple #[.agg #[.int .i64 0,.int .u32 0],.int .i64 0,.int .i64 (rU A hh)])/\Goes F w w' (fun F'=>gU K w' p F' kd d R A q):=by
 have hu0:aa [] w (w.alloc (.cells #[.int .i64 0,.int .u32 0] 85)):=(aa.refl [] w).alloc _;have k:=T9 (h.aA hu0) hh hb hE;have eE:rU A hh≠0:=by unfold rU;rw [hE];split<;>simp
 have Lh:=h.lt;have wV:w.heap.size∉F:=fun e=>by have:=Lh _ e;omega
 have HG:=χ (fun (w1 w2:World) (hg:Goes F (w.alloc (.cells #[.int .i64 0,.int .u32 0] 85)) w1 (fun F'=>gU K w1 p F' kd d R A q)) (hu2:aa [w.heap.size] w1 w2)=>hg.beh hu2 hu0 (fun r hr=>by simp at hr;subst hr;exact ⟨σ,wV,Nat.le_refl _⟩));generalize rU A hh=er at *;have eb:(er != 0)=true:=by simpa using eE
 clear h hE eE Lh
 go_enter Tryz.func41,Tryz.ntmps41
 go_wp2_with (first
  | ((go_at_call 43;(with_reducible refine (k).mono ?_));rintro e w1 ⟨rfl,hg⟩;(have hu1:aa F (w.alloc (.cells #[.int .i64 0,.int .u32 0] 85)) w1:=by obtain ⟨_,_,h2,_⟩:=hg;exact h2);(have q0:w1.cell? ⟨w.heap.size,0,none⟩=some (.int .i64 0):=hu1.kept γ wV);(have q1:w1.cell? ⟨w.heap.size,1,none⟩=some (.int .u32 0):=hu1.kept γ wV);(have f0:w1.frozen? ⟨w.heap.size,0,none⟩=false:=hu1.aR (v:=.int .i64 0) γ wV γ);(have f1:w1.frozen? ⟨w.heap.size,1,none⟩=false:=hu1.aR (v:=.int .u32 0) γ wV γ);(have hrl:=World.block_lt_of_cell? w1 _ q0))
  | fail)
 exact bodyPost_ret (v:=.tuple #[.agg #[.int .i64 0,.int .u32 0],.int .i64 0,.int .i64 er]) (by simp [results,Tryz.results41,go_sem,q0,q1,hrl]) rfl ⟨rfl,HG.out _ _ hg ((((aa.refl _ _).setCell (Or.inl σ) _).setCell (Or.inl σ) _).alloc _)⟩
theorem gU.out {kd d:Int} {m:Nat} {w1:World} {pa pn:Nat} {Fa Fn:List Nat} (h:ES K w p pa pn Fa Fn kd d R A q) (hm:bX A (m:Int)=true) {wm:List Nat} (hn:K.at_ w1 pn wm (bz A m)) (hu:aa Fn w w1) (hf:∀x,x∈wm->x∈Fn\/w.heap.size<=x)
  {w2 w3:World} (hu2:aa [] w1 w2) {KU:List Nat} (ha:qW w3 pa KU (lu R m)) (hu3:aa Fa w2 w3) (hf3:∀x,x∈KU->x∈Fa\/w2.heap.size<=x):Goes (p::(Fa++Fn)) w w3 (fun F'=>gU K w3 p F' kd d (lu R m) (bz A m) q):=by
 have hA:=h.ar.lt;have hN:=K.lt h.nest;have hN1:=K.lt hn;have hs12:=hu2.size;have hs01:=hu.size;have hv:R.v m=true:=by rw [h.link];exact hm
 have hpl:=h.head.lt;have hnn:∀x,x∈Fa->x∉wm:=fun x hx e=>by rcases hf x e with e|e;exact h.s3 x hx e;have:=hA x hx;omega
 refine ⟨p::(KU++wm),⟨pa,pn,KU,wm,rfl,⟨((h.head.upd hu h.s2).upd hu2 σ).upd hu3 h.s1,ha,K.upd (K.upd hn hu2 σ) hu3 hnn,fun e=>?_,fun e=>?_,fun x h1 h2=>?_,?_,fun y=>?_⟩⟩,?_,fun x hx=>?_⟩
 ·rcases hf3 _ e with e|e
  ·exact h.s1 e
  ·omega
 ·rcases hf _ e with e|e
  ·exact h.s2 e
  ·omega
 ·rcases hf3 x h1 with e|e
  ·exact hnn x e h2
  ·have:=hN1 x h2;omega
 ·rw [Dh,fT];exact h.len
 ·rw [Eo hv,KY hm,h.link]
 ·exact ((hu.mono (fun x hx=>by simp [hx])).trans (hu2.mono σ)).trans (hu3.mono (fun x hx=>by simp [hx]))
 ·simp only [ρ,τ] at hx ⊢;rcases hx with hx|hx|hx
  ·exact Or.inl (Or.inl hx)
  ·rcases hf3 x hx with e|e
   ·exact Or.inl (Or.inr (Or.inl e))
   ·exact Or.inr ω
  ·rcases hf x hx with e|e
   ·exact Or.inl (Or.inr (Or.inr e))
   ·exact Or.inr e
end
section
variable {K:gV} {w:World} {p:Nat} {F:List Nat} {kd d:Int} {R:AR} {A:NS} {q:Nat}
theorem Goes.chain {F G S:List Nat} {w W w2 w3:World} {R':AR} {A':NS} {q':Nat} (h1:aa F w W) (hf:∀x,x∈G->x∈F\/w.heap.size<=x) (h2:Goes G W w2 (fun F'=>gU K w2 p F' kd d R' A' q')) (hr:aa S w2 w3) (hS:∀r,r∈S->r∉G/\r<W.heap.size/\w.heap.size<=r) :
  Goes F w w3 (fun F'=>gU K w3 p F' kd d R' A' q'):=by
 obtain ⟨F2,hP,hu,hf2⟩:=h2;have hs:=h1.size;refine ⟨F2,hP.upd hr (fun r hr hm=>?_),(h1.joined hu hf).joined hr (fun r hr=>Or.inr (hS r hr).2.2),fun x hx=>?_⟩
 ·rcases hf2 r hm with e|e
  ·exact (hS r hr).1 e
  ·have:=(hS r hr).2.1;omega
 ·rcases hf2 x hx with e|e
  ·exact hf x e
  ·exact Or.inr (Nat.le_trans hs e)
theorem OC (h:gU K w p F kd d R A q) (hh:Int) {m:Nat} (hM:dW A hh=some m) :
  Calls Tryz.prog 41 #[.pointer (some ⟨p,0,none⟩),.int .i64 hh] w fun e w'=>e=.returned (.tuple #[.agg #[.int .i64 (m:Int),.int .u32 (R.g m:Int)],.int .i64 (A.c m).k,.int .i64 0])/\Goes F w w' (fun F'=>gU K w' p F' kd d (lu R m) (bz A m) q):=by
 obtain ⟨hh,rfl⟩:∃n:Nat,hh=n:=⟨hh.toNat,by have:=(lM hM).1;omega⟩;have hu0:aa [] w (w.alloc (.cells #[.int .i64 0,.int .u32 0] 85)):=(aa.refl [] w).alloc _;have k:=NN (h.aA hu0) hh hM;have hin:=(lM hM).2.2.2;have hv:R.v m=true:=by rw [h.ok.2.2.2];exact hin
 have hb:-9223372036854775808<=(hh:Int)/\(hh:Int)<=9223372036854775807:=by
  obtain ⟨m1,m2,m3,m4⟩:=lM hM;have:=jf h.ok.1 m4;have h4:=(aT _ _).1 this;have h5:=h.ok.1.h1;rw [show ((m:Nat):Int).toNat=m by omega,m3] at h4;omega
 have hex:uL A hh=bz A m:=by unfold uL;rw [hM]
 have Lh:=h.lt;have wV:w.heap.size∉F:=fun e=>by have:=Lh _ e;omega
 have HS:=χ (ψ hin (ψ hv (ψ hb (ψ hex hM))));clear h hM hin hv hb hex;generalize hgm:R.g m=gm at *;generalize (A.c m).k=kk at *;have HGM:=χ hgm;clear hgm
 go_enter Tryz.func41,Tryz.ntmps41
 go_upto_region 4 with (first
  | ((go_at_call 43;(with_reducible refine (k).mono ?_));rintro e w1 ⟨rfl,hg⟩;(have hu1:aa F (w.alloc (.cells #[.int .i64 0,.int .u32 0] 85)) w1:=by obtain ⟨_,_,h2,_⟩:=hg;exact h2);(have q0:w1.cell? ⟨w.heap.size,0,none⟩=some (.int .i64 0):=hu1.kept γ wV);(have q1:w1.cell? ⟨w.heap.size,1,none⟩=some (.int .u32 0):=hu1.kept γ wV);(have f0:w1.frozen? ⟨w.heap.size,0,none⟩=false:=hu1.aR (v:=.int .i64 0) γ wV γ);(have f1:w1.frozen? ⟨w.heap.size,1,none⟩=false:=hu1.aR (v:=.int .u32 0) γ wV γ);(have hrl:=World.block_lt_of_cell? w1 _ q0))
  | fail)
 refine jA (fun W=>W.cell? ⟨w1.heap.size,0,none⟩=some (.int .i64 (m:Int))/\W.cell? ⟨w1.heap.size,1,none⟩=some (.int .u32 (gm:Int))/\aa [] w1 W) ⟨γ,γ,β⟩ ?_;rintro W ⟨y0,y1,hW⟩;obtain ⟨F1,⟨pa,pn,Fa,Fn,rfl,hP1⟩,hu1',hf1⟩:=hg;have hP:=hP1.upd hW σ;have c2:=hP.c2;have c3:=hP.c3;have hPl:=hP1.lt;have Y8:w.heap.size∉p::(Fa++Fn):=fun e=>by rcases hf1 _ e with e|e;exact wV e;simp at e;omega
 have hxF1:w1.heap.size∉p::(Fa++Fn):=fun e=>by have:=hPl _ e;omega
 obtain ⟨f,fv,hen,rR⟩:=K.extract hh m HS.out.2.2.2.2 hP.nest;unfold Enters at hen;have hm:=(rR _ (aa.refl _ _)).1;have hc:=(rR _ (aa.refl _ _)).2;have t0:=hW.was q0;have t1:=hW.was q1;have Y2:=hW.aR q0 σ f0;have Yy:=hW.aR q1 σ f1;have qy:w.heap.size∉Fn:=fun e=>Y8 (by simp [e]);have RX:w1.heap.size∉Fn:=fun e=>hxF1 (by simp [e]);have hpFn:=hP.s2;have RO:w.heap.size∉Fa:=fun e=>Y8 (by simp [e]);have hxFa:w1.heap.size∉Fa:=fun e=>hxF1 (by simp [e]);have HZ:=χ (ψ hP (ψ hu1 (ψ hW (ψ hf1 hP1))))
 have ka:∀ (w5:World) (cu:aa Fn W w5) (X:World) (hX:aa [] w5 X),Calls Tryz.prog 67 #[.pointer (some ⟨pa,0,none⟩),.agg #[.int .i64 (m:Int),.int .u32 (gm:Int)]] X fun e w'=>e=.returned (.int .i64 0)/\Goes Fa X w' (fun F'=>qW w' pa F' (lu R m)):=fun w5 cu X hX=>by
  have:=Kj ((hP.ar.upd cu (fun x hx hm=>hP.s3 x hm hx)).upd hX σ) m HS.out.2.1;rw [HGM.out] at this;exact this
 clear rR hP hu1 hW hu1' hf1 hP1 q0 q1 f0 f1 hPl Lh wV k
 go_upto_region 5 with (first
  | ((with_reducible refine (hc).mono ?_);rintro e w5 ⟨rfl,wm,Ov,cu,Ux⟩;(have z0:=cu.kept y0 RX);(have z1:=cu.kept y1 RX);(have z2:=cu.kept c2 hpFn);(have s0:=cu.kept t0 qy);(have s1:=cu.kept t1 qy);(have sf0:=cu.aR t0 qy Y2);(have sf1:=cu.aR t1 qy Yy))
  | fail)
 have ka5:=ka w5 cu w5.drew ((aa.refl _ _).drew);clear ka
 go_region_law
  (first
   | (go_simp;go_at_call 67;(with_reducible refine (ka5).mono ?_);rintro e w6 ⟨rfl,KU,ha6,iB,hf6⟩;(have v0:=iB.kept z0 hxFa);(have v1:=iB.kept z1 hxFa);(have r0:=iB.kept s0 RO);(have r1:=iB.kept s1 RO);(have rf0:=iB.aR s0 RO sf0);(have rf1:=iB.aR s1 RO sf1)))
 all_goals
  go_wp2;obtain ⟨hP,hu1,hW,hf1,hP1⟩:=HZ.out;have Iu:=hW.size;have WL:aa F w W:=(aa.trans ((aa.refl _ _).alloc _) hu1).trans (hW.mono σ);refine bodyPost_ret (v:=.tuple #[.agg #[.int .i64 (m:Int),.int .u32 (gm:Int)],.int .i64 kk,.int .i64 0]) (by simp [results,Tryz.results41,go_sem,r0,r1]) rfl ⟨rfl,?_⟩
  exact Goes.chain WL (fun x hx=>by rcases hf1 x hx with e|e;exact Or.inl e;simp at e;exact Or.inr ω) (gU.out hP HS.out.1 Ov cu Ux ((aa.refl _ _).drew) ha6 iB hf6) (S:=[w.heap.size]) (((aa.refl _ _).setCell (Or.inl σ) _).setCell (Or.inl σ) _) (fun r hr=>by simp at hr;subst hr;exact ⟨Y8,ω,Nat.le_refl _⟩)
end
section
variable {K:gV} {w:World} {p:Nat} {F:List Nat} {kd d:Int} {R:AR} {A:NS} {q:Nat}
theorem Ii {A:NS} {x:Nat} {k s:Int} (y:Nat):bX (aB A (x:Int) k s) (y:Int)=bX A (y:Int):=by
 by_cases hB:jo A (x:Int) k s=true
 ·have hin:=qE hB;have hx:=(ai _ _).1 hin;have hi:=iR hB hx.1 y;have hl:=fJ A (x:Int) k s;have e:bX (aB A (x:Int) k s) (y:Int)=true↔bX A (y:Int)=true:=by rw [ai,ai,hl,hi]
  cases h1:bX (aB A (x:Int) k s) (y:Int)<;>cases h2:bX A (y:Int)<;>simp_all
 ·unfold aB;rw [if_neg hB]
theorem LF {A:NS} {x:Nat} {k:Int} (hin:bX A (x:Int)=true) (hk:k<=(A.c x).k):jo A (x:Int) k (A.c x).s=true:=by
 unfold jo Dj;rw [hin,show ((x:Nat):Int).toNat=x by omega]
 split
 ·simp
 ·simp;omega
theorem QR (h:gU K w p F kd d R A q) (x:Nat) (k:Int) (hv:R.v x=true) (hk:k<=(A.c x).k) (hkb:-9223372036854775808<=k) :
  Calls Tryz.prog 76 #[.pointer (some ⟨p,0,none⟩),.agg #[.int .i64 (x:Int),.int .u32 (R.g x:Int)],.int .i64 k] w fun e w'=>e=.returned (.int .i64 0)/\Goes F w w' (fun F'=>gU K w' p F' kd d R (aB A (x:Int) k (A.c x).s) q):=by
 have hin:bX A (x:Int)=true:=by rw [←h.ok.2.2.2];exact hv
 have rO:=(ai _ _).1 hin;have hsn:=h.ok.1.c1;have hkey:=h.ok.1.key x;have hac:-9223372036854775808<=k/\k<=9223372036854775807/\0<=(A.c x).s/\(A.c x).s<=18446744073709551615:=ω;have ke:=fun W (hW:aa [] w W)=>zu (h.aA hW) x hv;have hlow:=LF hin hk;have HL:=χ (ψ hlow (fun y=>Ii (A:=A) (x:=x) (k:=k) (s:=(A.c x).s) y));have Lh:=h.lt;obtain ⟨pa,pn,Fa,Fn,rfl,h⟩:=h;have c3:=h.c3;have HH:=χ (ψ h hac);have hgt:decide (k > (A.c x).k)=false:=ζ;have hgt2:¬k > (A.c x).k:=ω;clear h hv hin hac hlow hkey;generalize hkk:(A.c x).k=kk at *;generalize hss:(A.c x).s=ss at *;generalize R.g x=gx at *
 clear hkk hss hk
 go_enter Tryz.func76,Tryz.ntmps76
 go_upto_region 6 with (first
  | ((go_at_call 69;(with_reducible refine (ke _ β).mono ?_));rintro e w1 ⟨rfl,hu1⟩;(have x0:w1.cell? ⟨w.heap.size,0,none⟩=some (.int .i64 (x:Int)):=hu1.was γ);(have hw1:aa [] w w1:=aa.trans β hu1))
  | fail)
 have hxl:=World.block_lt_of_cell? w1 _ x0;refine jA (fun W=>W.cell? ⟨w.heap.size,0,none⟩=some (.int .i64 (x:Int))/\W.cell? ⟨w1.heap.size,1,none⟩=some (.int .u64 ss)/\aa [] w W) ⟨γ,γ,by have:=hw1;exact β⟩ ?_;rintro W ⟨y0,y1,hW⟩;have z3:=hW.was c3;have hN:=K.upd HH.out.1.nest hW σ;obtain ⟨f,fv,hen,rR⟩:=K.mV x k ss HH.out.2 HL.out.1 hN;unfold Enters at hen;have hm:=(rR W.drew ((aa.refl _ _).drew)).1;have hc:=(rR W.drew ((aa.refl _ _).drew)).2;have HZ:=χ hW;clear hW hN rR x0 hw1 hu1 hxl ke c3
 go_region_law
  (first
   | (go_simp;(with_reducible refine (hc).mono ?_);rintro e w5 ⟨rfl,F5,hA5,cu,UE⟩))
 all_goals
  go_wp2;go_ret;have hPW:=HH.out.1.upd HZ.out σ;have qI:aa Fn W w5:=((aa.refl Fn W).drew).trans cu;refine ⟨rfl,Goes.after ?_ HZ.out⟩;refine ⟨p::(Fa++F5),⟨pa,pn,Fa,F5,rfl,hPW.Sw hA5 qI UE (fJ _ _ _ _) (hPW.ar.upd qI (fun z hz hm=>hPW.s3 z hm hz)) rfl (fun y=>by rw [HL.out.2];exact hPW.link y)⟩,qI.mono (fun z hz=>by simp [hz]),fun z hz=>?_⟩;simp only [ρ,τ] at hz ⊢;rcases hz with hz|hz|hz
  ·exact Or.inl (Or.inl hz)
  ·exact Or.inl (Or.inr (Or.inl hz))
  ·rcases UE z hz with e|e
   ·exact Or.inl (Or.inr (Or.inr e))
   ·exact Or.inr e
end
end Go.Proofs.YtklibcncmbofpaaGreat
namespace Go.Proofs.YtklibcncmbofpaaGreat
open Go.RowKit
def BM (k d:Int):Int:=
 if k<1\/8<k then 21 else if (k=2/\(d<2\/16<d))\/(k≠2/\d≠0) then 22 else 0
theorem Rh {k d:Int} (h:k<1\/8<k):BM k d=21:=by unfold BM;rw [if_pos h]
theorem Q8 {k d:Int} (h:¬ (k<1\/8<k)) (h2:(k=2/\(d<2\/16<d))\/(k≠2/\d≠0)):BM k d=22:=by unfold BM;rw [if_neg h,if_pos h2]
theorem Xk {k d:Int} (h:¬ (k<1\/8<k)) (h2:¬ ((k=2/\(d<2\/16<d))\/(k≠2/\d≠0))):BM k d=0:=by unfold BM;rw [if_neg h,if_neg h2]
theorem Js {k d:Int} (h:BM k d=0):1<=k/\k<=8/\(k=2->2<=d/\d<=16)/\(k≠2->d=0):=by
 unfold BM at h;split at h
 ·omega
 ·split at h
  ·omega
  ·omega
theorem xB (k d:Int) (w:World) :
  Calls Tryz.prog 50 #[.agg #[.int .i64 k,.int .i64 d]] w fun e w'=>e=.returned (.int .i64 (BM k d))/\aa [] w w':=by
 go_enter Tryz.func50,Tryz.ntmps50
 go_wp2
 all_goals
  go_ret;refine ⟨j5 ?_,(aa.refl _ _).alloc _⟩
  try simp only [bne_iff_ne,ne_eq,bne_eq_false_iff_eq] at *
  first
  | (rw [Rh ω];done)
  | (rw [Q8 ω ω];done)
  | (rw [Xk ω ω];done)
theorem Jo (k d:Int) (w:World) :
  Calls Tryz.prog 18 #[.agg #[.int .i64 k,.int .i64 d]] w fun e w'=>e=.returned (.int .i64 (BM k d))/\aa [] w w':=by
 go_enter Tryz.func18,Tryz.ntmps18
 go_wp2
 all_goals
  go_ret;refine ⟨j5 ?_,(aa.refl _ _).alloc _⟩
  try simp only [bne_iff_ne,ne_eq,bne_eq_false_iff_eq,beq_iff_eq,beq_eq_false_iff_ne] at *
  first
  | (rw [Rh ω];done)
  | (rw [Q8 ω ω];done)
  | (rw [Xk ω ω];done)
end Go.Proofs.YtklibcncmbofpaaGreat
namespace Go.Proofs.YtklibcncmbofpaaGreat
open Go Go.RowKit
def oW (K:gV) (kd d:Int) (n:Nat):Prop:=∀W:World,Calls Tryz.prog 81 #[.agg #[.int .i64 kd,.int .i64 d],.int .i64 (n:Int)] W fun e w'=>∃pn Fn,e=.returned (.tuple #[.iface K.ty (.pointer (some ⟨pn,0,none⟩)),.int .i64 0])/\K.at_ w' pn Fn (NS.new n)/\aa [] W w'/\∀x,x∈Fn->W.heap.size<=x
theorem QN (n:Nat) (x:Nat):bX (NS.new n) (x:Int)=false:=by
 cases h:bX (NS.new n) (x:Int) with
 | false=>rfl
 | true=>have:=(ai _ _).1 h;rw [NS.yc] at this;exact absurd this.2 (by simp [Cl.z])
theorem Ql (n m x:Nat):(AR.new n m).v x=false:=by
 unfold AR.new AR.v;simp only [φ,List.getElem?_replicate]
 split<;>rfl
theorem MO {K:gV} {kd d:Int} (n m:Nat) (w:World) (hn:n<=65536) (hm:1<=m/\m<=4294967295) (hc:BM kd d=0) (ko:oW K kd d n) :
  Calls Tryz.prog 64 #[.agg #[.int .i64 kd,.int .i64 d],.int .i64 (n:Int),.int .u32 (m:Int)] w fun e w'=>∃p F,e=.returned (.tuple #[.pointer (some ⟨p,0,none⟩),.int .i64 0])/\gU K w' p F kd d (AR.new n m) (NS.new n) 0/\aa [] w w'/\∀x,x∈F->w.heap.size<=x:=by
 have kc:=fun W=>xB kd d W;rw [hc] at kc;have ka:=fun W=>NK n m W hn hm;unfold oW at ko;have hcs:(NS.new n).cs.length=n:=by simp [NS.new]
 have hal:(AR.new n m).sl.length=n:=by simp [AR.new]
 have HL:=χ (ψ hcs hal);clear hcs hal hc
 go_enter Tryz.func64,Tryz.ntmps64
 go_wp2_with (first
  | ((go_at_call 50;(with_reducible refine (kc _).mono ?_));rintro e w1 ⟨rfl,hu1⟩;(have q0:w1.cell? ⟨w.heap.size,0,none⟩=some (.int .i64 kd):=hu1.was γ);(have q1:w1.cell? ⟨w.heap.size,1,none⟩=some (.int .i64 d):=hu1.was γ);(have hw1:aa [] w w1:=aa.trans β hu1))
  | ((go_at_call 80;(with_reducible refine (ka _).mono ?_));rintro e w2 ⟨pa,Fa,rfl,hA,hu2,hfa⟩;(have q2:=hu2.was q0);(have q3:=hu2.was q1))
  | ((go_at_call 81;(with_reducible refine (ko _).mono ?_));rintro e w3 ⟨pn,Fn,rfl,hN,hu3,hfn⟩;(have q4:=hu3.was q2);(have q5:=hu3.was q3))
  | fail)
 go_ret2;have hh:=eH w3 [.int .i64 kd,.int .i64 d,.pointer (some ⟨pa,0,none⟩),.iface K.ty (.pointer (some ⟨pn,0,none⟩)),.int .u64 0] 124;have hb:aa [] w3 (w3.alloc (.cells #[.int .i64 kd,.int .i64 d,.pointer (some ⟨pa,0,none⟩),.iface K.ty (.pointer (some ⟨pn,0,none⟩)),.int .u64 0] 124)):=(aa.refl _ _).alloc _;have hAl:=hA.lt;have hNl:=K.lt hN;have s3:=hu3.size;have s1:=hw1.size;have s2:=hu2.size
 refine ⟨w3.heap.size,w3.heap.size::(Fa++Fn),rfl,⟨pa,pn,Fa,Fn,rfl,⟨hh.ext (fun j hj=>by unfold pqC;rfl),(hA.upd hu3 σ).upd hb σ,K.upd hN hb σ,fun e=>by have:=hAl _ e;omega,fun e=>by have:=hNl _ e;omega,fun x h1 h2=>by have:=hAl x h1;have:=hfn x h2;omega,by rw [HL.out.1,HL.out.2],fun x=>by rw [Ql,QN]⟩⟩,((hw1.trans hu2).trans hu3).trans hb,fun x hx=>?_⟩;simp only [ρ,τ] at hx;rcases hx with rfl|hx|hx
 ·omega
 ·have:=hfa x hx;omega
 ·have:=hfn x hx;omega
end Go.Proofs.YtklibcncmbofpaaGreat
