/-
  Lemmas for PqAlike: PqI, PqJ, PqK. Conditions: those of each lemma.
-/
import Derived.Test.YtnpdakpagnpanaaGreatC16
import Derived.Test.YtnpdakpagnpanaaGreatC18
set_option linter.all false
set_option maxHeartbeats 8000000
set_option maxRecDepth 10000
namespace Go.Proofs.YtnpdakpagnpanaaGreat
open Tryz
open Go Go.RowKit
def xm(a:Ac)(l:List Hd):Hd:=if 0<a.o/\0<l.length then l.getD ((a.o.toNat-1) % l.length) (0,0) else(a.s,a.g)
theorem Am(w:World)(v:Value)(l:List Hd)(a:Ac)(ho:0<=a.o/\a.o<=255)(hS:Dk w [] v l)(hl:l.length<=1000000) :
  Calls prog 25 #[a.v,v] w λe w'=>e=.returned (.agg #[.int .i64 (xm a l).1,.int .u32 (xm a l).2])/\ae [] w w':=by
 obtain⟨a0,cap,rfl,hcap,hcap2,hcell⟩:=hS;obtain⟨op,aa,bb,ss,gg,oo,kk⟩:=a;unfold xm Ac.v;dsimp only at *
 by_cases h0:0<oo
 ·obtain⟨on,rfl⟩:∃on:Nat,oo=(on:Int)+1:=⟨oo.toNat-1,ω⟩
  by_cases hz:0<l.length
  ·rw[Δ ⟨h0,hz⟩,show((on:Int)+1).toNat-1=on by omega];have hi:on % l.length<l.length:=Nat.mod_lt _ hz;obtain⟨g,off,rfl,hg, -,c0,c1⟩:=hcell (on % l.length) (l.getD (on % l.length) (0,0)) (by rw[φ,ε hi];rfl);have hm1:((on:Int)).tmod (l.length:Int)=((on % l.length:Nat):Int):=by rw[Int.tmod_eq_emod_of_nonneg ω];exact(Int.natCast_emod _ _).symm
   have hw1:IntKind.i64.wrap ((on:Int)+1)=(on:Int)+1:=Μ _ ω;have hw2:IntKind.i64.wrap (on:Int)=(on:Int):=Μ _ ω;generalize l.getD (on % l.length) (0,0)=P at *;generalize hI:on % l.length=i at *;clear hI hcell;generalize l.length=n at *
   go_enter func25,ntmps25
   go_wp2;exact bodyPost_ret (v:=.agg #[.int .i64 P.1,.int .u32 P.2]) (by simp[results,results25,go_sem]) rfl ⟨rfl,β⟩
  ·rw[Γ (λh=>hz h.2)];have e:l.length=0:=ω;rw[e] at *;clear hcell
   go_enter func25,ntmps25
   go_wp2;exact bodyPost_ret (v:=.agg #[.int .i64 ss,.int .u32 gg]) (by simp[results,results25,go_sem]) rfl ⟨rfl,β⟩
 ·obtain rfl:oo=0:=ω;rw[Γ (λh=>h0 h.1)];clear hcell
  go_enter func25,ntmps25
  go_wp2;exact bodyPost_ret (v:=.agg #[.int .i64 ss,.int .u32 gg]) (by simp[results,results25,go_sem]) rfl ⟨rfl,β⟩
def nA(kd d m:Int):Bool:=decide (sG kd d=0) && decide (0<m)
theorem FU(w:World)(kd d n m:Int) :
  Calls prog 24 #[.agg #[.int .i64 kd,.int .i64 d,.int .u8 n,.int .u32 m]] w λe w'=>e=.returned (.bool (nA kd d m))/\ae [] w w':=by
 have kc:=λW=>rR kd d W;unfold nA
 by_cases h1:sG kd d=0
 ·rw[Ν h1];rw[h1] at kc;clear h1
  by_cases h2:0<m
  ·have hD:decide (m > 0)=true:=ζ;rw[Ν h2]
   go_enter func24,ntmps24
   go_wp2_with (first
    |((go_at_call 21;(with_reducible refine(kc _).mono ?_));rintro e w1 ⟨rfl,hu1⟩;(have q2:w1.cell? ⟨w.heap.size,3,none⟩=some (.int .u32 m):=hu1.was γ);(have hw1:ae [] w w1:=ae.trans β hu1))
    | fail)
   go_ret;exact⟨rfl,hw1⟩
  ·have hD:decide (m > 0)=false:=ζ;rw[Ξ h2]
   go_enter func24,ntmps24
   go_wp2_with (first
    |((go_at_call 21;(with_reducible refine(kc _).mono ?_));rintro e w1 ⟨rfl,hu1⟩;(have q2:w1.cell? ⟨w.heap.size,3,none⟩=some (.int .u32 m):=hu1.was γ);(have hw1:ae [] w w1:=ae.trans β hu1))
    | fail)
   go_ret;exact⟨rfl,hw1⟩
 ·have hcb:(sG kd d == 0)=false:=by simpa using h1
  rw[Ξ h1];clear h1;generalize sG kd d=c at *
  go_enter func24,ntmps24
  go_wp2_with (first
   |((go_at_call 21;(with_reducible refine(kc _).mono ?_));rintro e w1 ⟨rfl,hu1⟩;(have hw1:ae [] w w1:=ae.trans β hu1))
   | fail)
  go_ret;exact⟨rfl,hw1⟩
def zt(w:World)(F:List Nat)(v:Value)(S:St):Prop:=∃(vT vG:Value) (gh oh ch gc oc cc:Nat) (T G:List Hd),v=.agg #[.int .i64 (S.R.sl.length:Int),.int .u32 (S.R.most:Int),vT,vG,.slice (some ⟨gh,oh,none⟩) S.A.hs.length ch,.slice (some ⟨gc,oc,none⟩) S.A.cs.length cc,.int .u64 (S.q:Int)]/\
 Dk w F vT T/\Dk w F vG G/\Bu w F gh oh ch gc oc cc S.A/\RA S.R T G/\T.length=S.q
theorem zt.fresh{w w':World}{F F':List Nat}{v:Value}{S:St}(h:zt w F v S)(hu:ae F w w')(hF:∀x,x∈F'->x∈F\/w.heap.size<=x):zt w' F' v S:=by
 obtain⟨vT,vG,gh,oh,ch,gc,oc,cc,T,G,e,h1,h2,h3,h4,h5⟩:=h;exact⟨vT,vG,gh,oh,ch,gc,oc,cc,T,G,e,h1.fresh hu hF,h2.fresh hu hF,h3.fresh hu hF,h4,h5⟩
def Zp(v:Value):Prop:=∃(x0 x1 x6:Int) (a2:Option Addr) (n2 k2:Nat) (a3:Option Addr) (n3 k3:Nat) (a4:Option Addr) (n4 k4:Nat) (a5:Option Addr) (n5 k5:Nat),v=.agg #[.int .i64 x0,.int .u32 x1,.slice a2 n2 k2,.slice a3 n3 k3,.slice a4 n4 k4,.slice a5 n5 k5,.int .u64 x6]
theorem zt.agg{w:World}{F:List Nat}{v:Value}{S:St}(h:zt w F v S):Zp v:=by
 obtain⟨vT,vG,gh,oh,ch,gc,oc,cc,T,G,rfl,⟨a,k,rfl,_⟩,⟨a',k',rfl,_⟩,_⟩:=h;exact⟨_,_,_,_,_,_,_,_,_,_,_,_,_,_,_,rfl⟩
theorem OW(kd d:Int)(k m:Nat)(w:World)(F:List Nat)(hF:∀x,x∈F->x<w.heap.size)(hk:k<=65536)(hm:1<=m/\m<=4294967295)(hc:sG kd d=0) :
  Calls prog 12 #[.agg #[.int .i64 kd,.int .i64 d],.int .i64 (k:Int),.int .u32 (m:Int)] w λe w'=>∃v,e=.returned (.tuple #[v,.int .i64 0])/\zt w' F v ⟨AR.new k m,NS.new k,0⟩/\ae [] w w':=by
 have kc:=λW=>rR kd d W;rw[hc] at kc;have ka:=λW=>En (k:Int) (m:Int) W ω ω;have HF:=χ hF;clear hc hm hF;have e1:(AR.new k m).sl.length=k:=by simp[AR.new]
 go_enter func12,ntmps12
 (go_upto_region 1 with(fail);refine bG (λW=>jg W (w.heap.size+1) 39 7/\W.cell? ⟨w.heap.size,0,none⟩=some (.int .i64 kd)/\W.cell? ⟨w.heap.size,1,none⟩=some (.int .i64 d)/\ae [] w W) ⟨(by have h:=lZ (w.alloc (.cells #[.int .i64 kd,.int .i64 d] 23)) [Value.int .i64 0,.int .u32 0,.slice none 0 0,.slice none 0 0,.slice none 0 0,.slice none 0 0,.int .u64 0] 39;rw[Κ] at h;exact h),γ,γ,β⟩ ?_;rintro W ⟨hR,q0,q1,hW⟩)
 go_upto_region 7 with (first
  |((go_at_call 21;(with_reducible refine(kc _).mono ?_));rintro e w1 ⟨rfl,hu1⟩;(have hw1:ae [] w w1:=hW.trans hu1);(have lL:=hR.upd hu1 σ))
  |((go_at_call 36;(with_reducible refine(ka _).mono ?_));rintro e w2 ⟨rfl,hu2⟩)
  | fail)
 refine bG (λX=>jg X (w.heap.size+1) 39 7/\X.cell? ⟨w2.heap.size,0,none⟩=some (.int .i64 (k:Int))/\X.cell? ⟨w2.heap.size,1,none⟩=some (.int .u32 (m:Int))/\X.cell? ⟨w2.heap.size,2,none⟩=some (.slice none 0 0)/\X.cell? ⟨w2.heap.size,3,none⟩=some (.slice none 0 0)/\ae [] w X) ⟨(lL.upd hu2 σ).upd (S:=[]) β σ,γ,γ,γ,γ,(hw1.trans hu2).trans β⟩ ?_;rintro X ⟨zx,z0,z1,z2,z3,hX⟩;have hXl:w.heap.size+1<X.drew.heap.size:=by obtain⟨f,hf⟩:=zx;exact hf.lt
 have QV:=Jg k X.drew ((w.heap.size+1)::F) (λx hx=>by
  rcases ρ.1 hx with rfl|hx
  ·exact hXl
  ·exact Ψ (HF.out x hx) hX.size) ω
 have HX:=χ (ψ zx hX);clear hR lL zx hu1 hu2 hw1 hW q0 q1 kc ka hX hXl
 go_region_law
  (first
   | ((first|go_at_call 37|(go_simp;go_at_call 37));(with_reducible refine (QV).mono ?_);rintro e w3 ⟨v3,rfl,⟨gh,oh,ch,gc,oc,cc,rfl,jo⟩,hu3⟩;(unfold Yg);(have y0:=hu3.was z0);(have y1:=hu3.was z1);(have y2:=hu3.was z2);(have y3:=hu3.was z3);(obtain ⟨zx,hX⟩:=HX.out);(have fU:ae [] X w3:=((ae.refl [] X).drew).trans hu3);(have mK:=zx.upd fU σ);((have t0:=(mK).cell 0 ω);(have t1:=(mK).cell 1 ω);(have t2:=(mK).cell 2 ω);(have t3:=(mK).cell 3 ω);(have t4:=(mK).cell 4 ω);(have t5:=(mK).cell 5 ω);(have t6:=(mK).cell 6 ω);(have s0:=(mK).free 0);(have s1:=(mK).free 1);(have s2:=(mK).free 2);(have s3:=(mK).free 3);(have s4:=(mK).free 4);(have s5:=(mK).free 5);(have s6:=(mK).free 6);(have hBl:=Ε _ _ t0))))
 all_goals
  have Dt:=χ jo;clear y0 y1 y2 y3 mK QV jo;go_wp2;refine bodyPost_ret (v:=.tuple #[.agg #[.int .i64 (k:Int),.int .u32 (m:Int),.slice none 0 0,.slice none 0 0,.slice (some ⟨gh,oh,none⟩) (NS.new k).hs.length ch,.slice (some ⟨gc,oc,none⟩) (NS.new k).cs.length cc,.int .u64 0],.int .i64 0]) (by simp[results,results12,go_sem,t0,t1,t2,t3,t4,t5,t6]) rfl ?_;refine⟨_,rfl,⟨_,_,gh,oh,ch,gc,oc,cc,[],[],by dsimp only;rw[e1];rfl,Dk.nil _ _,Dk.nil _ _,(Dt.out.upd ?_).less (λx hx=>Λ _ hx),Z9 _ _,rfl⟩,by(repeat(refine ae.setCell ?_ (Β (Nat.le_succ _)) _));exact hX.trans fU⟩
  iterate 7 (refine ae.setCell ?_ (Α σ) _)
  exact ae.refl _ _
theorem qI(w:World)(kd d:Int)(n m:Nat)(hn:n<=255)(hm:1<=m/\m<=4294967295)(hc:sG kd d=0){K:jZ}(ko:o9 K.toNestQ kd d (n % 30)) :
  Calls prog 23 #[.agg #[.int .i64 kd,.int .i64 d,.int .u8 (n:Int),.int .u32 (m:Int)]] w λe w'=>∃p F v,e=.returned (.tuple #[.pointer (some ⟨p,0,none⟩),v,.bool true])/\fw K w' p F kd d ⟨AR.new (n % 30) m,NS.new (n % 30),0⟩/\zt w' F v ⟨AR.new (n % 30) m,NS.new (n % 30),0⟩/\ae [] w w'/\∀x,x∈F->w.heap.size<=x:=by
 have k3:n % 30<30:=Nat.mod_lt _ ω;have kd':=λW (hl:w.heap.size+1<W.heap.size)=>OW kd d (n % 30) m W [w.heap.size+1] (λx hx=>by simp at hx;omega) ω hm hc;have kO:∀W:World,Calls prog 11 #[.agg #[.int .i64 kd,.int .i64 d],.int .i64 ((n % 30:Nat):Int),.int .u32 (m:Int)] W λe w'=>∃p F,e=.returned (.tuple #[.pointer (some ⟨p,0,none⟩),.int .i64 0])/\aP K.toNestQ w' p F kd d (AR.new (n % 30) m) (NS.new (n % 30)) 0/\ae [] W w'/\∀x,x∈F->W.heap.size<=x:=λW=>Ei (n % 30) m W ω hm hc ko
 have hm1:((n:Int)).tmod 30=((n % 30:Nat):Int):=by rw[Int.tmod_eq_emod_of_nonneg ω];exact(Int.natCast_emod _ _).symm
 have hw2:IntKind.i64.wrap (n:Int)=(n:Int):=Μ _ ω;generalize n % 30=N at *;clear ko hc hm
 go_enter func23,ntmps23
 go_upto_region 1 with(fail)
 refine bG (λW=>jg W (w.heap.size+1) 39 7/\W.cell? ⟨w.heap.size,0,none⟩=some (.int .i64 kd)/\W.cell? ⟨w.heap.size,1,none⟩=some (.int .i64 d)/\W.cell? ⟨w.heap.size,2,none⟩=some (.int .u8 (n:Int))/\W.cell? ⟨w.heap.size,3,none⟩=some (.int .u32 (m:Int))/\ae [] w W) ⟨(by have h:=lZ (w.alloc (.cells #[.int .i64 kd,.int .i64 d,.int .u8 (n:Int),.int .u32 (m:Int)] 58)) [Value.int .i64 0,.int .u32 0,.slice none 0 0,.slice none 0 0,.slice none 0 0,.slice none 0 0,.int .u64 0] 39;rw[Κ] at h;exact h),γ,γ,γ,γ,β⟩ ?_;rintro W ⟨hR,q0,q1,q2,q3,hW⟩;have hRl:=Ε W _ (hR.cell 0 ω);have kd':=kd' W hRl
 go_upto_region 4 with (first
  |((go_at_call 12;(with_reducible refine(kd').mono ?_));rintro e w1 ⟨v,rfl,hD,hu1⟩;obtain⟨y0,y1,y6,a2,n2,e2,a3,n3,e3,a4,n4,e4,a5,n5,e5,rfl⟩:=hD.agg;(have lL:=hR.upd hu1 σ);(have p0:=hu1.was q0);(have p1:=hu1.was q1);(have p2:=hu1.was q2);(have p3:=hu1.was q3);(have hw1:=hW.trans hu1))
  | fail)
 have hs11:=hu1.size;have hD1:=χ hD;clear hR hW q0 q1 q2 q3 hu1 hD;refine bG (λX=>X.cell? ⟨w1.heap.size,0,none⟩=some (.int .i64 y0)/\X.cell? ⟨w1.heap.size,1,none⟩=some (.int .u32 y1)/\X.cell? ⟨w1.heap.size,2,none⟩=some (.slice a2 n2 e2)/\X.cell? ⟨w1.heap.size,3,none⟩=some (.slice a3 n3 e3)/\X.cell? ⟨w1.heap.size,4,none⟩=some (.slice a4 n4 e4)/\X.cell? ⟨w1.heap.size,5,none⟩=some (.slice a5 n5 e5)/\X.cell? ⟨w1.heap.size,6,none⟩=some (.int .u64 y6)/\ae [] w1 X/\w1.heap.size<X.heap.size) ⟨γ,γ,γ,γ,γ,γ,γ,β,σ⟩ ?_;rintro X ⟨z0,z1,z2,z3,z4,z5,z6,hX,hXl⟩;have r0:=hX.was p0;have r1:=hX.was p1
 have r2:=hX.was p2;have r3:=hX.was p3;have hR2:=lL.upd hX σ;clear p0 p1 p2 p3 lL
 go_upto_region 5 with (first
  |((go_at_call 11;(with_reducible refine(kO _).mono ?_));rintro e w3 ⟨p,F,rfl,hP,hu3,hf3⟩;(have mK:=hR2.upd hu3 σ);(have g0:=hu3.was z0);(have g1:=hu3.was z1);(have g2:=hu3.was z2);(have g3:=hu3.was z3);(have g4:=hu3.was z4);(have g5:=hu3.was z5);(have g6:=hu3.was z6))
  | fail)
 ((have t0:=(mK).cell 0 ω);(have t1:=(mK).cell 1 ω);(have t2:=(mK).cell 2 ω);(have t3:=(mK).cell 3 ω);(have t4:=(mK).cell 4 ω);(have t5:=(mK).cell 5 ω);(have t6:=(mK).cell 6 ω);(have s0:=(mK).free 0);(have s1:=(mK).free 1);(have s2:=(mK).free 2);(have s3:=(mK).free 3);(have s4:=(mK).free 4);(have s5:=(mK).free 5);(have s6:=(mK).free 6);(have hBl:=Ε _ _ t0))
 have HF:=χ (ψ hP (ψ hu3 (ψ hf3 (ψ hX hw1))));clear hP hu3 hf3 mK hR2 hX hw1 z0 z1 z2 z3 z4 z5 z6 r0 r1 r2 r3 kO kd'
 go_region_law (fail)
 all_goals
  go_wp2;obtain⟨hP,hu3,hf3,hX,hw1⟩:=HF.out;refine bodyPost_ret (v:=.tuple #[.pointer (some ⟨p,0,none⟩),.agg #[.int .i64 y0,.int .u32 y1,.slice a2 n2 e2,.slice a3 n3 e3,.slice a4 n4 e4,.slice a5 n5 e5,.int .u64 y6],.bool true]) (by simp[results,results23,go_sem,t0,t1,t2,t3,t4,t5,t6]) rfl ?_
  have hD3:zt w3 ((w.heap.size+1)::F) _ _:=hD1.out.fresh ((hX.trans hu3).mono σ) (λx hx=>by
   rcases ρ.1 hx with rfl|hx
   ·exact Α σ
   ·exact Β (by have:=hf3 x hx;omega))
  refine⟨p,F,_,rfl,aP.upd (S:=[w.heap.size+1]) hP ?_ (λx hx hm=>by simp at hx;subst hx;have:=hf3 _ hm;omega),hD3.fresh (ae.mono (S:=[w.heap.size+1]) ?_ σ) (λx hx=>Α (Λ _ hx)),?_,λx hx=>by have:=hf3 x hx;omega⟩
  ·refine ae.drew ?_
   iterate 7 (refine ae.setCell ?_ (Α σ) _)
   exact ae.refl _ _
  ·refine ae.drew ?_
   iterate 7 (refine ae.setCell ?_ (Α σ) _)
   exact ae.refl _ _
  ·refine ae.drew ?_
   iterate 7 (refine ae.setCell ?_ (Β (Nat.le_succ _)) _)
   exact(hw1.trans hX).trans hu3
theorem UF(w:World)(kd d n m:Int)(hn:0<=n/\n<=255)(hm:0<=m/\m<=4294967295)(hc:nA kd d m=false) :
  Calls prog 23 #[.agg #[.int .i64 kd,.int .i64 d,.int .u8 n,.int .u32 m]] w λe w'=>∃v,e=.returned (.tuple #[.pointer none,v,.bool false])/\Zp v/\ae [] w w':=by
 have kd':=λW=>Ob kd d (n % 30) m W hm;have hE:sQ kd d (n % 30) m≠0:=by
  unfold nA at hc;unfold sQ
  by_cases h:sG kd d=0
  ·rw[Γ (by simp[h])];have:m=0:=by simp[h] at hc;omega
   rw[Δ (Β (Β this))]
   decide
  ·rw[Δ h];exact h
 have hEb:(sQ kd d (n % 30) m != 0)=true:=by simpa using hE
 have hm1:n.tmod 30=n % 30:=Int.tmod_eq_emod_of_nonneg ω;have hw2:IntKind.i64.wrap n=n:=Μ _ ω;generalize sQ kd d (n % 30) m=E at *;generalize n % 30=N at *;clear hc hm hE
 go_enter func23,ntmps23
 go_upto_region 1 with(fail)
 refine bG (λW=>jg W (w.heap.size+1) 39 7/\W.cell? ⟨w.heap.size,0,none⟩=some (.int .i64 kd)/\W.cell? ⟨w.heap.size,1,none⟩=some (.int .i64 d)/\W.cell? ⟨w.heap.size,2,none⟩=some (.int .u8 n)/\W.cell? ⟨w.heap.size,3,none⟩=some (.int .u32 m)/\ae [] w W) ⟨(by have h:=lZ (w.alloc (.cells #[.int .i64 kd,.int .i64 d,.int .u8 n,.int .u32 m] 58)) [Value.int .i64 0,.int .u32 0,.slice none 0 0,.slice none 0 0,.slice none 0 0,.slice none 0 0,.int .u64 0] 39;rw[Κ] at h;exact h),γ,γ,γ,γ,β⟩ ?_;rintro W ⟨hR,q0,q1,q2,q3,hW⟩
 go_upto_region 3 with (first
  |((go_at_call 12;(with_reducible refine(kd' _).mono ?_));rintro e w1 ⟨y0,y1,y6,a2,n2,e2,a3,n3,e3,a4,n4,e4,a5,n5,e5,rfl,hu1⟩;(have lL:=hR.upd hu1 σ);(have hw1:=hW.trans hu1))
  | fail)
 refine bG (λX=>X.cell? ⟨w1.heap.size,0,none⟩=some (.int .i64 y0)/\X.cell? ⟨w1.heap.size,1,none⟩=some (.int .u32 y1)/\X.cell? ⟨w1.heap.size,2,none⟩=some (.slice a2 n2 e2)/\X.cell? ⟨w1.heap.size,3,none⟩=some (.slice a3 n3 e3)/\X.cell? ⟨w1.heap.size,4,none⟩=some (.slice a4 n4 e4)/\X.cell? ⟨w1.heap.size,5,none⟩=some (.slice a5 n5 e5)/\X.cell? ⟨w1.heap.size,6,none⟩=some (.int .u64 y6)/\jg X (w.heap.size+1) 39 7/\ae [] w X) ⟨γ,γ,γ,γ,γ,γ,γ,lL.upd (S:=[]) β σ,hw1.trans β⟩ ?_;rintro X ⟨z0,z1,z2,z3,z4,z5,z6,hR2,hX⟩
 ((have t0:=(hR2).cell 0 ω);(have t1:=(hR2).cell 1 ω);(have t2:=(hR2).cell 2 ω);(have t3:=(hR2).cell 3 ω);(have t4:=(hR2).cell 4 ω);(have t5:=(hR2).cell 5 ω);(have t6:=(hR2).cell 6 ω);(have s0:=(hR2).free 0);(have s1:=(hR2).free 1);(have s2:=(hR2).free 2);(have s3:=(hR2).free 3);(have s4:=(hR2).free 4);(have s5:=(hR2).free 5);(have s6:=(hR2).free 6);(have hBl:=Ε _ _ t0))
 clear hR lL hR2 hW hw1 hu1 q0 q1 q2 q3 kd'
 go_region_law (fail)
 all_goals
  go_wp2;refine bodyPost_ret (v:=.tuple #[.pointer none,.agg #[.int .i64 y0,.int .u32 y1,.slice a2 n2 e2,.slice a3 n3 e3,.slice a4 n4 e4,.slice a5 n5 e5,.int .u64 y6],.bool false]) (by simp[results,results23,go_sem,t0,t1,t2,t3,t4,t5,t6]) rfl ?_;refine⟨_,rfl,⟨_,_,_,_,_,_,_,_,_,_,_,_,_,_,_,rfl⟩,?_⟩;refine ae.drew ?_
  iterate 7 (refine ae.setCell ?_ (Β (Nat.le_succ _)) _)
  exact hX
theorem zQ(w:World)(kd d n m:Int)(hn:0<=n/\n<=255)(hm:0<=m/\m<=4294967295) :
  Calls prog 23 #[.agg #[.int .i64 kd,.int .i64 d,.int .u8 n,.int .u32 m]] w λe w'=>∃o v,e=.returned (.tuple #[.pointer o,v,.bool (nA kd d m)])/\Zp v/\ae [] w w':=by
 cases hc:nA kd d m with
 |false=>exact(UF w kd d n m hn hm hc).mono λe w' ⟨v,h1,h2,h3⟩=>⟨none,v,h1,h2,h3⟩
 |true=>
  obtain⟨n,rfl⟩:∃k:Nat,n=k:=⟨n.toNat,ω⟩;obtain⟨m,rfl⟩:∃k:Nat,m=k:=⟨m.toNat,ω⟩;unfold nA at hc;simp at hc;have hlt:=Nat.mod_lt n (show 30 > 0 by omega);obtain⟨K,ko⟩:=oD kd d (n % 30) hc.1 ω;exact(qI w kd d n m ω ω hc.1 ko).mono λe w' ⟨p,F,v,h1,h2,h3,h4,h5⟩=>⟨_,v,h1,h3.agg,h4⟩
theorem Fj{S:St}(ok:S.Ok)(a:Ac)(x g:Int):0<=(a.run S x g).2.g/\(a.run S x g).2.g<=4294967295:=by
 have hg:=ok.2.1.gm;have hm:=ok.2.1.QQ;have z:∀c,0<=(sN c).g/\(sN c).g<=4294967295:=λc=>by unfold sN;dsimp only;omega
 have o:(0:Int)<=0/\(0:Int)<=4294967295:=ω;refine Ef (P:=λr=>0<=r.2.g/\r.2.g<=4294967295) a x g o ?_ ?_ ?_ ?_ ?_ ?_ ?_ ?_ ?_ o
 ·unfold kW
  split
  ·cases hT:kZ S.R with
   |none=>exact z 32
   |some y=>
    have:=(uO ok.2.1 (x:=y.1) (R':=y.2) hT).2.2.2.1;dsimp only;omega
  ·exact z 171
 ·unfold lD;cases dN S.A a.a with
  |none=>exact z _
  |some y=>have:=hg y;dsimp only;omega
 ·unfold jN;cases dN S.A a.a with
  |none=>exact z _
  |some y=>have:=hg y;dsimp only;omega
 ·unfold mH
  split
  ·split<;>exact z _
  ·exact z _
 ·unfold mG
  split
  ·exact o
  ·exact z _
 ·unfold nW
  split<;>exact z _
 ·unfold mW;dsimp only
  split
  ·exact o
  ·exact z _
 ·unfold kV;dsimp only
  split
  ·exact o
  ·exact z _
 ·unfold nX;dsimp only
  split
  ·exact o
  ·exact z _
theorem yP(a:Ac)(ok:a.Ok)(l:List Hd)(h:∀p,p∈l->0<=p.2/\p.2<=4294967295):0<=(xm a l).2/\(xm a l).2<=4294967295:=by
 unfold xm
 split
 ·rename_i hh
  have hi:=Nat.mod_lt (a.o.toNat-1) hh.2;rw[φ,ε hi];exact h _ (Ϙ hi)
 ·exact ok.wg
theorem TA{w:World}{g:Nat}{e:TypeId}{base size:Nat}(h:w.heap[g]?=some (.cells #[] e (0,0)))(hb:base<=g):w.ownsRow base e size (.slice (some ⟨g,0,none⟩) 0 0) 0 []:=
 ⟨σ,Β ⟨g,0,#[],rfl,hb,h,Θ _,μ,σ,σ⟩⟩
theorem tT{w:World}{e:TypeId}{base size:Nat}(hb:base<=w.heap.size):(w.alloc (.cells #[] e)).ownsRow base e size (.slice (some ⟨w.heap.size,0,none⟩) 0 0) 0 []:=
 TA (show(w.heap.push _)[w.heap.size]?=some _ by simp) hb
structure Al(K1 K2:jZ)(w0 w:World)(pa pb:Nat)(Fa Fb:List Nat)(k1 d1 k2 d2:Int)(S:St)(v:Value)(l:List Hd):Prop where
 a:fw K1 w pa Fa k1 d1 S
 b:fw K2 w pb Fb k2 d2 S
 own:w.ownsRow w0.heap.size 46 2 v l.length (Ci l)
 upd:ae [] w0 w
 fa:∀x,x∈Fa->w0.heap.size<=x
 fb:∀x,x∈Fb->w0.heap.size<=x
 ab:∀x,x∈Fa->x∉Fb
 va:∀k,v.ownBlock=some k->k∉Fa/\k∉Fb
 gen:∀p,p∈l->0<=p.2/\p.2<=4294967295
section
variable{K1 K2:jZ}{w0 w:World}{pa pb:Nat}{Fa Fb:List Nat}{k1 d1 k2 d2:Int}{S:St}{v:Value}{l:List Hd}
theorem Al.ag{w':World}(h:Al K1 K2 w0 w pa pb Fa Fb k1 d1 k2 d2 S v l)(hu:ae [] w w'):Al K1 K2 w0 w' pa pb Fa Fb k1 d1 k2 d2 S v l:=
 ⟨aP.ag h.a hu,aP.ag h.b hu,ak h.own hu σ,h.upd.trans hu,h.fa,h.fb,h.ab,h.va,h.gen⟩
theorem Al.hds(h:Al K1 K2 w0 w pa pb Fa Fb k1 d1 k2 d2 S v l):Dk w [] v l:=Dk.iA h.own σ
theorem Al.both(h:Al K1 K2 w0 w pa pb Fa Fb k1 d1 k2 d2 S v l){W1 W2 W3:World}{S':St}{F1 F2:List Nat}(hP1:fw K1 W1 pa F1 k1 d1 S')(hu1:ae Fa w W1)(hf1:∀x,x∈F1->x∈Fa\/w.heap.size<=x)(h12:ae [] W1 W2)(hP2:fw K2 W3 pb F2 k2 d2 S')(hu2:ae Fb W2 W3)(hf2:∀x,x∈F2->x∈Fb\/W2.heap.size<=x):Al K1 K2 w0 W3 pa pb F1 F2 k1 d1 k2 d2 S' v l:=by
 have hs:=h.upd.size;have hs1:=hu1.size;have hs2:=h12.size;have hlb:=aP.lt h.b;have hl1:=aP.lt hP1;refine⟨aP.upd (aP.ag hP1 h12) hu2 (λx hx hm=>?_),hP2,ak (ak (ak h.own hu1 (λk hk=>(h.va k hk).1)) h12 σ) hu2 (λk hk=>(h.va k hk).2),((h.upd.joined hu1 (λx hx=>Β (h.fa x hx))).trans h12).joined hu2 (λx hx=>Β (h.fb x hx)),λx hx=>?_,λx hx=>?_,λx hx hm=>?_,λk hk=>⟨λhm=>?_,λhm=>?_⟩,h.gen⟩
 ·rcases hf1 x hm with e|e
  ·exact h.ab x e hx
  ·have:=hlb x hx;omega
 ·rcases hf1 x hx with e|e
  ·exact h.fa x e
  ·omega
 ·rcases hf2 x hx with e|e
  ·exact h.fb x e
  ·omega
 ·have:=hl1 x hx;rcases hf2 x hm with e|e
  ·rcases hf1 x hx with e'|e'
   ·exact h.ab x e' e
   ·have:=hlb x e;omega
  ·omega
 ·have hkl:=(h.own.lt k hk).2;rcases hf1 k hm with e|e
  ·exact(h.va k hk).1 e
  ·omega
 ·have hkl:=(h.own.lt k hk).2;rcases hf2 k hm with e|e
  ·exact(h.va k hk).2 e
  ·omega
theorem Al.push(h:Al K1 K2 w0 w pa pb Fa Fb k1 d1 k2 d2 S v l){w':World}{v':Value}{p:Hd}(ho:w'.ownsRow w0.heap.size 46 2 v' (l.length+1) (Ci (l++[p])))(hu:ae v.ownBlock.toList w w')(hb:v'.ownBlock=v.ownBlock\/v'.ownBlock=some w.heap.size)(hg:0<=p.2/\p.2<=4294967295):Al K1 K2 w0 w' pa pb Fa Fb k1 d1 k2 d2 S v' (l++[p]):=by
 have hla:=aP.lt h.a;have hlb:=aP.lt h.b;have hv:∀x,x∈v.ownBlock.toList->v.ownBlock=some x:=λx hx=>by simpa using hx
 refine⟨aP.upd h.a hu (λx hx=>(h.va x (hv x hx)).1),aP.upd h.b hu (λx hx=>(h.va x (hv x hx)).2),by simpa using ho,h.upd.joined hu (λx hx=>Β (h.own.lt x (hv x hx)).1),h.fa,h.fb,h.ab,λk hk=>?_,λq hq=>?_⟩
 ·rcases hb with e|e
  ·exact h.va k (e▸hk)
  ·rw[e] at hk;cases hk;exact⟨λhm=>by have:=hla _ hm;omega,λhm=>by have:=hlb _ hm;omega⟩
 ·rcases τ.1 hq with hq|hq
  ·exact h.gen q hq
  ·simp at hq;subst hq;exact hg
end
end Go.Proofs.YtnpdakpagnpanaaGreat
