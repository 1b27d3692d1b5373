/-
  Lemmas.
-/
import Derived.Test.YtnpdakpagnpanaaGreatE04
import Derived.Test.YtnpdakpagnpanaaGreatE12
set_option linter.all false
set_option maxHeartbeats 8000000
set_option maxRecDepth 10000
namespace Go.Proofs.YtnpdakpagnpanaaGreat
open Tryz
open Go Go.RowKit
def lY(w:World)(B:LB)(F:List Nat)(gt ct:Nat)(A:NS)(st:Nat)(tr:Nat->BT):Prop:=
 ∃S rk ai,mf w B F gt ct A st S rk ai/\TrI A S ai tr/\(∀h,Lean (tr h))/\(∀h,gz rk (tr h))
def lY.upd{w w':World}{B:LB}{F:List Nat}{gt ct:Nat}{A:NS}{st:Nat}{tr:Nat->BT}{G:List Nat}(h:lY w B F gt ct A st tr)(e:ae G w w')(f:∀x,x∈G->x∉B.blk F gt):lY w' B F gt ct A st tr:=by
 obtain⟨S,rk,ai,a,b,c,d⟩:=h;exact⟨S,rk,ai,a.upd e f,b,c,d⟩
def lY.ag{w w':World}{B:LB}{F:List Nat}{gt ct:Nat}{A:NS}{st:Nat}{tr:Nat->BT}(h:lY w B F gt ct A st tr)(a:ae [] w w'):lY w' B F gt ct A st tr:=h.upd a σ
section
variable{w:World}{B:LB}{F:List Nat}{gt ct:Nat}{A:NS}{st:Nat}{tr:Nat->BT}
def IA(h:lY w B F gt ct A st tr)(c x:Nat)(k s:Int)(hk:-9223372036854775808<=k/\k<=9223372036854775807/\0<=s/\s<=18446744073709551615)(D:oF A c x=true):
  Calls prog 230 #[B.n0,(c:Int),(x:Int),.agg #[k,.int .u64 s]] w λe w'=>e=.returned true/\ae (B.blk F gt) w w'/\
   lY w' B F gt ct (aN A c x k s) (dw st (aI aB (aN A c x k s) (tr c) (single x)).2) (λq=>if q=c then(aI aB (aN A c x k s) (tr c) (single x)).1 else tr q):=by
 obtain⟨S,rk,ai,i,f,hL,hR⟩:=h;have H:=i.lt;have ok:=i.cells.ok;obtain⟨b1,b2,b3⟩:=(fB _ _ _).1 D;have b4:=(aF _ _).1 b1;have z:x<A.cs.length:=by have:=(il _ _).1 b2;omega
 have T:(A.c x).i=0:=by
  have:=(ok.nat x z).1;have h3:¬(0<(A.c x).i):=λh'=>by rw[(aj A x).2 ⟨z,h'⟩] at b3;cases b3
  omega
 have p:(aN A c x k s).cs.length=A.cs.length:=by unfold aN;rw[Δ D,fM]
 have jw:(aN A c x k s).hs.length=A.hs.length:=by unfold aN;rw[Δ D];rfl
 have t:∀y,(aN A c x k s).c y=if y=x then⟨c,k,s⟩ else A.c y:=λy=>by
  unfold aN;rw[Δ D,π,mg]
  by_cases e:y=x
  .rw[Δ ⟨e,z⟩,Δ e]
  .rw[Γ (λh=>e h.1),Γ e]
 have U:x∉(tr c).nodes:=f.out T;have hX:((tr c).nodes++(single x).nodes).Nodup:=by
  rw[θ];refine⟨f.nd c,by simp[single,BT.nodes],λa ha b hb e=>?_⟩;simp only[single,BT.nodes,Υ,ϒ] at hb;exact U (by rw[←hb,←e];exact ha)
 have I:∀y,y∈(tr c).nodes++(single x).nodes->bY (aN A c x k s) (y:Int)=true:=λy d=>by
  rw[aj,p,t];simp only[single,BT.nodes,Υ,τ,ϒ] at d
  by_cases e:y=x
  .rw[Δ e,e];exact⟨z,by show(0:Int)<(c:Int);omega⟩
  .rw[Γ e];have:=(f.mem c y).1 (d.resolve_right e);exact⟨this.2.1,ω⟩
 have J:Heap (aN A c x k s) (tr c):=(f.heap c).frame (λy d=>by rw[t,Γ (λe=>U (by rw[←e];exact d))]);obtain⟨mp,mh⟩:=kK mQ (aN A c x k s) _ (tr c) (single x) (Θ _);have P5:=mh J ⟨by simp[BT.nodes],by simp[BT.nodes],trivial,trivial⟩ hX;have ml:=sH (aN A c x k s) _ (tr c) (single x) (Θ _) (hL c) ⟨Θ _,trivial,trivial⟩;have K:=f.free x z T
 have FI:Hid (∀ (W:World) (R:TS) (C:Nat->Nat) (v:Nat),mf W B F gt ct (aN A c x k s) v R C (ai.set c (aI aB (aN A c x k s) (tr c) (single x)).1.root)->dL R (-1) (aI aB (aN A c x k s) (tr c) (single x)).1.root (aI aB (aN A c x k s) (tr c) (single x)).1->gz C (aI aB (aN A c x k s) (tr c) (single x)).1->
   (∀y,y∉(tr c).nodes++(single x).nodes->S.at R y/\C y=rk y)->lY W B F gt ct (aN A c x k s) v (λq=>if q=c then (aI aB (aN A c x k s) (tr c) (single x)).1 else tr q)):=λW R C v P a2 a3 a4=>by
  refine⟨R,C,_,P,f.put ok i.iY D a2 mp P5 (λy d=>(a4 y d).1),λq=>?_,λq=>?_⟩
  .show Lean (if q=c then _ else _)
   split
   .exact ml
   .exact hL q
  .show gz C (if q=c then _ else _)
   split
   .exact a3
   .rename_i hq
    refine(hR q).frame (λy d=>(a4 y (λr=>?_)).2);simp only[single,BT.nodes,Υ,τ,ϒ] at r;rcases r with r|r
    .have c1:=(f.mem c y).1 r;have c2:=(f.mem q y).1 d;omega
    .exact f.out (g:=q) T (by rw[←r];exact d)
 have L:=f.Az c;have uA:=hR c;have M:=f.top c ω;have hgn:c<ai.length:=by rw[i.iY];omega
 have u1:ae [] w (w.alloc (.cells #[k,.int .u64 s] 97)):=(ae.refl _ _).alloc _;have kp:=λW (n:ae [] (w.alloc (.cells #[k,.int .u64 s] 97)) W)=>oQ (i.cells.ag (u1.trans n)) c x k s hk D;have h0:=i.h0;have wC:B.n0∉F:=i.bQ.1;have N:w.heap.size∉F:=λr=>by have:=H w.heap.size (by simp[LB.blk,r]);omega
 have r0:∀W,ae F (w.alloc (.cells #[k,.int .u64 s] 97)) W->W.cell? B.n0=some (B.c:V):=λW n=>n.kept (u1.was h0) wC;have r1:∀W,ae F (w.alloc (.cells #[k,.int .u64 s] 97)) W->W.cell? w.heap.size=some (k:V):=λW h=>h.kept σ N;have r2:∀W,ae F (w.alloc (.cells #[k,.int .u64 s] 97)) W->W.cell? ⟨w.heap.size,1,none⟩=some (.int .u64 s):=λW h=>h.kept σ N;have X:=χ i;have O:=χ (ψ hX (ψ I (ψ L (ψ uA K))));have Zk:=χ (ψ i.sep i.bQ);have HXN:=χ U
 clear i f hL hR ok b1 b2 b3 T t U hX I J mp mh P5 ml K h0 H L uA;generalize hA':aN A c x k s=A' at *;generalize htr:tr c=th at *
 go_enter func230,ntmps230
 go_wp2
 go_region_held3 (ae F (w.alloc (.cells #[k,.int .u64 s] 97))) (exact ν)
  (((with_reducible refine(kp _ β).mono ?_);rintro e E ⟨rfl,gK,Y⟩;(have u:ae F (w.alloc (.cells #[k,.int .u64 s] 97)) E:=ν)))
 have uF:ae F w (w.alloc (.cells #[k,.int .u64 s] 97)):=u1.mono σ;have j:=X.out.cK (uF.trans u) gK (λy d=>Α d) p jw;have h2:=j.h2;have dR:=j.ranks.cell x (by rw[p];exact z);have fR:=j.ranks.free x;have hw1:ae F w E:=uF.trans u;have jZ:=χ j;clear r0 r1 r2 kp Y u gK j uF;rw[p] at h2;go_wp2;obtain⟨m,o⟩:∃m,m=E.setCell ⟨B.br,x,none⟩ (.int .i64 1):=⟨_,rfl⟩;have u2:ae [B.br] E m:=by rw[o];exact β
 have l:mf m B F gt ct A' st S (λy=>if y=x then 1 else rk y) ai:=by rw[o];exact jZ.out.dm x 1
 rw[←o];clear o jZ h2 dR fR;have km:=λW (n:ae [] m W)=>sW (l.ag n) O.out.2.2.1 (xJ O.out.2.2.2.2) O.out.1 O.out.2.1 (O.out.2.2.2.1.frame (λy d=>Γ (λe=>HXN.out (by rw[←e];exact d)))) ⟨by simp[BT.rank],trivial,trivial⟩;rw[show(single x).root=(x:Int) from rfl] at km;have d4:=l.iP.cell c hgn;rw[M] at d4;have f4:=l.iP.free c;have h3:=l.h3;have xz:B.n0∉[B.c,B.ba,B.br,gt]:=by
  have P:=Zk.out;have a2:B.n0≠B.c:=λe=>P.2.1 (by rw[e];exact X.out.cF);simp;omega
 have Q:gt∉[B.c,B.ba,B.br]:=by
  have P:=Zk.out;have a2:gt≠B.c:=λe=>P.2.2.2.2.2 (by rw[e];exact X.out.cF);simp;omega
 have r3:∀W,ae [B.c,B.ba,B.br,gt] m W->W.cell? ⟨B.n0,3,none⟩=some (.slice (some (gt:Nat)) ai.length ct):=λW n=>n.kept h3 xz;have r4:∀W,ae [B.c,B.ba,B.br] m W->W.cell? ⟨gt,c,none⟩=some (th.root:V)/\W.frozen? ⟨gt,c,none⟩=false:=λW n=>⟨n.kept d4 Q,n.ay d4 Q f4⟩
 have Cq:(0:Int)<=(c:Int):=ω;have DV:(c:Int)<(ai.length:Int):=ω;generalize hmt:(aI aB A' th (single x)).1=mt at *;generalize hmk:(aI aB A' th (single x)).2=mk at *;clear l f4 h3;have q3:=r3 _ (ae.refl _ _)
 go_region_law
  (first
   | (go_simp;(with_reducible refine (km _ β).mono ?_);rintro e Z ⟨rfl,qP,S5,XF,wY,EJ,Nl,G⟩;(have dD:ae [B.c,B.ba,B.br] m Z:=ae.trans β qP);(have iD:ae [B.c,B.ba,B.br,gt] m Z:=dD.mono σ);obtain ⟨d5,f5⟩:=r4 _ dD))
 all_goals
  go_wp2;go_ret;have qj:=X.out.cF;have v1:ae (B.blk F gt) w E:=hw1.mono (λy d=>by simp only[LB.blk,ρ];simp[d]);have v2:ae (B.blk F gt) w m:=v1.trans (u2.mono (λy d=>by simp at d;simp[LB.blk,d]))
  have v3:ae (B.blk F gt) w Z:=v2.trans (dD.mono (λy d=>by
   simp only[ρ,ς,or_false] at d;simp only[LB.blk,ρ];rcases d with rfl|rfl|rfl
   .simp[qj]
   .simp
   .simp))
  subst hmt hmk;refine⟨rfl,v3.setCell (Α (by simp[LB.blk])) _,FI.out _ S5 XF _ (wY.mW c _) EJ Nl (λy d=>⟨(G y d).1,?_⟩)⟩;rw[(G y d).2,Γ (λe=>d (by rw[e];simp[single,BT.nodes]))]
end
def WS(n j:Nat)(a:j<n):(madeCells #[Value.int .i64 0] (n*1)).toList.getD j undef=.int .i64 0:=by
 rw[φ,ε (by simp[madeCells];omega)];simp[madeCells,Nat.mod_one]
def TC(n:Nat)(w:World)(h:n<=65536):
  Calls prog 66 #[(n:Int)] w λe w'=>∃B F gt,e=.returned (.tuple #[B.n0,(0:Int)])/\lY w' B F gt 1 (NS.new n) 0 (λ_=>.nil)/\ae [] w w'/\∀x,x∈B.blk F gt->w.heap.size<=x:=by
 go_enter func66,ntmps66
 go_wp2_with (first
  |(((with_reducible refine(pR n _ h).mono ?_));rintro e r ⟨c,F,rfl,s,i,u⟩)
  |(((with_reducible refine(yX n _ h).mono ?_));rintro e o ⟨bt,ba,rfl,p,d,v,y⟩)
  | (at_make;refine wpList_make_row rfl _ 77 rfl 3 (.int .i64 0) 1 8 underlying77 gN n rfl ω μ ?_;intro a k f))
 go_ret2;have g:(NS.new n).cs.length=n:=by simp[NS.new]
 have I:=i.size;have J:=d.size;have K:=k.lt;have L:=p.head.lt;have M:=p.row.lt;have z:=s.lt;have A:((a.alloc (.cells #[(-1:Int)] 3)).heap.size)=a.heap.size+1:=by rw[Κ]
 have C:ae [] a (a.alloc (.cells #[(-1:Int)] 3)):=(ae.refl _ _).alloc _;have m:ae [] a ((a.alloc (.cells #[(-1:Int)] 3)).alloc (.cells #[(c:Nat),(bt:Nat),.slice (some o.heap.size) n n,.slice (some a.heap.size) 1 1] 204)):=C.alloc _;have t:=eO (a.alloc (.cells #[(-1:Int)] 3)) [.pointer (some (c:Nat)),.pointer (some (bt:Nat)),.slice (some o.heap.size) n n,.slice (some a.heap.size) 1 1] 204;rw[A] at t
 have D:IZ (a.alloc (.cells #[(-1:Int)] 3)) a.heap.size 1 [-1]:=IZ.lit a [-1] σ;have q:∀x,x∈F->x<r.heap.size:=z;have b:∀x,r.heap.size<=x->x∉F:=λx l G=>by have:=q x G;omega
 refine⟨⟨a.heap.size+1,c,bt,ba,o.heap.size⟩,F,a.heap.size,rfl,⟨TS.none,λ_=>0,[-1],⟨by rw[g];exact t,((s.ag d).ag f).ag m,by rw[g];exact(p.upd f σ σ).upd m σ σ,?_,D.upd ((ae.refl [] _).alloc _) σ,rfl,⟨b _ (by first|omega|(simp only;omega)),b _ (by first|omega|(simp only;omega)),b _ (by first|omega|(simp only;omega)),b _ (by first|omega|(simp only;omega)),b _ (by first|omega|(simp only;omega))⟩,⟨⟨by simp only;omega,by simp only;omega,by simp only;omega,by simp only;omega⟩,by simp only;omega,by simp only;omega,by simp only;omega,by simp only;omega,by simp only;omega⟩⟩,FW n,λ_=>trivial,λ_=>trivial⟩,((i.trans d).trans f).trans m,λx l=>?_⟩
 .rw[g];have:=k.upd m σ;rw[Nat.mul_one] at this;refine this.ext (λj H=>?_);have E:(Value.int .i64 0).cells=#[.int .i64 0]:=rfl;have e:=WS n j H;rw[Nat.mul_one] at e;rw[E,e];rfl
 .simp only[LB.blk,ρ] at l;rcases l with rfl|rfl|rfl|rfl|rfl|l
  .omega
  .omega
  .omega
  .omega
  .omega
  .exact u x l
section
variable{w:World}{B:LB}{F:List Nat}{gt ct:Nat}{A:NS}{st:Nat}{tr:Nat->BT}
def WQ(h:lY w B F gt ct A st tr)(l:65536<A.hs.length):
  Calls prog 231 #[B.n0] w λe w'=>e=.returned (0:Int)/\Goes (B.blk F gt) w w' (λF'=>∃a,F'=B.blk a gt/\lY w' B a gt ct A st tr):=by
 obtain⟨S,rk,ai,b,g⟩:=h;have k:=jg b.cells;have i:dF A=0:=by unfold dF;rw[Δ l]
 have j:aO A=A:=by unfold aO;rw[Δ l]
 rw[i,j] at k;have r:=b.h0;have n:=χ b;have o:=χ g;clear b g i j
 go_enter func231,ntmps231
 go_wp2_with (first|(((with_reducible refine k.mono ?_));rintro e q ⟨rfl,a,m,d,f⟩))
 go_ret
 exact ⟨rfl,B.blk a gt,⟨a,rfl,S,rk,ai,n.out.cK d m f rfl rfl,o.out⟩,d.mono (λy p=>by simp [LB.blk,p]),λx c=>by
  simp only[LB.blk,ρ] at c ⊢;rcases c with rfl|rfl|rfl|rfl|rfl|c
  .simp
  .simp
  .simp
  .simp
  .simp
  .rcases f x c with h|h
   .simp[h]
   .exact Β h⟩
def P9(h:lY w B F gt ct A st tr)(u:¬65536<A.hs.length):
  Calls prog 231 #[B.n0] w λe w'=>e=.returned (A.hs.length:Int)/\Goes (B.blk F gt) w w' (λF'=>∃r g t,F'=B.blk r g/\lY w' B r g t (aO A) st tr):=by
 obtain⟨S,rk,ai,c,K,L,M⟩:=h;have k:=jg c.cells;have O:dF A=A.hs.length:=by unfold dF;rw[Γ u]
 rw[O] at k;have s:(aO A).cs.length=A.cs.length:=by unfold aO;rw[Γ u]
 have W:(aO A).hs.length=A.hs.length+1:=by unfold aO;rw[Γ u];simp
 have p:=K.make c.cells.ok c.iY u;have h0:=c.h0;have X:=c.cells.ok.h0;have C:=χ c.iY;have Y:ai.length<=65536:=by rw[c.iY];omega
 have i:=χ c;have Z:=χ (ψ p (ψ L M));clear c K L M O p
 go_enter func231,ntmps231
 go_wp2_with (first
  |(((with_reducible refine k.mono ?_));rintro e v ⟨rfl,r,I,o,J⟩;(have P:=o.kept i.out.h3 i.out.bQ.1);(have f3:=o.ay i.out.h3 i.out.bQ.1 (i.out.head.free 3));(have D:=(i.out.iP.upd o i.out.bQ.2.2.2.2).own);(have g0:B.n0≠gt:=i.out.sep.1.2.2.2);(have gl:=(i.out.iP.upd o i.out.bQ.2.2.2.2).lt))
  | ((at_builtin;refine bD rfl _ _ 77 rfl 0 3 (.int .i64 0) 1 8 underlying77 gN rfl δ _ _ _ rfl (D) [.int .i64 (-1)] rfl (by simp [Value.oneCell']) (by first|rfl|(rw [Κ];rfl)) μ ω (ω) ?_;intro v2 x z a U);(have a:ae [gt] v x:=a);obtain ⟨g,t,N,p, -⟩:=IZ.jd (l:=ai++[-1]) (by rw [dO,υ];exact z) σ;rw [υ,List.length_singleton] at N;subst N;(have d4:=a.kept P ζ);(have f4:=a.ay P ζ f3)))
 go_ret;have c:=i.out;have m:=c.lt;have f:=c.bQ;have q:=c.sep;have n:ae [B.n0] x (x.setCell ⟨B.n0,3,none⟩ (.slice (some (g:Nat)) (ai.length+1) t)):=β;have E:g=gt\/v.heap.size<g:=by
  rcases U with h|h
  .exact Α (Option.some.inj h)
  .exact Β (h g rfl)
 have hws:=o.size;have gK:=I.lt;have Q:=m B.n0 (by simp[LB.blk]);have l1:=m B.bt (by simp[LB.blk]);have l2:=m B.ba (by simp[LB.blk]);have l3:=m B.br (by simp[LB.blk]);have R:=m gt (by simp[LB.blk]);have d:∀y,y<w.heap.size->y∉F->y∉r:=λy b hn H=>by rcases J y H with T|T;exact hn T;omega
 have xm:g∉r:=by
  rcases E with e|e
  .rw[e];exact d gt R f.2.2.2.2
  .exact λH=>by have:=gK g H;omega
 have hb:w.heap.size<=g\/g=gt:=ω;have G:=((c.head.upd o f.1).upd a ζ).set 3 (.slice (some (g:Nat)) (ai.length+1) t);refine⟨rfl,B.blk r g,⟨r,g,t,rfl,S,rk,ai++[-1],⟨?_,?_,?_,?_,p.upd n ζ,?_,⟨d _ Q f.1,d _ l1 f.2.1,d _ l2 f.2.2.1,d _ l3 f.2.2.2.1,xm⟩,⟨⟨q.1.1,q.1.2.1,q.1.2.2.1,ω⟩,q.2.1,ω,q.2.2.2.1,ω,ω⟩⟩,Z.out⟩,?_,λy b=>?_⟩
 .rw[s,υ,List.length_singleton];refine G.ext (λj hj=>?_);rcases(ω:j=0\/j=1\/j=2\/j=3) with rfl|rfl|rfl|rfl<;>rfl
 .exact(I.upd a (λy b=>by simp at b;rw[b];exact d gt R f.2.2.2.2)).upd n (λy b=>by simp at b;rw[b];exact d _ Q f.1)
 .rw[s];exact((c.trees.upd o f.2.1 f.2.2.1).upd a ζ ζ).upd n ζ ζ
 .rw[s];exact((c.ranks.upd o f.2.2.2.1).upd a ζ).upd n ζ
 .rw[υ,List.length_singleton,W,C.out]
 .have u1:ae (B.blk F gt) w v:=o.mono (λy b=>by simp[LB.blk,b]);exact(u1.trans (a.mono (λy b=>by simp at b;simp[LB.blk,b]))).trans (n.mono (λy b=>by simp at b;simp[LB.blk,b]))
 .simp only[LB.blk,ρ] at b ⊢;rcases b with rfl|rfl|rfl|rfl|rfl|b
  .simp
  .simp
  .simp
  .simp
  .rcases hb with h|h
   .exact Β h
   .exact Α (by simp[h])
  .rcases J y b with h|h
   .simp[h]
   .exact Β h
end
def xk.first{A:NS}{S:TS}{ai:List Int}{tr:Nat->BT}(h:TrI A S ai tr){g:Nat}(p:0<cZ A g):∃m:Nat,(tr g).root=m/\dB A g=some m:=by
 obtain⟨x,j,k,n⟩:=fO.1 p;have b:x∈(tr g).nodes:=(h.mem g x).2 ⟨ω,j,k⟩;cases c:tr g with
 |nil=>rw[c] at b;cases b
 |node m l r=>
  have i:=(h.mem g m).1 (by rw[c];simp[BT.nodes]);have d:=h.heap g;rw[c] at d;refine⟨m,rfl,(jB n).2 ⟨i.2.1,i.2.2,λy o f=>?_⟩⟩;have a:=(h.mem g y).2 ⟨ω,o,f⟩;rw[c] at a;simp only[BT.nodes,ρ,τ] at a;rcases a with e|e|e
  .exact Α e
  .exact Β (d.1 y e)
  .exact Β (d.2.1 y e)
section
variable{w:World}{B:LB}{F:List Nat}{gt ct:Nat}{A:NS}{st:Nat}{tr:Nat->BT}
def QQ(h:lY w B F gt ct A st tr)(x:Int)(c:-9223372036854775808<=x/\x<=9223372036854775807)(b:cZ A x=0):
  Calls prog 233 #[B.n0,x] w λe w'=>e=.returned (.tuple #[(0:Int),false])/\w'=w:=by
 obtain⟨S,rk,ai,a, -, -, -⟩:=h;have k:=jf a.cells x c;rw[b] at k;have d:=a.h0;clear a b
 go_enter func233,ntmps233
 go_wp2_with (first|((with_reducible refine aP k ?_)))
 go_ret2;exact⟨rfl,rfl⟩
def Et(h:lY w B F gt ct A st tr)(g:Nat)(p:0<cZ A g):
  Calls prog 233 #[B.n0,(g:Int)] w λe w'=>∃m:Nat,dB A g=some m/\(tr g).root=m/\e=.returned (.tuple #[(m:Int),true])/\w'=w:=by
 obtain⟨S,rk,ai,a,c, -, -⟩:=h;obtain⟨m,f,j⟩:=c.first p;obtain⟨x,l,q,r⟩:=fO.1 p;have i:=a.cells.ok;have b:g<A.hs.length:=by have:=(i.nat x l).2;omega
 have s:=i.h1;have k:=jf a.cells (g:Int) ω;have t:=a.h0;have y:=a.h3;have d:=a.iP.cell g (by rw[a.iY];exact b);rw[c.top g b,f] at d;have u:g<ai.length:=by rw[a.iY];exact b
 generalize v:cZ A (g:Int)=n at *;have z:((n:Int) == 0)=false:=ζ;have o:=χ (ψ j f);clear a c f j l q r i v
 go_enter func233,ntmps233
 go_wp2_with (first|((with_reducible refine aP k ?_)))
 go_ret2;exact⟨m,o.out.1,o.out.2,rfl,rfl⟩
end
def aJ{P:List Fr}{t:BT}{y:Nat}:y∈(ak P t).nodes↔y∈t.nodes\/y∈ed P:=by
 rw[(aV P t).mem_iff,τ]
def cutV(f:Fr)(t:BT):Int:=if t.root=-1 then 0 else(f.1:Int)
section
variable{w:World}{bt ba n:Nat}{S:TS}
def pE(h:bL w bt ba n S){f:Fr}{P:List Fr}{t:BT}(l:dL S (-1) (ak (f::P) t).root (ak (f::P) t))(A:(ak (f::P) t).nodes.Nodup)(d:∀y,y∈(ak (f::P) t).nodes->y<n):
  Calls prog 234 #[(bt:Nat),t.root] w λe w'=>e=.returned (.tuple #[(cutV f t:Int),.bool (tb t.root)])/\ae [ba] w w'/\
   ∃g,bL w' bt ba n g/\dL g (-1) t.root t/\dL g (-1) (ak (f::P) .nil).root (ak (f::P) .nil)/\∀y,y∉(ak (f::P) t).nodes->S.at g y:=by
 by_cases i:t=.nil
 .subst i;refine(Hg bt ba n S (-1) w h (by unfold qV;simp)).mono ?_;rintro e w' ⟨rfl,rfl⟩;exact⟨by simp[cutV,BT.root,tb],ae.refl _ _,S,h,rfl,l,λy _=>⟨rfl,rfl,rfl⟩⟩
 .obtain⟨q,r,s⟩:=VB l i A;obtain⟨m,u⟩:=cB i;have hp:=(fe _ _).1 l;have v:S.u t.root.toNat=(f.1:Int):=by
   cases t with
   |nil=>exact absurd rfl i
   |node y a b=>exact hp.1.2.1
  have x:f.1<n:=d _ (aJ.2 (Β (by simp[ed])));have z:t.root.toNat<n:=d _ (aJ.2 (Α m));have c:t.root≠-1:=ω;have k:=G8 bt ba n S f.1 t.root.toNat w h x z v;rw[←u] at k;refine k.mono ?_;rintro e w' ⟨rfl,p,j⟩;refine⟨by unfold cutV tb;rw[Γ c];simp[c],j,_,p,q,r,λy o=>s y (λe=>o ?_) (λe=>o ?_)⟩
  .rw[e];exact aJ.2 (Β (by simp[ed]))
  .rw[e];exact aJ.2 (Α m)
def Fy(h:bL w bt ba n S){f:Fr}{P:List Fr}{m:BT}(q:dL S (-1) (ak (f::P) .nil).root (ak (f::P) .nil))(r:dL S (-1) m.root m)(l:m≠.nil)(o:(m.nodes++ed (f::P)).Nodup)(c:∀y,y∈m.nodes++ed (f::P)->y<n):
  Calls prog 241 #[(bt:Nat),(f.1:Int),m.root,f.2.1] w λe w'=>e=.returned true/\ae [ba] w w'/\
   ∃j,bL w' bt ba n j/\dL j (-1) (ak (f::P) m).root (ak (f::P) m)/\∀y,y∉m.nodes++ed (f::P)->S.at j y:=by
 obtain⟨t,u⟩:=RO q r l o;obtain⟨g,v⟩:=cB l;have hp:=(fe _ _).1 q;have x:S.kid f.2.1 f.1=-1:=hp.2.1;have z:S.u m.root.toNat=-1:=by
  cases m with
  |nil=>exact absurd rfl l
  |node y a b=>exact r.2.1
 have A:f.1<n:=c _ (by simp[ed]);have B:m.root.toNat<n:=c _ (by simp[g]);have i:f.1≠m.root.toNat:=λe=>by
  rw[θ] at o;exact o.2.2 _ g f.1 (by simp[ed]) e.symm
 have k:=BF bt ba n S f.1 m.root.toNat f.2.1 w h A B i z x;rw[←v] at k;refine k.mono ?_;rintro e w' ⟨rfl,s,d⟩;refine⟨rfl,d,_,s,t,λy p=>u y (λe=>p ?_) (λe=>p ?_)⟩
 .rw[e];simp[ed]
 .rw[e];simp[g]
def Ox(h:bL w bt ba n S){P:List Fr}{x:Nat}{l r:BT}(a:dL S (-1) (ak P (.node x l r)).root (ak P (.node x l r)))(b:x<n):
  Calls prog 240 #[(bt:Nat),(x:Int)] w λe w'=>e=.returned (.tuple #[(tv (Eu P):Int),.bool (tb (Eu P))])/\∃k,w'=w.drewN k:=by
 have k:=Xc bt ba n S (x:Int) w h;have e:qV n S (x:Int)=Eu P:=by
  unfold qV;rw[Δ ω,π];exact((fe _ _).1 a).1.2.1
 rw[e] at k;exact k
def EI(h:bL w bt ba n S){p:Int}{x:Nat}{l r:BT}(a:dL S p x (.node x l r))(b:x<n):
  Calls prog 238 #[(bt:Nat),(x:Int)] w λe w'=>e=.returned (.tuple #[(tv l.root:Int),.bool (tb l.root)])/\∃k,w'=w.drewN k:=by
 have e:iA n S (x:Int) false=l.root:=by
  unfold iA TS.kid;rw[Δ ω];simp only[π];exact a.2.2.1.root
 have k:=Cu bt ba n S (x:Int) w h;rw[e] at k;exact k
def xK(h:bL w bt ba n S){p:Int}{x:Nat}{l r:BT}(a:dL S p x (.node x l r))(b:x<n):
  Calls prog 239 #[(bt:Nat),(x:Int)] w λe w'=>e=.returned (.tuple #[(tv r.root:Int),.bool (tb r.root)])/\∃k,w'=w.drewN k:=by
 have e:iA n S (x:Int) true=r.root:=by
  unfold iA TS.kid;rw[Δ ω];simp only[if_true,π];exact a.2.2.2.root
 have k:=q9 bt ba n S (x:Int) w h;rw[e] at k;exact k
def Fh(h:bL w bt ba n S){f:Fr}{P:List Fr}{x:Nat}{l r:BT}(j:dL S (-1) (ak (f::P) (.node x l r)).root (ak (f::P) (.node x l r)))(m:(ak (f::P) (.node x l r)).nodes.Nodup)(p:f.1<n):
  ∃z:Int,(z == (x:Int))=f.2.1/\Calls prog 239 #[(bt:Nat),(f.1:Int)] w λe w'=>e=.returned (.tuple #[(tv z:Int),.bool (tb z)])/\∃k,w'=w.drewN k:=by
 refine⟨S.r f.1,?_,?_⟩
 .have hp:=(fe _ _).1 j;obtain⟨b,c,_,_⟩:=hp.2;unfold TS.kid at b c;cases hs:f.2.1
  .rw[hs] at b c;simp only[Bool.not_false,if_true] at c;have g:=c.root;have o:x∉f.2.2.nodes:=λi=>by
    have d:=(aV (f::P) (.node x l r)).nodup_iff.1 m;rw[θ] at d;exact d.2.2 x (by simp[BT.nodes]) x (by simp[ed,i]) rfl
   have:S.r f.1≠(x:Int):=λe=>by
    rw[g] at e
    by_cases a:f.2.2=.nil
    .rw[a] at e;have e:(-1:Int)=x:=e;omega
    .have:=(cB a).1
     grind
   simpa using this
  .rw[hs] at b;simp only[if_true] at b;rw[b];simp[BT.root]
 .have k:=q9 bt ba n S (f.1:Int) w h;have e:iA n S (f.1:Int) true=S.r f.1:=by unfold iA TS.kid;rw[Δ ω];simp
  rw[e] at k;exact k
end
def oU:List Fr->BT->BT->BT
 | [],_,m=>m
 |f::P,old,m=>if f.2.1 then lL P (lZ f old.rank) f.1 f.2.2 m else lL P (lZ f old.rank) f.1 m f.2.2
def rG(f:Fr)(P:List Fr)(old m:BT):oU (f::P) old m=if f.2.1 then lL P (lZ f old.rank) f.1 f.2.2 m else lL P (lZ f old.rank) f.1 m f.2.2:=rfl
def wF:∀(P:List Fr) (old m:BT),(oU P old m).nodes.Perm (ak P m).nodes
 | [],_,_=>ό _
 |f::P,old,m=>by
  rw[rG]
  show List.Perm _ (ak P (bN f m)).nodes
  unfold bN
  split
  .exact sG _ _ _ _ _
  .exact sG _ _ _ _ _
def JU(f:Fr)(P:List Fr)(old m:BT):(oU (f::P) old m).root=(ak (f::P) m).root:=by
 rw[rG]
 show _=(ak P (bN f m)).root
 unfold bN
 split
 .exact wy _ _ _ _ _
 .exact wy _ _ _ _ _
def Ke{A:NS}:∀(P:List Fr) (old m:BT),Heap A (ak P m)->Heap A (oU P old m)
 | [],_,_,h=>h
 |f::P,old,m,h=>by
  have h1:Heap A (ak P (bN f m)):=h;rw[rG];unfold bN at h1
  split at h1
  .rename_i e;rw[Δ e];exact wN _ _ _ _ _ h1
  .rename_i e;rw[Γ e];exact wN _ _ _ _ _ h1
def Jt:∀(P:List Fr) (old m:BT),Lean m->EA P old.rank->Lean (oU P old m)
 | [],_,_,h,_=>h
 |f::P,old,m,h,hp=>by
  rw[rG]
  split
  .exact wE _ _ _ _ _ hp.1 h hp.2.2
  .exact wE _ _ _ _ _ h hp.1 hp.2.2
noncomputable def Ky(A:NS)(t:BT)(x:Nat):BT×Nat:=
 (oU (pathOf t x).1 (.node x (pathOf t x).2.1 (pathOf t x).2.2) (aI aB A (pathOf t x).2.1 (pathOf t x).2.2).1,(aI aB A (pathOf t x).2.1 (pathOf t x).2.2).2)
noncomputable def Wo(A':NS)(t:BT)(x:Nat):BT×Nat:=
 match(pathOf t x).1 with
 | []=>(t,0)
 |_::_=>aI aB A' (oU (pathOf t x).1 (.node x (pathOf t x).2.1 (pathOf t x).2.2) .nil) (.node x (pathOf t x).2.1 (pathOf t x).2.2)
def sK{P:List Fr}{x:Nat}{l r:BT}(f:(ak P (.node x l r)).nodes.Nodup):
  (x∉l.nodes/\x∉r.nodes/\x∉ed P)/\(l.nodes++r.nodes).Nodup/\(∀y,y∈l.nodes->y∉ed P)/\(∀y,y∈r.nodes->y∉ed P)/\(ed P).Nodup:=by
 have h:=(aV P (.node x l r)).nodup_iff.1 f;rw[θ] at h;obtain⟨b,e,c⟩:=h;simp only[BT.nodes,Ζ,τ,not_or] at b;exact⟨⟨b.1.1,b.1.2,λa=>c x (by simp[BT.nodes]) x a rfl⟩,b.2,λy d a=>c y (by simp[BT.nodes,d]) y a rfl,λy d a=>c y (by simp[BT.nodes,d]) y a rfl,e⟩
def JR{up:Nat->BT->BT->BT}(U:Vf up){A:NS}{P:List Fr}{x:Nat}{l r:BT}(g:(ak P (.node x l r)).nodes.Nodup)(b:Heap A (ak P (.node x l r))):
  (x::(ak P (aI up A l r).1).nodes).Perm (ak P (.node x l r)).nodes/\Heap A (ak P (aI up A l r).1)/\(aI up A l r).1.nodes.Perm (l.nodes++r.nodes):=by
 obtain⟨a,c⟩:=kK U A _ l r (Θ _);have d:=sK g;have hs:=vw b;have e:=c hs.2.2.1 hs.2.2.2 d.2.1;refine⟨?_,vW b e (λy f=>?_),a⟩
 .refine((((aV P _).trans (a.append_right _)).cons x)).trans ?_;exact(aV P (.node x l r)).symm
 .have:=a.mem_iff.1 f;simp only[BT.nodes,ρ];exact Β this
section
variable{w:World}{B:LB}{F:List Nat}{gt ct:Nat}{A:NS}{st:Nat}{S:TS}{rk:Nat->Nat}{ai:List Int}
def Ch(h:mf w B F gt ct A st S rk ai){f:Fr}{P:List Fr}{old m:BT}(n:dL S (-1) (ak (f::P) m).root (ak (f::P) m))(l:gz rk m)(d:Xm rk (f::P) old.rank)(o:(ak (f::P) m).nodes.Nodup)
  (k:∀y,y∈(ak (f::P) m).nodes->y<A.cs.length):
  Calls prog 235 #[B.n0,(f.1:Int)] w λe w'=>e=.returned (.tuple #[])/\ae [B.ba,B.br] w w'/\
   ∃g i,mf w' B F gt ct A st g i ai/\wK S rk (oU (f::P) old m) (ak (f::P) m).nodes g i:=by
 rw[rG];have b:dL S (-1) (ak P (bN f m)).root (ak P (bN f m)):=n;have c:(ak P (bN f m)).nodes.Nodup:=o;have a:∀y,y∈(ak P (bN f m)).nodes->y<A.cs.length:=k
 show Calls _ _ _ _ λe w'=>e=_/\_/\∃g i,_/\wK S rk _ (ak P (bN f m)).nodes g i
 by_cases hs:f.2.1=true
 .have j:bN f m=.node f.1 f.2.2 m:=by unfold bN;rw[Δ hs]
  rw[j] at b c a ⊢;rw[Δ hs];exact Ee h ⟨b,ό _,d.1,l,d.2.1,d.2.2,λy _=>⟨⟨rfl,rfl,rfl⟩,rfl⟩,rfl⟩ c a
 .have j:bN f m=.node f.1 m f.2.2:=by unfold bN;rw[Γ hs]
  rw[j] at b c a ⊢;rw[Γ hs];exact Ee h ⟨b,ό _,l,d.1,d.2.1,d.2.2,λy _=>⟨⟨rfl,rfl,rfl⟩,rfl⟩,rfl⟩ c a
end
def Wj(n:Nat):tv (n:Int)=n:=by unfold tv;rw[Γ ω]
def He(n:Nat):tb (n:Int)=true:=by unfold tb;simp
section
variable{w:World}{B:LB}{F:List Nat}{gt ct:Nat}{A:NS}{st:Nat}{tr:Nat->BT}{S:TS}{rk:Nat->Nat}{ai:List Int}
def abD(w':World)(B:LB)(F:List Nat)(gt ct:Nat)(A:NS)(st:Nat)(S:TS)(rk:Nat->Nat)(ai:List Int)(g x:Nat)(P:List Fr)(X:List Nat)(T:BT):Prop:=
 ∃S' nN iV,mf w' B F gt ct (aS A x) st S' nN iV/\dL S' (-1) T.root T/\gz nN T/\(∀y,y∉X->S.at S' y/\nN y=rk y)/\(S'.l x=-1/\S'.r x=-1/\S'.u x=-1)/\
  ∀q,q<A.hs.length->iV.getD q 0=if P=[]/\q=g then T.root else ai.getD q 0
def gU{S c a:TS}{x:Nat}(h:S.at c x)(b:c.at a x):S.at a x:=⟨b.1.trans h.1,b.2.1.trans h.2.1,b.2.2.trans h.2.2⟩
def Ga(hM:mf w B F gt ct A st S rk ai){g x:Nat}{P:List Fr}{l r:BT}(hin:bY A (x:Int)=true)(hg:(A.c x).i=g)(hgt:g<ai.length)
  (hT:dL S (-1) (ak P (.node x l r)).root (ak P (.node x l r))) (hn:(ak P (.node x l r)).nodes.Nodup) (hR:gz rk (ak P (.node x l r))) (O:∀y,y∈(ak P (.node x l r)).nodes->bY A (y:Int)=true):
  Calls prog 228 #[B.n0,(x:Int)] w λe w'=>e=.returned true/\ae (B.blk F gt) w w'/\
   abD w' B F gt ct A (dw st (aI aB A l r).2) S rk ai g x P (ak P (.node x l r)).nodes (oU P (.node x l r) (aI aB A l r).1):=by
 have hxl:=((aj A x).1 hin).1;have hlt:∀y,y∈(ak P (.node x l r)).nodes->y<A.cs.length:=λy c=>((aj A y).1 (O y c)).1;have kh:=bX hM.cells x hin;rw[hg] at kh;have h0:=hM.h0;have HM:=χ hM;have XD:=sK hn;have hrr:=(AU P (.node x l r)).1 hR;have mp:=(kK mQ A _ l r (Θ _)).1;have qj:=χ hM.cF;have hsep:=χ (ψ hM.sep hM.bQ);have u:=χ (ψ hT (ψ hn (ψ hrr (ψ O hlt))));have E:=χ XD;obtain⟨m,k,X⟩:∃m k,aI aB A l r=(m,k):=⟨_,_,rfl⟩;rw[X] at mp;rw[X];have HMP:=χ mp;have HMK:=χ X;have QV:=χ hin;clear hM hT hn hR O hlt XD hrr mp X hin hg
 go_enter func228,ntmps228
 go_wp2_with (first|(((with_reducible refine kh.mono ?_));rintro e w1 ⟨rfl,gK,hu1⟩))
 have M:=HM.out.cK hu1 gK (λy c=>Α c) rfl rfl;have q1:∀d,(w1.drewN d).cell? ⟨B.n0,1,none⟩=some (B.bt:V):=λd=>M.h1;have kl:=λd=>EI (M.trees.drewN d) ((fe _ _).1 u.out.1).1 hxl;have kr:=λd=>xK (M.trees.drewN d) ((fe _ _).1 u.out.1).1 hxl;have jZ:=χ M;clear M gK kh h0
 go_quiet ((first
  |(go_at_call 238;exact Calls.quiet_of (kl _))
  |(go_at_call 239;exact Calls.quiet_of (kr _))
  | (go_at_call 237;exact Calls.quiet_of_same (pF _ _))))
 obtain⟨w2,Y⟩:∃w2,w2=w1.drewN nq:=⟨_,rfl⟩;have u2:ae F w w2:=by rw[Y];exact hu1.drewN nq
 have Z:mf w2 B F gt ct A st S rk ai:=by rw[Y];exact jZ.out.ag ((ae.refl [] w1).drewN nq)
 rw[←Y];clear Y kl kr q1 jZ hu1;have kc1:=pE Z.trees (f:=(x,false,r)) (P:=P) (t:=l) u.out.1 u.out.2.1 u.out.2.2.2.2;have g2:=Z.h1;have pW:=χ Z;clear Z
 go_wp2_with ((((with_reducible refine kc1.mono ?_));rintro e w3 ⟨rfl,R,S3,Dl,hl3,hp3,hs3⟩;(have g3:=(pW.out.iT R Dl).h1);clear g2))
 have jH:=pW.out.iT R Dl;have Sa:dL S3 (-1) (ak ((x,true,.nil)::P) r).root (ak ((x,true,.nil)::P) r):=hp3;have N9:(ak ((x,true,.nil)::P) r).nodes.Nodup:=by
  have e:=(aV P (.node x .nil r));refine e.nodup_iff.2 ?_;obtain⟨⟨D,L,j⟩,o,a5,a6,a7⟩:=E.out;simp only[BT.nodes,Ϛ,θ] at o ⊢;refine⟨Ζ.2 ⟨L,o.2.1⟩,a7,λy c z hz e=>?_⟩;subst e;rcases ρ.1 c with e|c
  .exact j (by rw[←e];exact hz)
  .exact a6 y c hz
 have Fz:∀y,y∈(ak ((x,true,.nil)::P) r).nodes->y∈(ak P (.node x l r)).nodes:=λy c=>by
  have n:y∈(ak P (.node x .nil r)).nodes:=c;rw[aJ] at n ⊢;simp only[BT.nodes,Ϛ,ρ,τ] at n ⊢;rcases n with(n|n)|n
  .exact Α (Α n)
  .exact Α (Β (Β n))
  .exact Β n
 have kc2:=pE jH.trees (f:=(x,true,.nil)) (P:=P) (t:=r) Sa N9 (λy c=>u.out.2.2.2.2 y (Fz y c));have TF:l.nodes.Nodup/\∀y,y∈l.nodes->y∉(ak ((x,true,.nil)::P) r).nodes:=by
  obtain⟨⟨D,L,j⟩,o,a5,a6,a7⟩:=E.out;rw[θ] at o;refine⟨o.1,λy c i=>?_⟩;have n:y∈(ak P (.node x .nil r)).nodes:=i;rw[aJ] at n;simp only[BT.nodes,Ϛ,ρ] at n;rcases n with(n|n)|n
  .exact D (by rw[←n];exact c)
  .exact o.2.2 y c y n rfl
  .exact a5 y c n
 have Es:=χ jH;have H3:=χ (ψ hl3 (ψ hs3 (ψ Fz TF)));have u3:ae (B.ba::F) w w3:=(u2.mono (by simp;intro x hx;exact Β hx)).trans (R.mono σ);clear jH Dl hl3 hp3 Sa hs3 N9 Fz TF kc1 R u2
 go_wp2_with ((((with_reducible refine kc2.mono ?_));rintro e w4 ⟨rfl,iK,S4,Tc,hr4,hp4,hs4⟩))
 have uD:=Es.out.iT iK Tc;have hl4:dL S4 (-1) l.root l:=H3.out.1.frame (λy c=>hs4 y (H3.out.2.2.2.2 y c));have km:=sW uD hl4 hr4 E.out.2.1 (λy c=>u.out.2.2.2.1 y (aJ.2 (Α (by simp only[BT.nodes];exact Λ _ c)))) u.out.2.2.1.1.2.1 u.out.2.2.1.1.2.2;rw[HMK.out] at km;have hp4':dL S4 (-1) (ak P (.node x .nil .nil)).root (ak P (.node x .nil .nil)):=hp4;have u4:ae (B.ba::F) w w4:=u3.trans (iK.mono σ);have f4:∀y,y∉(ak P (.node x l r)).nodes->S.at S4 y:=λy c=>gU (H3.out.2.1 y c) (hs4 y (λi=>c (H3.out.2.2.1 y i)));have H4:=χ (ψ hp4' f4)
 clear uD Tc hr4 hp4 hp4' hs4 hl4 kc2 iK u3 f4 H3 Es pW g3
 go_wp2_with ((((with_reducible refine km.mono ?_));rintro e w5 ⟨rfl,dD,S5,XF,wY,EJ,Nl,I⟩;(have g5:=wY.h1)))
 have XK:dL S5 (-1) (ak P (.node x .nil .nil)).root (ak P (.node x .nil .nil)):=H4.out.1.frame (λy c=>(I y (λi=>by
  obtain⟨⟨D,L,j⟩,o,a5,a6,a7⟩:=E.out;rw[aJ] at c;simp only[BT.nodes,Ϛ,ρ,ς,or_false] at c;rw[τ] at i;rcases c with e|c
  .subst e;rcases i with i|i;exact D i;exact L i
  .rcases i with i|i;exact a5 y i c;exact a6 y i c)).1)
 have f5:∀y,y∉(ak P (.node x l r)).nodes->S.at S5 y/\XF y=rk y:=λy c=>by
  have G:y∉l.nodes++r.nodes:=λi=>c (aJ.2 (Α (by simp only[BT.nodes];exact Λ _ i)));exact⟨gU (H4.out.2 y c) (I y G).1,(I y G).2⟩
 have OU:Xm XF P (BT.node x l r).rank:=u.out.2.2.1.2.frame (λy c=>(I y (λi=>by
  rw[τ] at i;rcases i with i|i
  .exact E.out.2.2.1 y i c
  .exact E.out.2.2.2.1 y i c)).2)
 have u5:ae (B.blk F gt) w w5:=(u4.mono (λy c=>by simp only [LB.blk,ρ] at c ⊢;rcases c with h|h<;>simp [h])).trans (dD.mono (λy c=>by
   have:=qj.out;simp only[ρ,ς,or_false] at c;simp only[LB.blk,ρ];rcases c with rfl|rfl|rfl
   .simp[this]
   .simp
   .simp))
 have ku:=Ox wY.trees XK hxl;have v:=χ wY;have H5:=χ (ψ XK (ψ f5 (ψ OU (ψ EJ Nl))));clear wY EJ Nl I km u4 H4 XK f5 OU dD;have hmm:∀y,y∈m.nodes->y∉ed P/\y≠x:=λy c=>by
  obtain⟨⟨D,L,j⟩,o,a5,a6,a7⟩:=E.out;have G:=HMP.out.mem_iff.1 c;rw[τ] at G;rcases G with G|G
  .exact⟨a5 y G,λe=>D (by rw[←e];exact G)⟩
  .exact⟨a6 y G,λe=>L (by rw[←e];exact G)⟩
 have hmx:∀y,y∈m.nodes->y∈(ak P (.node x l r)).nodes:=λy c=>aJ.2 (Α (by
  have G:=HMP.out.mem_iff.1 c
  simp only [BT.nodes,ρ];exact Β G))
 have Il:m.nodes.Nodup:=HMP.out.nodup_iff.2 E.out.2.1;have N:=χ (ψ hmm (ψ hmx Il));clear hmm hmx Il;have sp:=hsep.out;have s1:B.n0≠gt:=sp.1.1.2.2.2;clear sp;cases P with
 |nil=>
  rw[show Eu ([]:List Fr)=-1 from rfl,show tv (-1)=0 from rfl,show tb (-1)=false from rfl] at ku
  go_wp2_with (first
   |(((with_reducible refine ku.mono ?_));rintro e w6 ⟨rfl,kk,Si⟩;(have C:ae [] w5 w6:=by(rw[Si];exact(ae.refl _ _).drewN kk));clear Si;(have g60:=(v.out.ag C).h0);(have g63:=(v.out.ag C).h3);(have d6:=(v.out.ag C).iP.cell g hgt);(have f6:=(v.out.ag C).iP.free g);(have kd:=ik ((v.out.ag C).mW g m.root).cells x QV.out))
   | (((with_reducible refine kd.mono ?_));rintro e w7 ⟨rfl,hC7,lT⟩))
  go_ret;obtain⟨b1,b2,b3,b4,b5⟩:=H5.out;have bx:=((fe _ _).1 b1).1;refine⟨rfl,((u5.trans (C.mono σ)).setCell (Α (by simp[LB.blk])) _).trans (lT.mono (λy c=>by simp only[LB.blk,ρ];simp[c])),S5,XF,ai.set g m.root,((v.out.ag C).mW g m.root).cK lT hC7 (λy c=>Α c) (fF _ _) (by rw[jm]),b4,b5,b2,⟨bx.2.2.1.root,bx.2.2.2.root,bx.2.1⟩,λq hq=>?_⟩
  by_cases e:q=g
  .rw[Δ ⟨rfl,e⟩,e,φ,ύ,Δ rfl,Δ hgt];rfl
  .rw[Γ (λh=>e h.2),φ,ύ,Γ (λh=>e h.symm),←φ]
 |cons f p=>
  rw[show Eu (f::p)=(f.1:Int) from rfl,Wj,He] at ku;have hfl:f.1<A.cs.length:=u.out.2.2.2.2 f.1 (aJ.2 (Β (by simp[ed])));have KQ:(ak (f::p) (.node x .nil .nil)).nodes.Nodup:=by
   refine(aV (f::p) (.node x .nil .nil)).nodup_iff.2 ?_;obtain⟨⟨D,L,j⟩,o,a5,a6,a7⟩:=E.out;simp only[BT.nodes,Ϛ,List.singleton_append,Ζ];exact⟨j,a7⟩
  have MH:∀y,y∈(ak (f::p) (.node x .nil .nil)).nodes->y∈(ak (f::p) (.node x l r)).nodes:=λy c=>by
   rw[aJ] at c ⊢;simp only[BT.nodes,Ϛ,ρ,ς,or_false] at c;rcases c with c|c
   .exact Α (by simp[BT.nodes,c])
   .exact Β c
  have ksd:∀W,ae [] w5 W->∃z:Int,(z == (x:Int))=f.2.1/\Calls prog 239 #[B.bt,(f.1:Int)] W λe w'=>e=.returned (.tuple #[(tv z:Int),.bool (tb z)])/\∃k,w'=W.drewN k:=λW hW=>Fh (v.out.ag hW).trees H5.out.1 KQ hfl;have Im:=λW (hW:ae [] w5 W)=>pE (v.out.ag hW).trees (f:=f) (P:=p) (t:=.node x .nil .nil) H5.out.1 KQ (λy c=>u.out.2.2.2.2 y (MH y c));rw[show BT.root (.node x .nil .nil)=(x:Int) from rfl] at Im;generalize hcv:cutV f (.node x .nil .nil)=cv at Im;generalize hcb:tb (x:Int)=cb at Im;have Lb:=χ (ψ KQ MH);clear KQ MH hcv hcb
  by_cases H:m=.nil
  .have hmb:(m.root != -1)=false:=by rw[H];rfl
   have HMZ:=χ H;clear H
   go_wp2_with (first
    |(((with_reducible refine ku.mono ?_));rintro e w6 ⟨rfl,kk,Si⟩;(have C:ae [] w5 w6:=by(rw[Si];exact(ae.refl _ _).drewN kk));clear Si;(have g61:=(v.out.ag C).h1);obtain⟨z,hz,kr⟩:=ksd w6 C)
    |(((with_reducible refine kr.mono ?_));rintro e w7 ⟨rfl,kk7,J⟩;(have Q:ae [] w5 w7:=by(rw[J];exact C.drewN kk7));clear J;(have g71:=(v.out.ag Q).h1);(have kc:=Im w7 Q))
    |((with_reducible refine aP (pF _ _) ?_))
    |(((with_reducible refine kc.mono ?_));rintro e w8 ⟨rfl,A7,S8,K,hx8,hp8,T⟩;(have kmd:=Ch ((v.out.ag Q).iT A7 K) (old:=.node x l r) hp8 (by trivial) H5.out.2.2.1 (by first|(refine(aV (f::p) .nil).nodup_iff.2 ?_;simpa[BT.nodes] using E.out.2.2.2.2)) (by intro y c;rw[aJ] at c;exact u.out.2.2.2.2 y (aJ.2 (Β (by simpa[BT.nodes] using c))))))
    |(((with_reducible refine kmd.mono ?_));rintro e w9 ⟨rfl,y9,S9,rk9,s,U⟩;(have g90:=s.h0);(have kd:=ik s.cells x QV.out))
    | (((with_reducible refine kd.mono ?_));rintro e w10 ⟨rfl,Lm,Cc⟩))
   go_ret;have hz:=HMZ.out;subst hz;refine⟨rfl,((((u5.trans (Q.mono σ)).trans (A7.mono (by simp[LB.blk]))).trans (y9.mono (by simp[LB.blk]))).trans (Cc.mono (λy c=>by simp only[LB.blk,ρ];simp[c]))),S9,rk9,ai,s.cK Cc Lm (λy c=>Α c) (fF _ _) (by rw[jm]),U.Az,U.isR,λy c=>?_,?_,λq hq=>by rw[Γ σ]⟩
   .have D:=H5.out.2.1 y c;have L:=T y (λi=>c (Lb.out.2 y i));have j:=U.far y (λi=>c (aJ.2 (Β (by rw[aJ] at i;simpa[BT.nodes] using i))));exact⟨gU (gU D.1 L) j.1,j.2.trans D.2⟩
   .have j:=(U.far x (λi=>E.out.1.2.2 (by rw[aJ] at i;simpa[BT.nodes] using i))).1;have o:=hx8;exact⟨j.1.trans o.2.2.1.root,j.2.1.trans o.2.2.2.root,j.2.2.trans o.2.1⟩
  .have hmb:(m.root != -1)=true:=by
    have:=(cB H).2;simp;omega
   have HMZ:=χ H;have hxm:∀y,y∈m.nodes->y∉(ak (f::p) (.node x .nil .nil)).nodes:=λy c i=>by
    have b1:=N.out.1 y c;rw[aJ] at i;simp only[BT.nodes,Ϛ,ρ,ς,or_false] at i;rcases i with i|i
    .exact b1.2 i
    .exact b1.1 i
   have hnd:(m.nodes++ed (f::p)).Nodup:=by
    rw[θ];exact⟨N.out.2.2,E.out.2.2.2.2,λa ha b hb e=>(N.out.1 a ha).1 (by rw[e];exact hb)⟩
   have hsm:∀y,y∈m.nodes++ed (f::p)->y∈(ak (f::p) (.node x l r)).nodes:=λy c=>by
    rw[τ] at c;rcases c with c|c
    .exact N.out.2.1 y c
    .exact aJ.2 (Β c)
   have Ta:=χ (ψ hxm (ψ hnd hsm));clear H hxm hnd hsm
   go_wp2_with (first
    |(((with_reducible refine ku.mono ?_));rintro e w6 ⟨rfl,kk,Si⟩;(have C:ae [] w5 w6:=by(rw[Si];exact(ae.refl _ _).drewN kk));clear Si;(have g61:=(v.out.ag C).h1);obtain⟨z,hz,kr⟩:=ksd w6 C)
    |(((with_reducible refine kr.mono ?_));rintro e w7 ⟨rfl,kk7,J⟩;(have Q:ae [] w5 w7:=by(rw[J];exact C.drewN kk7));clear J;(have g71:=(v.out.ag Q).h1);(have kc:=Im w7 Q))
    |((with_reducible refine aP (pF _ _) ?_))
    |(((with_reducible refine kc.mono ?_));rintro e w8 ⟨rfl,A7,S8,K,hx8,hp8,T⟩;(have g81:=((v.out.ag Q).iT A7 K).h1);(have khg:=Fy K hp8 (H5.out.2.2.2.1.frame (λy c=>T y (Ta.out.1 y c))) HMZ.out Ta.out.2.1 (λy c=>u.out.2.2.2.2 y (Ta.out.2.2 y c))))
    |(((with_reducible refine khg.mono ?_));rintro e w8b ⟨rfl,hu8b,S8b,hT8b,hp8b,hs8b⟩;(have kmd:=Ch (((v.out.ag Q).iT A7 K).iT hu8b hT8b) (old:=.node x l r) hp8b H5.out.2.2.2.2 H5.out.2.2.1 ((aV (f::p) m).nodup_iff.2 Ta.out.2.1) (λy c=>u.out.2.2.2.2 y (Ta.out.2.2 y ((aV (f::p) m).mem_iff.1 c)))))
    |(((with_reducible refine kmd.mono ?_));rintro e w9 ⟨rfl,y9,S9,rk9,s,U⟩;(have g90:=s.h0);(have kd:=ik s.cells x QV.out))
    | (((with_reducible refine kd.mono ?_));rintro e w10 ⟨rfl,Lm,Cc⟩))
   go_ret;refine⟨rfl,(((((u5.trans (Q.mono σ)).trans (A7.mono (by simp[LB.blk]))).trans (hu8b.mono (by simp[LB.blk]))).trans (y9.mono (by simp[LB.blk]))).trans (Cc.mono (λy c=>by simp only[LB.blk,ρ];simp[c]))),S9,rk9,ai,s.cK Cc Lm (λy c=>Α c) (fF _ _) (by rw[jm]),U.Az,U.isR,λy c=>?_,?_,λq hq=>by rw[Γ σ]⟩
   .have D:=H5.out.2.1 y c;have L:=T y (λi=>c (Lb.out.2 y i));have a2b:=hs8b y (λi=>c (Ta.out.2.2 y i));have j:=U.far y (λi=>c (Ta.out.2.2 y ((aV (f::p) m).mem_iff.1 i)));exact⟨gU (gU (gU D.1 L) a2b) j.1,j.2.trans D.2⟩
   .have xL:x∉m.nodes++ed (f::p):=λi=>by
     rw[τ] at i;rcases i with i|i
     .exact(N.out.1 x i).2 rfl
     .exact E.out.1.2.2 i
    have j:=gU (hs8b x xL) (U.far x (λi=>xL ((aV (f::p) m).mem_iff.1 i))).1;have o:=hx8;exact⟨j.1.trans o.2.2.1.root,j.2.1.trans o.2.2.2.root,j.2.2.trans o.2.1⟩
def Ag(h:lY w B F gt ct A st tr)(g x:Nat)(s:x∈(tr g).nodes):
  Calls prog 228 #[B.n0,(x:Int)] w λe w'=>e=.returned true/\ae (B.blk F gt) w w'/\
   lY w' B F gt ct (aS A x) (dw st (Ky A (tr g) x).2) (λq=>if q=g then(Ky A (tr g) x).1 else tr q):=by
 obtain⟨S,rk,ai,k,b,v,z⟩:=h;have m:=(b.mem g x).1 s;have n:bY A (x:Int)=true:=(aj A x).2 ⟨m.2.1,ω⟩;have e:=oM s;unfold Ky;generalize (pathOf (tr g) x).1=P at *;generalize (pathOf (tr g) x).2.1=l at *;generalize (pathOf (tr g) x).2.2=r at *;have d:g<ai.length:=by rw[k.iY];have:=(k.cells.ok.nat x m.2.1);omega
 have o:g<A.hs.length:=by rw[←k.iY];exact d
 have D:=b.Az g;have p:=b.nd g;have E:=b.heap g;have i:=z g;have G:=v g;rw[e] at D p E i G;obtain⟨Q,R,X⟩:=JR mQ p E;obtain⟨C,T⟩:=(vV _ _).1 G;have U:=sH A _ l r (Θ _) C.2.1 C.2.2;refine(Ga k n m.2.2 d D p i (λy c=>?_)).mono ?_
 .rw[←e] at c;have:=(b.mem g y).1 c;exact(aj A y).2 ⟨this.2.1,ω⟩
 .rintro W w' ⟨rfl,I,J,t,iV,K,L,M,u,N,O⟩;refine⟨rfl,I,J,t,iV,K,b.del s L ?_ (Ke _ _ _ R) (λy c=>(u y (by rw[←e];exact c)).1) N (λq H=>?_),λq=>?_,λq=>?_⟩
  .rw[e];exact((wF _ _ _).cons x).trans Q
  .rw[O q H]
   by_cases a:q=g
   .rw[Δ a]
    by_cases hp:P=[]
    .rw[Δ ⟨hp,a⟩]
    .rw[Γ (λh=>hp h.1),a,b.top g o,e];cases P with
     |nil=>exact absurd rfl hp
     |cons f P2=>rw[JU];exact kZ _ _ _ _
   .rw[Γ a,Γ (λh=>a h.2)]
  .show Lean (if q=g then _ else _)
   split
   .exact Jt _ _ _ U T
   .exact v q
  .show gz t (if q=g then _ else _)
   split
   .exact M
   .rename_i H
    refine(z q).frame (λy c=>(u y (λj=>?_)).2);rw[←e] at j;have Y:=(b.mem g y).1 j;have Z:=(b.mem q y).1 c;omega
end
def Jm{A:NS}{P:List Fr}{x:Nat}{l r:BT}{k s:Int}(b:iX A x k s=true)(c:x<A.cs.length)(d:(ak P (.node x l r)).nodes.Nodup)(f:Heap A (ak P (.node x l r))):
  Heap (aA A x k s) (ak P .nil)/\Heap (aA A x k s) (.node x l r):=by
 have g:=sK d;have hs:=vw f;refine⟨(vW (t':=.nil) f trivial (λy a=>by cases a)).frame (λy a=>?_),Vg b c hs ?_⟩
 .rw[vk b c,Γ];intro e;rw[e,aJ] at a;rcases a with a|a
  .cases a
  .exact g.1.2.2 a
 .have:=(aV P (.node x l r)).nodup_iff.1 d
  grind
section
variable{w:World}{B:LB}{F:List Nat}{gt ct:Nat}{A:NS}{st:Nat}{tr:Nat->BT}{S:TS}{rk:Nat->Nat}{ai:List Int}
def LH(w':World)(B:LB)(F:List Nat)(gt ct:Nat)(A':NS)(st:Nat)(S:TS)(rk:Nat->Nat)(ai:List Int)(g:Nat)(X:List Nat)(T:BT):Prop:=
 ∃S' nN iV,mf w' B F gt ct A' st S' nN iV/\dL S' (-1) T.root T/\gz nN T/\(∀y,y∉X->S.at S' y/\nN y=rk y)/\
  ∀q,q<A'.hs.length->iV.getD q 0=if q=g then T.root else ai.getD q 0
def Uk(j:mf w B F gt ct A st S rk ai){g x:Nat}{l r:BT}{k s:Int}(hk:-9223372036854775808<=k/\k<=9223372036854775807/\0<=s/\s<=18446744073709551615)(I:iX A x k s=true)
  (J:(A.c x).i=g) (hg0:0<g) (d:ai.getD g 0=x) (i:x<A.cs.length) (K:dL S (-1) (BT.node x l r).root (.node x l r)) (P:gz rk (.node x l r)):
  Calls prog 227 #[B.n0,(x:Int),.agg #[k,.int .u64 s]] w λe w'=>e=.returned true/\ae (B.blk F gt) w w'/\
   LH w' B F gt ct (aA A x k s) st S rk ai g (BT.node x l r).nodes (.node x l r):=by
 have m:=gD A x k s;have T:=mX A x k s;have n:bY (aA A x k s) (x:Int)=true:=(aj _ x).2 ⟨by rw[m];exact i,by rw[iW I i,J];omega⟩;have u:((aA A x k s).c x).i=g:=by rw[iW I i,J]
 have v:S.u x=-1:=K.2.1;have z:ae [] w (w.alloc (.cells #[k,.int .u64 s] 97)):=(ae.refl _ _).alloc _;have M:=λW (H:ae [] (w.alloc (.cells #[k,.int .u64 s] 97)) W)=>iR (j.cells.ag (z.trans H)) x k s hk I;have N:=j.h0;have U:B.n0∉F:=j.bQ.1;have o:=j.lt;have p:w.heap.size∉F:=λhm=>by have:=o w.heap.size (by simp[LB.blk,hm]);omega
 have X:∀W,ae F (w.alloc (.cells #[k,.int .u64 s] 97)) W->W.cell? B.n0=some (B.c:V):=λW H=>H.kept (z.was N) U;have Y:∀W,ae F (w.alloc (.cells #[k,.int .u64 s] 97)) W->W.cell? w.heap.size=some (k:V):=λW h=>h.kept σ p;have Z:∀W,ae F (w.alloc (.cells #[k,.int .u64 s] 97)) W->W.cell? ⟨w.heap.size,1,none⟩=some (.int .u64 s):=λW h=>h.kept σ p;have HM:=χ j;have C:=χ (ψ d (ψ K P));clear j K P d o N J;generalize hA':aA A x k s=A' at *
 go_enter func227,ntmps227
 go_wp2
 go_region_held3 (ae F (w.alloc (.cells #[k,.int .u64 s] 97))) (exact ν)
  (((with_reducible refine(M _ β).mono ?_);rintro e Q ⟨rfl,L,t⟩;(have a:ae F (w.alloc (.cells #[k,.int .u64 s] 97)) Q:=ν)))
 have D:ae F w (w.alloc (.cells #[k,.int .u64 s] 97)):=z.mono σ;have b:=HM.out.cK (D.trans a) L (λy c=>Α c) m (by rw[T]);have O:=bX b.cells x n;rw[u] at O;have g10:=b.h0;have E:=χ b;have G:=χ (D.trans a);clear X Y Z M t a L b D
 go_wp2_with (first
  |(((with_reducible refine O.mono ?_));rintro e R ⟨rfl,f,a⟩;(have g21:=(E.out.cK a f (λy c=>Α c) rfl rfl).h1);(have kc:=Hg B.bt B.ba A'.cs.length S (x:Int) R (E.out.cK a f (λy c=>Α c) rfl rfl).trees (by unfold qV;rw[Δ ω,π];exact v)))
  | ((with_reducible refine aP kc ?_)))
 go_ret;refine⟨rfl,(G.out.trans a).mono (λy c=>by simp only[LB.blk,ρ];simp[c]),S,rk,ai,E.out.cK a f (λy c=>Α c) rfl rfl,C.out.2.1,C.out.2.2,λy _=>⟨⟨rfl,rfl,rfl⟩,rfl⟩,λq hq=>?_⟩
 by_cases e:q=g
 .rw[Δ e,e,C.out.1];rfl
 .rw[Γ e]
def Yh(G:mf w B F gt ct A st S rk ai){g x:Nat}{f:Fr}{P:List Fr}{l r:BT}{k s:Int}(hk:-9223372036854775808<=k/\k<=9223372036854775807/\0<=s/\s<=18446744073709551615)(hB:iX A x k s=true)
  (hg:(A.c x).i=g) (hg0:0<g) (hgt:g<ai.length) (H:ai.getD g 0=(ak (f::P) (.node x l r)).root) (hT:dL S (-1) (ak (f::P) (.node x l r)).root (ak (f::P) (.node x l r))) (hn:(ak (f::P) (.node x l r)).nodes.Nodup)
  (hR:gz rk (ak (f::P) (.node x l r))) (o:∀y,y∈(ak (f::P) (.node x l r)).nodes->bY A (y:Int)=true):
  Calls prog 227 #[B.n0,(x:Int),.agg #[k,.int .u64 s]] w λe w'=>e=.returned true/\ae (B.blk F gt) w w'/\
   LH w' B F gt ct (aA A x k s) (dw st (aI aB (aA A x k s) (oU (f::P) (.node x l r) .nil) (.node x l r)).2) S rk ai g (ak (f::P) (.node x l r)).nodes (aI aB (aA A x k s) (oU (f::P) (.node x l r) .nil) (.node x l r)).1:=by
 have J:=gD A x k s;have jw:=mX A x k s;have u:x<A.cs.length:=by
  have:=o x (aJ.2 (Α (by simp[BT.nodes])));exact((aj A x).1 this).1
 have X:bY (aA A x k s) (x:Int)=true:=(aj _ x).2 ⟨by rw[J];exact u,by rw[iW hB u,hg];omega⟩;have hi':((aA A x k s).c x).i=g:=by rw[iW hB u,hg]
 have uT:∀y,y∈(ak (f::P) (.node x l r)).nodes->bY (aA A x k s) (y:Int)=true:=λy c=>by
  have:=(aj A y).1 (o y c);exact(aj _ y).2 ⟨by rw[J];exact this.1,by rw[iW hB u];exact this.2⟩
 have E:∀y,y∈(ak (f::P) (.node x l r)).nodes->y<(aA A x k s).cs.length:=λy c=>((aj _ y).1 (uT y c)).1;have n:=(aV (f::P) (.node x l r)).nodup_iff.1 hn;have Y:=(AU _ _).1 hR;rw[θ] at n;have K:(ak (f::P) .nil).nodes.Nodup:=(aV (f::P) .nil).nodup_iff.2 (by simpa[BT.nodes] using n.2.1);have BZ:∀y,y∈(ak (f::P) .nil).nodes↔y∈ed (f::P):=λy=>by rw[aJ];simp[BT.nodes]
 have v:∀y,y∈(oU (f::P) (.node x l r) .nil).nodes↔y∈ed (f::P):=λy=>by rw[(wF _ _ _).mem_iff];exact BZ y
 have Z:(oU (f::P) (.node x l r) .nil).nodes.Nodup:=(wF _ _ _).nodup_iff.2 K;have uE:((oU (f::P) (.node x l r) .nil).nodes++(BT.node x l r).nodes).Nodup:=by
  rw[θ];exact⟨Z,n.1,λa ha b hb e=>n.2.2 b hb a ((v a).1 ha) e.symm⟩
 have Oy:∀y,y∈(oU (f::P) (.node x l r) .nil).nodes++(BT.node x l r).nodes->y∈(ak (f::P) (.node x l r)).nodes:=λy c=>by
  rw[τ,v] at c;rw[aJ];exact c.symm
 have hrt:(ak (f::P) (.node x l r)).root=(oU (f::P) (.node x l r) .nil).root:=by rw[JU];exact kZ _ _ _ _
 rw[hrt] at H;have u1:ae [] w (w.alloc (.cells #[k,.int .u64 s] 97)):=(ae.refl _ _).alloc _;have kp:=λW (p:ae [] (w.alloc (.cells #[k,.int .u64 s] 97)) W)=>iR (G.cells.ag (u1.trans p)) x k s hk hB;have h0:=G.h0;have wC:B.n0∉F:=G.bQ.1;have hlt:=G.lt;have L:w.heap.size∉F:=λD=>by have:=hlt w.heap.size (by simp[LB.blk,D]);omega
 have r0:∀W,ae F (w.alloc (.cells #[k,.int .u64 s] 97)) W->W.cell? B.n0=some (B.c:V):=λW p=>p.kept (u1.was h0) wC;have r1:∀W,ae F (w.alloc (.cells #[k,.int .u64 s] 97)) W->W.cell? w.heap.size=some (k:V):=λW h=>h.kept σ L;have r2:∀W,ae F (w.alloc (.cells #[k,.int .u64 s] 97)) W->W.cell? ⟨w.heap.size,1,none⟩=some (.int .u64 s):=λW h=>h.kept σ L;have HM:=χ G;have Zk:=χ (ψ G.sep G.bQ);have z:=χ (ψ hT (ψ hn (ψ Y (ψ uT E))));have HX:=χ (ψ uE Oy);have H0:=χ (ψ K (ψ BZ v))
 clear G hT hR hn o uT E n Y hlt h0 hg uE Oy K BZ v Z hrt wC L;generalize hA':aA A x k s=A' at *
 go_enter func227,ntmps227
 go_wp2
 go_region_held3 (ae F (w.alloc (.cells #[k,.int .u64 s] 97))) (exact ν)
  (((with_reducible refine(kp _ β).mono ?_);rintro e w1 ⟨rfl,gK,hu1⟩;(have d:ae F (w.alloc (.cells #[k,.int .u64 s] 97)) w1:=ν)))
 have uF:ae F w (w.alloc (.cells #[k,.int .u64 s] 97)):=u1.mono σ;have C:=HM.out.cK (uF.trans d) gK (λy c=>Α c) J (by rw[jw]);have kh:=bX C.cells x X;rw[hi'] at kh;have g10:=C.h0;have jZ:=χ C;have u01:=χ (uF.trans d);clear r0 r1 r2 kp hu1 d gK C uF;have Im:∀N,ae F w1 N->aD N B.c F A' st->_:=λN d j=>pE (jZ.out.cK d j (λy c=>Α c) rfl rfl).trees (f:=f) (P:=P) (t:=.node x l r) z.out.1 z.out.2.1 z.out.2.2.2.2
 rw[show BT.root (.node x l r)=(x:Int) from rfl,show cutV f (.node x l r)=(f.1:Int) by unfold cutV;rw[Γ (by show ¬(x:Int)=-1;omega)],He] at Im
 go_wp2_with (first
  |(((with_reducible refine kh.mono ?_));rintro e N ⟨rfl,j,d⟩;(have g21:=(jZ.out.cK d j (λy c=>Α c) rfl rfl).h1);(have kc:=Im N d j))
  |(((with_reducible refine kc.mono ?_));rintro e w3 ⟨rfl,O,S3,Dl,Q,R,T⟩;(have kmd:=Ch ((jZ.out.cK d j (λy c=>Α c) rfl rfl).iT O Dl) (old:=.node x l r) (m:=.nil) R trivial z.out.2.2.1.2 H0.out.1 (λy c=>z.out.2.2.2.2 y (aJ.2 (Β ((H0.out.2.1 y).1 c))))))
  | (((with_reducible refine kmd.mono ?_));rintro e M ⟨rfl,iK,S4,I,U,i⟩))
 have hx4:dL S4 (-1) (x:Int) (.node x l r):=dL.frame Q (λy c=>(i.far y (λD=>by
  have h1:=(H0.out.2.1 y).1 D;have h2:=(aV (f::P) (.node x l r)).nodup_iff.1 z.out.2.1;rw[θ] at h2
  exact h2.2.2 y c y h1 rfl)).1)
 have hr4:gz I (.node x l r):=z.out.2.2.1.1.frame (λy c=>(i.far y (λD=>by
  have h1:=(H0.out.2.1 y).1 D;have h2:=(aV (f::P) (.node x l r)).nodup_iff.1 z.out.2.1;rw[θ] at h2
  exact h2.2.2 y c y h1 rfl)).2)
 have f4:∀y,y∉(ak (f::P) (.node x l r)).nodes->S.at S4 y/\I y=rk y:=λy c=>by
  have a1:=T y c;have a2:=i.far y (λD=>c (aJ.2 (Β ((H0.out.2.1 y).1 D))));exact⟨gU a1 a2.1,a2.2⟩
 have u4:ae (B.blk F gt) w M:=(((u01.out.trans d).mono (λy c=>by simp only[LB.blk,ρ];simp[c])).trans (O.mono (by simp[LB.blk]))).trans (iK.mono (by simp[LB.blk]));have hE:=χ (ψ i f4);have qj:=HM.out.cF;have km:=λW (p:ae [] M W)=>sW (U.ag p) (tb:=.node x l r) i.Az hx4 HX.out.1 (λy c=>z.out.2.2.2.1 y (HX.out.2 y c)) i.isR hr4;rw[show BT.root (.node x l r)=(x:Int) from rfl] at km;have d4:=U.iP.cell g hgt;rw[H] at d4;have f4':=U.iP.free g;have h3:=U.h3;have xz:B.n0∉[B.c,B.ba,B.br,gt]:=by
  have a1:=Zk.out;have a2:B.n0≠B.c:=λe=>a1.2.1 (by rw[e];exact qj);simp;omega
 have hgc:gt∉[B.c,B.ba,B.br]:=by
  have a1:=Zk.out;have a2:gt≠B.c:=λe=>a1.2.2.2.2.2 (by rw[e];exact qj);simp;omega
 have r3:∀W,ae [B.c,B.ba,B.br,gt] M W->W.cell? ⟨B.n0,3,none⟩=some (.slice (some (gt:Nat)) ai.length ct):=λW p=>p.kept h3 xz;have r4:∀W,ae [B.c,B.ba,B.br] M W->W.cell? ⟨gt,g,none⟩=some (.int .i64 (oU (f::P) (.node x l r) .nil).root)/\W.frozen? ⟨gt,g,none⟩=false:=λW p=>⟨p.kept d4 hgc,p.ay d4 hgc f4'⟩
 have Cq:(0:Int)<=(g:Int):=ω;have DV:(g:Int)<(ai.length:Int):=ω;have HF:Hid (∀(W:World) (S':TS) (nN:Nat->Nat) (st':Nat),(∀y,y∉(oU (f::P) (.node x l r) .nil).nodes++(BT.node x l r).nodes->S4.at S' y/\nN y=I y)->∀y,y∉(ak (f::P) (.node x l r)).nodes->S.at S' y/\nN y=rk y):=λW S' nN st' a y c=>by
  have b1:=hE.out.2 y c;have b2:=a y (λD=>c (HX.out.2 y D));exact⟨gU b1.1 b2.1,b2.2.trans b1.2⟩
 clear hE f4 i hx4 hr4 T R Q Dl;generalize hmt:(aI aB A' (oU (f::P) (.node x l r) .nil) (.node x l r)).1=mt at *;generalize hmk:(aI aB A' (oU (f::P) (.node x l r) .nil) (.node x l r)).2=mk at *;generalize hth:oU (f::P) (.node x l r) .nil=th at *;clear U f4' h3;have q3:=r3 _ (ae.refl _ _);have q4:=(r4 _ (ae.refl _ _)).1
 go_region_law
  (first
   | (go_simp;(with_reducible refine (km _ β).mono ?_);rintro e w5 ⟨rfl,qP,S5,XF,wY,EJ,Nl,hs5⟩;(have dD:ae [B.c,B.ba,B.br] M w5:=ae.trans β qP);(have iD:ae [B.c,B.ba,B.br,gt] M w5:=dD.mono σ);obtain ⟨d5,f5⟩:=r4 _ dD))
 all_goals
  go_wp2;go_ret
  have v3:ae (B.blk F gt) w w5:=u4.trans (dD.mono (λy c=>by
   simp only[ρ,ς,or_false] at c;simp only[LB.blk,ρ];rcases c with rfl|rfl|rfl
   .simp[qj]
   .simp
   .simp))
  subst hth hmt hmk;refine⟨rfl,v3.setCell (Α (by simp[LB.blk])) _,S5,XF,_,wY.mW g _,EJ,Nl,HF.out w5 S5 XF 0 hs5,λq hq=>?_⟩
  by_cases e:q=g
  .rw[Δ e,e,φ,ύ,Δ rfl,Δ hgt];rfl
  .rw[Γ e,φ,ύ,Γ (λh=>e h.symm),←φ]
def Vj(h:lY w B F gt ct A st tr)(g x:Nat)(H:x∈(tr g).nodes)(k s:Int)(R:-9223372036854775808<=k/\k<=9223372036854775807/\0<=s/\s<=18446744073709551615)(u:iX A x k s=true):
  Calls prog 227 #[B.n0,(x:Int),.agg #[k,.int .u64 s]] w λe w'=>e=.returned true/\ae (B.blk F gt) w w'/\
   lY w' B F gt ct (aA A x k s) (dw st (Wo (aA A x k s) (tr g) x).2) (λq=>if q=g then(Wo (aA A x k s) (tr g) x).1 else tr q):=by
 obtain⟨S,rk,ai,j,a,z,I⟩:=h;have b:=(a.mem g x).1 H;have e:=oM H;unfold Wo;generalize (pathOf (tr g) x).1=P at *;generalize (pathOf (tr g) x).2.1=l at *;generalize (pathOf (tr g) x).2.2=r at *;have o:g<ai.length:=by rw[j.iY];have:=(j.cells.ok.nat x b.2.1);omega
 have C:g<A.hs.length:=by rw[←j.iY];exact o
 have D:=a.Az g;have E:=a.nd g;have M:=a.heap g;have c:=I g;have N:=z g;have d:=a.top g C;rw[e] at D E M c N d;obtain⟨W,J⟩:=Jm u b.2.1 E M;obtain⟨X,Y⟩:=(vV _ _).1 N;have p:∀w' T i,LH w' B F gt ct (aA A x k s) i S rk ai g (tr g).nodes T->T.nodes.Perm (tr g).nodes->Heap (aA A x k s) T->Lean T->lY w' B F gt ct (aA A x k s) i (λq=>if q=g then T else tr q):=λw' T i n hp hh hl=>by
  obtain⟨Z,K,iV,q1,q2,q3,L,q6⟩:=n;refine⟨Z,K,iV,q1,a.low u H q2 hp hh (λy m=>(L y m).1) (λq Q=>q6 q (by rw[mX];exact Q)),λq=>?_,λq=>?_⟩
  .show Lean (if q=g then _ else _)
   split
   .exact hl
   .exact z q
  .show gz K (if q=g then _ else _)
   split
   .exact q3
   .rename_i Q
    refine(I q).frame (λy m=>(L y (λG=>?_)).2);have c1:=(a.mem g y).1 G;have c2:=(a.mem q y).1 m;omega
 cases P with
 |nil=>
  refine(Uk j R u b.2.2 b.1 d b.2.1 D c).mono ?_;rintro U w' ⟨rfl,v,n⟩;have O:tr g=.node x l r:=e;refine⟨rfl,v,?_⟩
  show lY w' B F gt ct (aA A x k s) (dw st 0) (λq=>if q=g then tr g else tr q)
  rw[fG j.cells.oG];refine p w' _ st (by rw[O];exact n) (ό _) (by rw[O];exact J) (z g)
 |cons f t=>
  refine(Yh j R u b.2.2 b.1 o d D E c (λy m=>?_)).mono ?_
  .rw[←e] at m;have:=(a.mem g y).1 m;exact(aj A y).2 ⟨this.2.1,ω⟩
  .rintro U w' ⟨rfl,v,n⟩;refine⟨rfl,v,?_⟩;obtain⟨mp,mh⟩:=kK mQ (aA A x k s) _ (oU (f::t) (.node x l r) .nil) (.node x l r) (Θ _);have pn:((oU (f::t) (.node x l r) .nil).nodes++(BT.node x l r).nodes).Perm (tr g).nodes:=by
    rw[e];refine(((wF _ _ _).trans (aV (f::t) .nil)).append_right _).trans ?_;refine List.perm_append_comm.trans ?_;simp only[BT.nodes,Ϛ];exact(aV (f::t) (.node x l r)).symm
   refine p w' _ _ (by rw[e];exact n) (mp.trans pn) (mh (Ke _ _ _ W) J (pn.nodup_iff.2 (a.nd g))) (sH _ _ _ _ (Θ _) (Jt _ _ _ trivial Y) X)
end
section
variable{w:World}{B:LB}{F:List Nat}{gt ct:Nat}{A:NS}{st:Nat}{tr:Nat->BT}{S:TS}{rk:Nat->Nat}{ai:List Int}
def Ep(up:Nat->BT->BT->BT)(A:NS)(tr:Nat->BT)(a b:Nat):BT×Nat:=aI up (az A a b) (tr a) (tr b)
def Pv(h:lY w B F gt ct A st tr)(a b:Nat)(n:fQ A a b=true):
  Calls prog 232 #[B.n0,(a:Int),(b:Int)] w λe w'=>e=.returned true/\ae (B.blk F gt) w w'/\
   lY w' B F gt ct (az A a b) (dw st (Ep aB A tr a b).2) (λq=>if q=a then(Ep aB A tr a b).1 else if q=b then .nil else tr q):=by
 obtain⟨S,rk,ai,g,d,H,I⟩:=h;obtain⟨j1,j2,j3⟩:=(dI _ _ _).1 n;have t:=(aF _ _).1 j1;have M:=(aF _ _).1 j2;have hne:a≠b:=λe=>j3 (by rw[e]);have u:=eU A a b;have jw:(az A a b).hs.length=A.hs.length:=by unfold az;rw[Δ n];simp
 have Di:=d.top a ω;have N:=d.top b ω;have O:((tr a).nodes++(tr b).nodes).Nodup:=by
  rw[θ];refine⟨d.nd a,d.nd b,λx hx y c E=>?_⟩;have P:=(d.mem a x).1 hx;have b2:=(d.mem b y).1 c;rw[E] at P;omega
 have v:∀y,y∈(tr a).nodes++(tr b).nodes->bY (az A a b) (y:Int)=true:=λy c=>by
  rw[aj,u,pO n];rw[τ] at c;rcases c with c|c
  .have:=(d.mem a y).1 c;refine⟨this.2.1,?_⟩
   show 0<(if _ then _ else _:Int)
   split<;>omega
  .have:=(d.mem b y).1 c;refine⟨this.2.1,?_⟩
   show 0<(if _ then _ else _:Int)
   split<;>omega
 obtain⟨mp,mh⟩:=kK mQ (az A a b) _ (tr a) (tr b) (Θ _);have P5:=mh (oO n (d.heap a)) (oO n (d.heap b)) O;have ml:=sH (az A a b) _ (tr a) (tr b) (Θ _) (H a) (H b);have JL:=d.Az a;have KY:=d.Az b;have z:=I a;have C:=I b;unfold Ep
 have FI:Hid (∀ (W:World) (G:TS) (p:Nat->Nat) (m:Nat),mf W B F gt ct (az A a b) m G p ((ai.set a (aI aB (az A a b) (tr a) (tr b)).1.root).set b (-1))->dL G (-1) (aI aB (az A a b) (tr a) (tr b)).1.root (aI aB (az A a b) (tr a) (tr b)).1->gz p (aI aB (az A a b) (tr a) (tr b)).1->
   (∀y,y∉(tr a).nodes++(tr b).nodes->S.at G y/\p y=rk y)->lY W B F gt ct (az A a b) m (λq=>if q=a then (aI aB (az A a b) (tr a) (tr b)).1 else if q=b then .nil else tr q)):=λW G p m P b2 b3 b4=>by
  refine⟨G,p,_,P,d.join n b2 mp P5 (λy c=>(b4 y c).1) (λq hq=>?_),λq=>?_,λq=>?_⟩
  .have hl:ai.length=A.hs.length:=g.iY;rw[φ,ύ,Ι]
   by_cases e:q=a
   .rw[Γ ω,ύ,Δ e.symm,Δ ω,Δ e];rfl
   .by_cases E:q=b
    .rw[Δ E.symm,Δ ω,Γ e,Δ E];rfl
    .rw[Γ ω,ύ,Γ ω,Γ e,Γ E,←φ]
  .show Lean (if q=a then _ else if q=b then _ else _)
   split
   .exact ml
   .split
    .exact trivial
    .exact H q
  .show gz p (if q=a then _ else if q=b then _ else _)
   split
   .exact b3
   .split
    .exact trivial
    .rename_i hq1 hq2
     refine(I q).frame (λy c=>(b4 y (λr=>?_)).2);have c2:=(d.mem q y).1 c;rw[τ] at r;rcases r with r|r
     .have c1:=(d.mem a y).1 r;omega
     .have c1:=(d.mem b y).1 r;omega
 have Q:a<ai.length:=by rw[g.iY];omega
 have R:b<ai.length:=by rw[g.iY];omega
 have kj:=mO g.cells a b n;have h0:=g.h0;have HM:=χ g;have T:=χ (ψ g.sep g.bQ);have U:=g.cF;have o:=χ (ψ O (ψ v (ψ (ψ JL KY) (ψ z C))));clear g d H I O v mp mh P5 ml JL KY z C j1 j2 j3 t M;generalize hA':az A a b=A' at *;generalize htra:tr a=ta at *;generalize htrb:tr b=tb at *
 go_enter func232,ntmps232
 go_wp2_with ((((with_reducible refine kj.mono ?_));rintro e k ⟨rfl,gK,s⟩))
 have f:=HM.out.cK s gK (λy c=>Α c) u jw;have km:=λW (j:ae [] k W)=>sW (f.ag j) o.out.2.2.1.1 o.out.2.2.1.2 o.out.1 o.out.2.1 o.out.2.2.2.1 o.out.2.2.2.2;have X:=f.iP.cell a Q;rw[Di] at X;have l:=f.iP.cell b R;rw[N] at l;have f4:=f.iP.free a;have D:=f.iP.free b;have h3:=f.h3;have xz:B.n0∉[B.c,B.ba,B.br,gt]:=by
  have t:=T.out;have M:B.n0≠B.c:=λe=>t.2.1 (by rw[e];exact U);simp;omega
 have i:gt∉[B.c,B.ba,B.br]:=by
  have t:=T.out;have M:gt≠B.c:=λe=>t.2.2.2.2.2 (by rw[e];exact U);simp;omega
 have r3:∀W,ae [B.c,B.ba,B.br,gt] k W->W.cell? ⟨B.n0,3,none⟩=some (.slice (some (gt:Nat)) ai.length ct):=λW j=>j.kept h3 xz;have r4:∀W,ae [B.c,B.ba,B.br] k W->W.cell? ⟨gt,a,none⟩=some (ta.root:V)/\W.frozen? ⟨gt,a,none⟩=false:=λW j=>⟨j.kept X i,j.ay X i f4⟩
 have r5:∀W,ae [B.c,B.ba,B.br] k W->W.cell? ⟨gt,b,none⟩=some (tb.root:V)/\W.frozen? ⟨gt,b,none⟩=false:=λW j=>⟨j.kept l i,j.ay l i D⟩
 have Cq:(0:Int)<=(a:Int):=ω;have DV:(a:Int)<(ai.length:Int):=ω;have hib3:(0:Int)<=(b:Int):=ω;have hib4:(b:Int)<(ai.length:Int):=ω;generalize Y:(aI aB A' ta tb).1=mt at *;generalize Z:(aI aB A' ta tb).2=mk at *;have s1:B.n0≠gt:=T.out.1.1.2.2.2;clear f f4 D h3;have q3:=r3 _ (ae.refl _ _)
 go_region_law
  (first
   | (go_simp;(with_reducible refine (km _ β).mono ?_);rintro e K ⟨rfl,qP,S5,XF,wY,EJ,Nl,L⟩;(have J:ae [B.c,B.ba,B.br] k K:=ae.trans β qP);(have iD:ae [B.c,B.ba,B.br,gt] k K:=J.mono σ);obtain ⟨d5,f5⟩:=r4 _ J;obtain ⟨d5b,f5b⟩:=r5 _ J))
 all_goals
  go_wp2;go_ret;have v1:ae (B.blk F gt) w k:=s.mono (λy c=>by simp only[LB.blk,ρ];simp[c])
  have v3:ae (B.blk F gt) w K:=v1.trans (J.mono (λy c=>by
   simp only[ρ,ς,or_false] at c;simp only[LB.blk,ρ];rcases c with rfl|rfl|rfl
   .simp[U]
   .simp
   .simp))
  subst Y Z;exact⟨rfl,(v3.setCell (Α (by simp[LB.blk])) _).setCell (Α (by simp[LB.blk])) _,FI.out _ S5 XF _ ((wY.mW a _).mW b (-1)) EJ Nl L⟩
def DK(h:lY w B F gt ct A st tr)(g:Nat)(t:0<cZ A g):
  Calls prog 229 #[B.n0,(g:Int)] w λe w'=>∃m:Nat,dB A g=some m/\e=.returned (.tuple #[(m:Int),true])/\ae (B.blk F gt) w w'/\
   lY w' B F gt ct (aS A m) (dw st (Ky A (tr g) m).2) (λq=>if q=g then(Ky A (tr g) m).1 else tr q):=by
 have k:=Et h g t;have s:=h;obtain⟨S,rk,ai,n,o,p,r⟩:=s;have kd:=λm b=>Ag h g m b;have a:∀m:Nat,(tr g).root=m->m∈(tr g).nodes:=λm b=>by
  have j:tr g≠.nil:=λe=>by rw[e] at b;have:(-1:Int)=m:=b;omega
  have:=(cB j).1;rw[b] at this;simpa using this
 clear n o p r h
 go_enter func229,ntmps229
 go_wp2_with (first
  |(((with_reducible refine k.mono ?_));rintro e u ⟨m,c,d,rfl,rfl⟩;(have l:=kd m (a m d)))
  | (((with_reducible refine l.mono ?_));rintro e v ⟨rfl,f,i⟩))
 go_ret2;exact⟨m,c,rfl,f,i⟩
end
def Mk:VI 138 "Has" 123:=by intro p c W h;unfold method;obtain⟨m,h1,h2,h3,h4⟩:=xA Tryz.t138.methods "Has" [⟨204,0,true⟩] 123 (by kernel_rfl);exact xD
def Gv:VI 138 "Entry" 121:=by intro p c W h;unfold method;obtain⟨m,h1,h2,h3,h4⟩:=xA Tryz.t138.methods "Entry" [⟨204,0,true⟩] 121 (by kernel_rfl);exact xD
def ZI:MI 138 "Make" 231:=λ_ _=>by kernel_rfl
def Rf:MI 138 "Insert" 230:=λ_ _=>by kernel_rfl
def acA:MI 138 "Min" 233:=λ_ _=>by kernel_rfl
def M8:MI 138 "Extract" 229:=λ_ _=>by kernel_rfl
def KF:MI 138 "Decrease" 227:=λ_ _=>by kernel_rfl
def LfQ(w:World)(p:Nat)(F:List Nat)(A:NS):Prop:=∃B F1 gt ct st tr,p=B.n0/\F=B.blk F1 gt/\lY w B F1 gt ct A st tr
def yl:NestQ where
 ty:=138
 at_:=LfQ
 upd:=λh hu hS=>by
  obtain⟨B,F1,gt,ct,st,tr,rfl,rfl,hL⟩:=h;exact⟨B,F1,gt,ct,st,tr,rfl,rfl,hL.upd hu hS⟩
 lt:=λh=>by
  obtain⟨B,F1,gt,ct,st,tr,rfl,rfl,S,rk,ai,hM, -⟩:=h;exact hM.lt
 ok:=λh=>by
  obtain⟨B,F1,gt,ct,st,tr,rfl,rfl,S,rk,ai,hM, -⟩:=h;exact hM.cells.ok
 make:=λ{w p F A} h=>by
  obtain⟨B,F1,gt,ct,st,tr,rfl,rfl,hL⟩:=h;refine aL 231 (λ_ _=>by kernel_rfl) (ZI _) (λW hW=>?_);have jT:=hL.ag hW
  by_cases hl:65536<A.hs.length
  .have e1:dF A=0:=by unfold dF;rw[Δ hl]
   have e2:aO A=A:=by unfold aO;rw[Δ hl]
   rw[e1,e2];refine(WQ jT hl).mono ?_;rintro e w' ⟨rfl,F',⟨F2,rfl,hA⟩,hu,hf⟩;exact⟨rfl,_,⟨B,F2,gt,ct,st,tr,rfl,rfl,hA⟩,hu,hf⟩
  .have e1:dF A=A.hs.length:=by unfold dF;rw[Γ hl]
   rw[e1];refine(P9 jT hl).mono ?_;rintro e w' ⟨rfl,F',⟨F2,gt2,ct2,rfl,hA⟩,hu,hf⟩;exact⟨rfl,_,⟨B,F2,gt2,ct2,st,tr,rfl,rfl,hA⟩,hu,hf⟩
 insert:=λ{w p F A} g y k s hk hB h=>by
  obtain⟨B,F1,gt,ct,st,tr,rfl,rfl,hL⟩:=h;refine aL 230 (λ_ _=>by kernel_rfl) (Rf _) (λW hW=>?_);refine(IA (hL.ag hW) g y k s hk hB).mono ?_;rintro e w' ⟨rfl,hu,hL2⟩;exact⟨rfl,Goes.stay ⟨B,F1,gt,ct,_,_,rfl,rfl,hL2⟩ hu⟩
 min:=λ{w p F A} y hB h=>by
  obtain⟨B,F1,gt,ct,st,tr,rfl,rfl,hL⟩:=h;refine aL 233 (λ_ _=>by kernel_rfl) (acA _) (λW hW=>?_);have jT:=hL.ag hW;have hok:A.Ok:=by obtain⟨S,rk,ai,hM, -⟩:=hL;exact hM.cells.ok
  by_cases hl:cZ A (y:Int)=0
  .rw[iQ.2 hl];have h4:=(aF _ _).1 hB;have h5:=hok.h1;refine(QQ jT y ω hl).mono ?_;rintro e w' ⟨rfl,rfl⟩;exact⟨rfl,Goes.stay ⟨B,F1,gt,ct,st,tr,rfl,rfl,jT⟩ (ae.refl _ _)⟩
  .refine(Et jT y ω).mono ?_;rintro e w' ⟨m,hm, -,rfl,rfl⟩;rw[hm];exact⟨rfl,Goes.stay ⟨B,F1,gt,ct,st,tr,rfl,rfl,jT⟩ (ae.refl _ _)⟩
 extract:=λ{w p F A} y m hm h=>by
  obtain⟨B,F1,gt,ct,st,tr,rfl,rfl,hL⟩:=h;refine aL 229 (λ_ _=>by kernel_rfl) (M8 _) (λW hW=>?_);have hl:¬cZ A (y:Int)=0:=λe=>by rw[iQ.2 e] at hm;cases hm
  refine(DK (hL.ag hW) y ω).mono ?_;rintro e w' ⟨m',hm',rfl,hu,hL2⟩;rw[hm] at hm';cases hm';exact⟨rfl,Goes.stay ⟨B,F1,gt,ct,_,_,rfl,rfl,hL2⟩ hu⟩
 nC:=λ{w p F A} y k s hk hB h=>by
  obtain⟨B,F1,gt,ct,st,tr,rfl,rfl,hL⟩:=h;refine aL 227 (λ_ _=>by kernel_rfl) (KF _) (λW hW=>?_);have jT:=hL.ag hW;have hin:=tN hB;have hx:y∈(tr (A.c y).i.toNat).nodes:=by
   obtain⟨S,rk,ai,hM,hI, -⟩:=jT;have:=(aj _ _).1 hin;exact(hI.mem _ y).2 ⟨ω,this.1,ω⟩
  refine(Vj jT _ y hx k s hk hB).mono ?_;rintro e w' ⟨rfl,hu,hL2⟩;exact⟨rfl,Goes.stay ⟨B,F1,gt,ct,_,_,rfl,rfl,hL2⟩ hu⟩
 has:=λx h=>by
  obtain⟨B,F1,gt,ct,st,tr,rfl,rfl,S,rk,ai,hM, -⟩:=h;exact dQ 123 (λ_ _=>by kernel_rfl) hM.h0 (Mk _ _) (λW hW=>jQ (hM.ag hW).cells x)
 entry:=λ{w p F A} x h=>by
  obtain⟨B,F1,gt,ct,st,tr,rfl,rfl,S,rk,ai,hM, -⟩:=h;refine dQ 121 (λ_ _=>by kernel_rfl) hM.h0 (Gv _ _) (λW hW=>?_);cases hin:bY A x with
  |false=>simpa using mH (hM.ag hW).cells x hin
  |true=>
   obtain⟨y,rfl⟩:=sO hin;simpa using lg (hM.ag hW).cells y hin
def Nj(p:Nat)(w:World):Calls prog 65 #[p,(0:Int)] w λe w'=>e=.returned (.tuple #[.iface 138 (.pointer (some p)),(0:Int)])/\w'=w:=by
 go_enter func65,ntmps65
 go_wp2;go_ret2;exact⟨rfl,rfl⟩
def Kc(n:Nat)(l:n<=65536):qG yl 6 0 n:=by
 intro w;have i:=λW=>TC n W l;have j:=Nj;have c:yl.ty=138:=rfl;have a:∀w' B F gt,lY w' B F gt 1 (NS.new n) 0 (λ_=>.nil)->yl.at_ w' B.n0 (B.blk F gt) (NS.new n)/\IL w' B.n0 n:=λw' B F gt h=>⟨⟨B,F,gt,_,_,_,rfl,rfl,h⟩,by obtain⟨S,rk,ai,f, -⟩:=h;exact⟨_,_,f.h0,f.cells⟩⟩
 generalize yl=K at *;rw[c]
 go_enter func35,ntmps35
 go_wp2_with (first
  |(((with_reducible refine(i _).mono ?_));rintro e m ⟨B,F,gt,rfl,d,b,g⟩)
  | (((with_reducible refine (j _ _).mono ?_));rintro e o ⟨rfl,rfl⟩))
 go_ret2;exact⟨B.n0,B.blk F gt,rfl,(a _ _ _ _ d).1,(a _ _ _ _ d).2,ae.trans β b,λx k=>by have:=g x k;simp at this;omega⟩
def iT(tr:Nat->BT)(h:Nat)(t:BT):Nat->BT:=λq=>if q=h then t else tr q
