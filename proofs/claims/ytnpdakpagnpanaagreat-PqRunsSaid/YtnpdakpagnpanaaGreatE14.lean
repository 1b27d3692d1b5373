/-
  Lemmas.
-/
import Derived.Test.YtnpdakpagnpanaaGreatE13
set_option linter.all false
set_option maxHeartbeats 8000000
set_option maxRecDepth 10000
namespace Go.Proofs.YtnpdakpagnpanaaGreat
open Tryz
def EE(A:NS):∀(l:List BT),(∀t,t∈l->eH A t/\Lone t)->(gY l).Nodup->∀t,t∈dK A l->eH A t/\Lone t
 | [],_,_,t,ht=>by cases ht
 | [a],h,_,t,ht=>h t ht
 |a::b::l,h,hn,t,ht=>by
  rw[cu,cu,←ϋ,θ] at hn;have ha:=h a σ;have hb:=h b σ;rcases ρ.1 (show t∈dG A a b::dK A l from ht) with e|e
  .subst e;exact⟨oL ha.2 hb.2 ha.1 hb.1 hn.1,mV A ha.2 hb.2⟩
  .exact EE A l (λu hu=>h u (by simp[hu])) hn.2.1 t e
def EM(A:NS):∀(l:List BT),(∀t,t∈l->eH A t/\Lone t)->(gY l).Nodup->eH A (gJ A l)
 | [],_,_=>trivial
 |a::l,h,hn=>by
  have ha:=h a σ;have hp:=zC A l (λt ht=>(h t (by simp[ht])).2);have ih:=EM A l (λu hu=>h u (by simp[hu])) (by rw[cu,θ] at hn;exact hn.2.1);exact oL ha.2 hp.2 ha.1 ih ((hp.1.append_left a.nodes).nodup_iff.2 hn)
def zy{A:NS}{l:BT}(h:eH A l)(g:l.nodes.Nodup):(gJ A (dK A (bP l))).nodes.Perm l.nodes/\Lone (gJ A (dK A (bP l)))/\eH A (gJ A (dK A (bP l))):=by
 have c:=FM h;have a:=(jJ l).nodup_iff.2 g;have d:=EE A _ c a;have e:=Ef A (bP l) (λt b=>(c t b).2);have f:=zC A (dK A (bP l)) (λt b=>(d t b).2);exact⟨(f.1.trans e).trans (jJ l),f.2,EM A _ d (e.nodup_iff.2 a)⟩
def EB{n:Nat}{l:List Nat}(c:l.Nodup)(h:∀x,x∈l->x<n):l.length<=n:=by
 induction n generalizing l with
 |zero=>
  cases l with
  |nil=>simp
  |cons a l=>exact absurd (h a σ) ω
 |succ n b=>
  by_cases f:n∈l
  .have d:=b (l:=l.erase n) (c.erase n) (λx e=>by
    grind)
   grind
  .grind


open Go Go.RowKit

section
variable{w:World}{B:PB}{F:List Nat}{gt ct:Nat}{A:NS}{st:Nat}{S:TS}{ai:List Int}
def QX(r:iC w B F gt ct A st S ai){g x:Nat}{l:BT}(hg:(A.c x).i=g)(hg0:0<g)(M:g<ai.length)(f:ai.getD g 0=x)(hT:dL S (-1) x (.node x l .nil))(hn:(BT.node x l .nil).nodes.Nodup)(c:∀y,y∈(BT.node x l .nil).nodes->bY A (y:Int)=true):
  Calls prog 198 #[B.n0,(x:Int)] w λe w'=>e=.returned true/\ae (B.blk F gt) w w'/\∃L q,iC w' B F gt ct (aS A x) L q (ai.set g (gJ A (dK A (bP l))).root)/\dL q (-1) (gJ A (dK A (bP l))).root (gJ A (dK A (bP l)))/\(q.l x=-1/\q.r x=-1/\q.u x=-1)/\∀y,y∉(BT.node x l .nil).nodes->S.at q y:=by
 have j:bY A (x:Int)=true:=c x (by simp[BT.nodes]);have k:(x::l.nodes).Nodup:=by simpa[BT.nodes] using hn
 have m:∀z,z∈l.nodes->bY A (z:Int)=true:=λz hz=>c z (by simp[BT.nodes,hz]);have t:l.size<=65536:=by
  rw[←BT.mY];have:=EB (n:=A.cs.length) (Ζ.1 k).2 (λy b=>((aj _ _).1 (m y b)).1);have:=r.cells.ok.c1;omega
 have G:=bX r.cells x j;rw[hg] at G;have h0:=r.h0;have HM:=χ r;have d:=χ (ψ hT (ψ k (ψ m (ψ t j))));have Zz:=χ f;have H:ai.length=A.hs.length:=r.iY;have hgI:(g:Int)<(ai.length:Int):=ω;clear r hT hn k m t j c f H hg;generalize hR:gJ A (dK A (bP l))=R at *
 go_enter func198,ntmps198
 go_wp2_with ((((with_reducible refine G.mono ?_));rintro e s ⟨rfl,N,i⟩;(have a:=HM.out.cK i N (λy b=>Α b) rfl rfl);(have g21:=a.h2);(have o:=a.iP.cell g M);rw[Zz.out] at o))
 have T:=λW (p:ae [] s W)=>Bq (a.ag p) x d.out.2.2.2.2 l d.out.1.2.2.1 d.out.2.1 d.out.2.2.1 d.out.2.2.2.1;rw[hR] at T;have U:=a.iP.free g;have I:B.n0∉B.ba::F/\gt∉B.ba::F:=by
  have X:=a.sep;have Y:=a.bQ;exact⟨by simp only[ρ,not_or];exact⟨X.1,Y.1⟩,by simp only[ρ,not_or];exact⟨λe=>X.2.2 e.symm,Y.2.2⟩⟩
 obtain⟨Q,E⟩:=I;have Z:=a.h2;have r3:∀W,ae (B.ba::F) s W->W.cell? ⟨B.n0,2,none⟩=some (.slice (some (gt:Nat)) ai.length ct):=λW p=>p.kept Z Q;have r4:∀W,ae (B.ba::F) s W->W.cell? ⟨gt,g,none⟩=some ((x:Int):V)/\W.frozen? ⟨gt,g,none⟩=false:=λW p=>⟨p.kept o E,p.ay o E U⟩
 have Cq:(0:Int)<=(g:Int):=ω;have u:ae (B.blk F gt) w s:=i.mono (λy b=>by simp only[PB.blk,ρ];simp[b]);have HU:=χ u;clear a U Z Q E N i G u
 go_upto_region 5 with(fail)
 go_region_law
  (first
   | (go_simp;(with_reducible refine (T _ β).mono ?_);rintro e O ⟨rfl,qP,Ve,S5,wY,EJ,v,Nl,XK,C⟩;(have dD:ae (B.ba::F) s O:=ae.trans β qP);obtain ⟨d5,f5⟩:=r4 _ dD))
 all_goals
  have J:=wY.mW g R.root;have kd:=ik J.cells x d.out.2.2.2.2;have h06:=J.h0
  go_wp2_with ((((with_reducible refine kd.mono ?_));rintro e w7 ⟨rfl,D,P⟩))
  go_ret;have K:∀y,y∉(BT.node x l .nil).nodes->y∉x::l.nodes:=λy b hm=>b (by simpa[BT.nodes] using hm);have v5:ae (B.blk F gt) w O:=HU.out.trans (dD.mono (λy b=>by simp only[PB.blk,ρ] at b ⊢;rcases b with h|h<;>simp[h]));refine⟨rfl,(v5.setCell (Α (by simp[PB.blk])) _).trans (P.mono (λy b=>by simp only[PB.blk,ρ];simp[b])),Ve,S5,J.cK P D (λy b=>Α b) (fF _ _) (by rw[jm]),EJ,⟨v,?_,?_⟩,λy b=>C y (K y b)⟩
  .rw[Nl];exact d.out.1.2.2.2
  .rw[XK];exact d.out.1.2.1
def Vi(K:iC w B F gt ct A st S ai){g x:Nat}{f:Fr}{P:List Fr}{l r:BT}(hg:(A.c x).i=g)(hg0:0<g)(hgt:g<ai.length)(m:ai.getD g 0=(ak (f::P) (.node x l r)).root)(hT:dL S (-1) (ak (f::P) (.node x l r)).root (ak (f::P) (.node x l r)))(hn:(ak (f::P) (.node x l r)).nodes.Nodup)
  (hL:Lone (ak (f::P) (.node x l r))) (hH:eH A (ak (f::P) (.node x l r))) (d:∀y,y∈(ak (f::P) (.node x l r)).nodes->bY A (y:Int)=true):
  Calls prog 198 #[B.n0,(x:Int)] w λe w'=>e=.returned true/\ae (B.blk F gt) w w'/\∃st' J,iC w' B F gt ct (aS A x) st' J (ai.set g (dG A (ak (f::P) r) (gJ A (dK A (bP l)))).root)/\dL J (-1) (dG A (ak (f::P) r) (gJ A (dK A (bP l)))).root (dG A (ak (f::P) r) (gJ A (dK A (bP l))))/\(J.l x=-1/\J.r x=-1/\J.u x=-1)/\∀y,y∉(ak (f::P) (.node x l r)).nodes->S.at J y:=by
 have D:bY A (x:Int)=true:=d x (rM.2 (Α (by simp[BT.nodes])));obtain⟨o1,o2,o3, -⟩:=BX hT hn;obtain⟨uG, -⟩:=Cj (P:=f::P) hH;have E:=xY (f::P) x l r;have k:((ak (f::P) r).nodes++(BT.node x l .nil).nodes).Nodup:=zX (E.nodup_iff.1 hn);have Oy:∀y,y∈(ak (f::P) r).nodes++(BT.node x l .nil).nodes->y∈(ak (f::P) (.node x l r)).nodes:=λy c=>by
  rw[E.mem_iff,τ];rw[τ] at c;exact c.symm
 have PE:Lone (ak (f::P) r):=r9 (t:=.node x l r) σ hL;have T:(ak (f::P) (.node x l r)).root=(ak (f::P) r).root:=kZ _ _ _ _;have G:(ak (f::P) r).root≠(x:Int):=λe=>by
  have h6:ak (f::P) r≠.nil:=λe'=>by rw[e'] at e;simp[BT.root] at e
  have h7:=(cB h6).1;rw[e,π] at h7;rw[θ] at k;exact k.2.2 x h7 x (by simp[BT.nodes]) rfl
 rw[T] at m;have i:(x::l.nodes).Nodup:=by
  rw[θ] at k;simpa[BT.nodes] using k.2.1
 have H:∀z,z∈l.nodes->bY A (z:Int)=true:=λz hz=>d z (Oy z (by simp[BT.nodes,hz]));have U:l.size<=65536:=by
  rw[←BT.mY];have:=EB (n:=A.cs.length) (Ζ.1 i).2 (λy c=>((aj _ _).1 (H y c)).1);have:=K.cells.ok.c1;omega
 obtain⟨t1,t2,t3⟩:=zy uG.2.1 (Ζ.1 i).2;have X:((ak (f::P) r).nodes++(gJ A (dK A (bP l))).nodes).Nodup:=by
  have h1:((ak (f::P) r).nodes++l.nodes).Nodup:=by
   rw[θ] at k ⊢;exact⟨k.1,(Ζ.1 i).2,λa ha b hb=>k.2.2 a ha b (by simp[BT.nodes,hb])⟩
  exact(t1.append_left _).nodup_iff.2 h1
 have s:∀y,y∈(ak (f::P) r).nodes++(gJ A (dK A (bP l))).nodes->y∈(ak (f::P) (.node x l r)).nodes/\y≠x:=λy c=>by
  rw[τ,t1.mem_iff] at c;refine⟨Oy y (by simp only[τ,BT.nodes,Υ,ρ];rcases c with h|h<;>simp[h]),λe=>?_⟩;subst e;rw[θ] at k;rcases c with h|h
  .exact k.2.2 y h y (by simp[BT.nodes]) rfl
  .exact(Ζ.1 i).1 h
 have Y:∀y,y∈(ak (f::P) r).nodes->y∉x::l.nodes:=λy c I=>by
  rw[θ] at k;exact k.2.2 y c y (by simpa[BT.nodes] using I) rfl
 have u:∀y,y∈x::l.nodes->y∈(ak (f::P) (.node x l r)).nodes:=λy c=>Oy y (by rw[τ];right;simpa[BT.nodes] using c);have ko:=λ(w1:World) (j:iC w1 B F gt ct A st S ai)=>aaG j hT hn (λy c=>((aj _ _).1 (d y c)).1);have kh:=bX K.cells x D;rw[hg] at kh;have h0:=K.h0;have HM:=χ K;have o:=χ (ψ o1 (ψ o2 (ψ o3 (ψ i (ψ H (ψ U D))))));have p:=χ (ψ X (ψ s (ψ PE (ψ t2 (ψ Y (ψ u d))))));have Zz:=χ m;have htn:ai.length=A.hs.length:=K.iY;have hgI:(g:Int)<(ai.length:Int):=ω
 clear K hT hn i H U D d m htn hg o1 o2 o3 uG E k Oy PE T t1 t2 t3 X s Y u hL hH;generalize hR:gJ A (dK A (bP l))=R at *;generalize Di:ak (f::P) r=ta at *;have JG:(ta.root == (x:Int))=false:=by simpa using G
 go_enter func198,ntmps198
 go_wp2_with (first
  |(((with_reducible refine kh.mono ?_));rintro e w1 ⟨rfl,gK,C⟩;(have j:=HM.out.cK C gK (λy c=>Α c) rfl rfl);(have g21:=j.h2);(have Z:=j.iP.cell g hgt);rw[Zz.out] at Z;(have ko1:=ko w1 j))
  | (((with_reducible refine ko1.mono ?_));rintro e L ⟨rfl,q,M⟩))
 have ks:=λW (v:ae [] L W)=>Bq (q.ag v) x o.out.2.2.2.2.2.2 l o.out.1.2.2.1 o.out.2.2.2.1 o.out.2.2.2.2.1 o.out.2.2.2.2.2.1;rw[hR] at ks;have kl:Hid (∀W st4 S4,iC W B F gt ct A st4 S4 ai->dL S4 (-1) R.root R->(∀z,z∉x::l.nodes->(lq S f.1 f.2.1 x).at S4 z)->_):=λW st4 S4 uD Tc hs4=>vY uD ta R (o.out.2.1.frame (λy c=>hs4 y (p.out.2.2.2.2.1 y c))) Tc p.out.2.2.1 p.out.2.2.2.1 p.out.1 (λy c=>p.out.2.2.2.2.2.2 y (p.out.2.1 y c).1);have d4:=q.iP.cell g hgt;rw[Zz.out] at d4;have f4:=q.iP.free g;have hnn:B.n0∉B.ba::F/\gt∉B.ba::F:=by
  have a1:=q.sep;have a2:=q.bQ;exact⟨by simp only[ρ,not_or];exact⟨a1.1,a2.1⟩,by simp only[ρ,not_or];exact⟨λe=>a1.2.2 e.symm,a2.2.2⟩⟩
 obtain⟨Vt,zX⟩:=hnn;have qj:=q.cF;have h3:=q.h2;have r3:∀W,ae (B.ba::F) L W->W.cell? ⟨B.n0,2,none⟩=some (.slice (some (gt:Nat)) ai.length ct):=λW v=>v.kept h3 Vt;have r4:∀W,ae (B.ba::F) L W->W.cell? ⟨gt,g,none⟩=some (ta.root:V)/\W.frozen? ⟨gt,g,none⟩=false:=λW v=>⟨v.kept d4 zX,v.ay d4 zX f4⟩
 have Cq:(0:Int)<=(g:Int):=ω;have u01:ae (B.blk F gt) w w1:=C.mono (λy c=>by simp only[PB.blk,ρ];simp[c]);have HU:=χ (u01.trans (M.mono (λy c=>by simp at c;simp[PB.blk,c])));clear j q f4 h3 Vt zX gK C kh u01 M ko ko1 g21 Z;have q3:=r3 _ (ae.refl _ _);generalize hmt:dG A ta R=mt at *
 go_upto_region 8 with(fail)
 go_region_law
  (first
   |(go_simp;(with_reducible refine(ks _ β).mono ?_);rintro e w5 ⟨rfl,qP,Ve,S5,wY,EJ,hl5,Nl,XK,N⟩;(have dD:ae (B.ba::F) L w5:=ae.trans β qP);obtain⟨d5,f5⟩:=r4 _ dD;(have km:=λW (v:ae [] w5 W)=>kl W Ve S5 (wY.ag v) EJ N))
   | (go_simp;(with_reducible refine (km _ β).mono ?_);rintro e w6 ⟨rfl,O,st6,S6,wR,SS,Q⟩;(have hu6b:ae [B.ba,B.c] w5 w6:=ae.trans β O);(have iD:ae (B.ba::F) L w6:=dD.trans (hu6b.mono (λy c=>by simp at c;rcases c with h|h<;>simp [h,qj])));obtain ⟨d6,f6⟩:=r4 _ iD))
 all_goals
  subst hmt;have K8:=wR.mW g (dG A ta R).root;have kd:=ik K8.cells x o.out.2.2.2.2.2.2;have h06:=K8.h0
  go_wp2_with ((((with_reducible refine kd.mono ?_));rintro e w8 ⟨rfl,hC8,A7⟩))
  go_ret;have hxa:x∉ta.nodes++R.nodes:=λI=>(p.out.2.1 x I).2 rfl;have a6:=Q x hxa;have v5:ae (B.blk F gt) w w6:=HU.out.trans (iD.mono (λy c=>by simp only[PB.blk,ρ] at c ⊢;rcases c with h|h<;>simp[h]));refine⟨rfl,(v5.setCell (Α (by simp[PB.blk])) _).trans (A7.mono (λy c=>by simp only[PB.blk,ρ];simp[c])),st6,S6,K8.cK A7 hC8 (λy c=>Α c) (fF _ _) (by rw[jm]),SS,⟨?_,?_,?_⟩,λy c=>?_⟩
  .rw[a6.1];exact hl5
  .rw[a6.2.1,Nl];exact o.out.1.2.2.2
  .rw[a6.2.2,XK];exact o.out.1.2.1
  .exact WK (WK (o.out.2.2.1 y c) (N y (λI=>c (p.out.2.2.2.2.2.1 y I)))) (Q y (λI=>c (p.out.2.1 y I).1))
end
section
variable{w:World}{B:PB}{F:List Nat}{gt ct:Nat}{A:NS}{st:Nat}{tr:Nat->BT}
def Gh{ai:List Int}{g:Nat}{v:Int}(a:g<ai.length):∀q,(ai.set g v).getD q 0=if q=g then v else ai.getD q 0:=λq=>by
 by_cases e:q=g
 .rw[Δ e,e,φ,ύ,Δ rfl,Δ a];rfl
 .rw[Γ e,φ,ύ,Γ (λh=>e h.symm),←φ]
def QD(h:ny w B F gt ct A st tr)(g x:Nat)(G:x∈(tr g).nodes)(k s:Int)(T:-9223372036854775808<=k/\k<=9223372036854775807/\0<=s/\s<=18446744073709551615)(o:iX A x k s=true):
  Calls prog 197 #[B.n0,(x:Int),.agg #[k,.int .u64 s]] w λe w'=>e=.returned true/\ae (B.blk F gt) w w'/\∃j JB,ny w' B F gt ct (aA A x k s) j JB:=by
 obtain⟨S,ai,p,a,I⟩:=h;have b:=(a.mem g x).1 G;have e:=oM G;generalize (pathOf (tr g) x).1=P at *;generalize (pathOf (tr g) x).2.1=l at *;generalize (pathOf (tr g) x).2.2=r at *;have c:g<ai.length:=by rw[p.iY];have:=(p.cells.ok.nat x b.2.1);omega
 have u:g<A.hs.length:=by rw[←p.iY];exact c
 have R:=a.Az g;have D:=a.nd g;have K:eH A (tr g):=a.heap g;have E:=I g;have m:=a.top g u;have i:∀y,y∈(tr g).nodes->bY A (y:Int)=true:=λy C=>by
  have:=(a.mem g y).1 C;exact(aj A y).2 ⟨this.2.1,ω⟩
 rw[e] at R D K E m i;cases P with
 |nil=>
  have hr:r=.nil:=E;subst hr;refine(Q8 p T o b.2.2 b.1 c m b.2.1).mono ?_;rintro U w' ⟨rfl,H,W⟩;have e2:tr g=.node x l .nil:=e
  have L:=a.low o G (t':=tr g) (iV:=ai) (a.Az g) (ό _) (by rw [e2];exact FE o b.2.1 K D) (λy _=>⟨rfl,rfl,rfl⟩) (λq hq=>by
   split
   .rename_i e3;rw[e3];exact a.top g u
   .rfl)
  refine⟨rfl,H,st,_,S,ai,W,L,λq=>?_⟩
  show Lone (if q=g then tr g else tr q)
  split<;>exact I _
 |cons f d=>
  refine(UT p T o b.2.2 b.1 c m R D E i).mono ?_;rintro U w' ⟨rfl,H,j,X,Y,Z,q3⟩;have v:=xY (f::d) x l r;obtain⟨uG,J⟩:=Cj (P:=f::d) K;have z:((ak (f::d) r).nodes++(BT.node x l .nil).nodes).Nodup:=zX (v.nodup_iff.1 D);have M:Lone (ak (f::d) r):=r9 (t:=.node x l r) σ E;have Dm:x∉(ak (f::d) r).nodes:=λQ=>by
   rw[θ] at z;exact z.2.2 x Q x (by simp[BT.nodes]) rfl
  have hc:=vk o b.2.1;have N:eH (aA A x k s) (ak (f::d) r):=eH.frame J (λy C=>by rw[hc,Γ (λe=>Dm (by rw[←e];exact C))]);have O:=FE o b.2.1 uG (by rw[θ] at z;exact z.2.1);have n:Lone (BT.node x l .nil):=rfl;have hp:(dG (aA A x k s) (ak (f::d) r) (.node x l .nil)).nodes.Perm (tr g).nodes:=by
   rw[e];exact(lJ _ M n).trans (List.perm_append_comm.trans v.symm)
  have L:=a.low o G (t':=dG (aA A x k s) (ak (f::d) r) (.node x l .nil)) (iV:=ai.set g (dG (aA A x k s) (ak (f::d) r) (.node x l .nil)).root) Z hp (oL M n N O z) (λy C=>q3 y (by rw[←e];exact C)) (λq _=>Gh c q);refine⟨rfl,H,j,_,X,_,Y,L,λq=>?_⟩
  show Lone (if q=g then _ else tr q)
  split
  .exact mV _ M n
  .exact I q
def ED(h:ny w B F gt ct A st tr)(g x:Nat)(H:x∈(tr g).nodes):
  Calls prog 198 #[B.n0,(x:Int)] w λe w'=>e=.returned true/\ae (B.blk F gt) w w'/\∃c JB,ny w' B F gt ct (aS A x) c JB:=by
 obtain⟨S,ai,o,m,O⟩:=h;have s:=(m.mem g x).1 H;have e:=oM H;generalize (pathOf (tr g) x).1=P at *;generalize (pathOf (tr g) x).2.1=l at *;generalize (pathOf (tr g) x).2.2=r at *;have d:g<ai.length:=by rw[o.iY];have:=(o.cells.ok.nat x s.2.1);omega
 have T:g<A.hs.length:=by rw[←o.iY];exact d
 have U:=m.Az g;have u:=m.nd g;have E:eH A (tr g):=m.heap g;have G:=O g;have n:=m.top g T;have i:∀y,y∈(tr g).nodes->bY A (y:Int)=true:=λy C=>by
  have:=(m.mem g y).1 C;exact(aj A y).2 ⟨this.2.1,ω⟩
 rw[e] at U u E G n i;cases P with
 |nil=>
  have hr:r=.nil:=G;subst hr;have e2:tr g=.node x l .nil:=e;refine(QX o s.2.2 s.1 d n U u i).mono ?_;rintro e' w' ⟨rfl,I,c,J,K,L,M,N⟩;have j:(x::l.nodes).Nodup:=by
   have h9:(BT.node x l .nil).nodes.Nodup:=u;simpa[BT.nodes] using h9
  have W:eH A (.node x l .nil):=E;obtain⟨D,p,Q⟩:=zy W.2.1 (Ζ.1 j).2;have hp:(x::(gJ A (dK A (bP l))).nodes).Perm (tr g).nodes:=by
   rw[e2];simp only[BT.nodes,Υ];exact List.Perm.cons x D
  have X:=m.del H (t':=gJ A (dK A (bP l))) (iV:=ai.set g (gJ A (dK A (bP l))).root) L hp Q (λy C=>N y (by rw[←e2];exact C)) M (λq _=>Gh d q);refine⟨rfl,I,c,_,J,_,K,X,λq=>?_⟩
  show Lone (if q=g then _ else tr q)
  split
  .exact p
  .exact O q
 |cons f k=>
  refine(Vi o s.2.2 s.1 d n U u G E i).mono ?_;rintro e' w' ⟨rfl,I,c,J,K,L,M,N⟩;have v:=xY (f::k) x l r;obtain⟨uG,R⟩:=Cj (P:=f::k) E;have z:((ak (f::k) r).nodes++(BT.node x l .nil).nodes).Nodup:=zX (v.nodup_iff.1 u);have Y:Lone (ak (f::k) r):=r9 (t:=.node x l r) σ G;have j:(x::l.nodes).Nodup:=by
   rw[θ] at z;simpa[BT.nodes] using z.2.1
  obtain⟨D,p,Q⟩:=zy uG.2.1 (Ζ.1 j).2;have Z:((ak (f::k) r).nodes++(gJ A (dK A (bP l))).nodes).Nodup:=by
   have h1:((ak (f::k) r).nodes++l.nodes).Nodup:=by
    rw[θ] at z ⊢;exact⟨z.1,(Ζ.1 j).2,λa ha b hb=>z.2.2 a ha b (by simp[BT.nodes,hb])⟩
   exact(D.append_left _).nodup_iff.2 h1
  have hp:(x::(dG A (ak (f::k) r) (gJ A (dK A (bP l)))).nodes).Perm (tr g).nodes:=by
   rw[e];refine((lJ A Y p).cons x).trans ?_;refine((D.append_left _).cons x).trans ?_;refine ϝ ?_ v.symm;simp only[BT.nodes,Υ,List.cons_append];exact List.perm_append_comm.cons x
  have X:=m.del H (t':=dG A (ak (f::k) r) (gJ A (dK A (bP l)))) (iV:=ai.set g (dG A (ak (f::k) r) (gJ A (dK A (bP l)))).root) L hp (oL Y p R Q Z) (λy C=>N y (by rw[←e];exact C)) M (λq _=>Gh d q);refine⟨rfl,I,c,_,J,_,K,X,λq=>?_⟩
  show Lone (if q=g then _ else tr q)
  split
  .exact mV _ Y p
  .exact O q
def Cg(h:ny w B F gt ct A st tr)(g:Nat)(p:0<cZ A g):
  Calls prog 199 #[B.n0,(g:Int)] w λe w'=>∃m:Nat,dB A g=some m/\e=.returned (.tuple #[(m:Int),true])/\ae (B.blk F gt) w w'/\∃n o,ny w' B F gt ct (aS A m) n o:=by
 have k:=Ci h g p;have kd:=λm b=>ED h g m b;have a:∀m:Nat,(tr g).root=m->m∈(tr g).nodes:=λm b=>by
  have j:tr g≠.nil:=λe=>by rw[e] at b;have:(-1:Int)=m:=b;omega
  have:=(cB j).1;rw[b] at this;simpa using this
 clear h
 go_enter func199,ntmps199
 go_wp2_with (first
  |(((with_reducible refine k.mono ?_));rintro e q ⟨m,c,d,rfl,rfl⟩;(have l:=kd m (a m d)))
  | (((with_reducible refine l.mono ?_));rintro e r ⟨rfl,f,i⟩))
 go_ret2;exact⟨m,c,rfl,f,i⟩
end
def Mq:VI 130 "Has" 123:=by intro p c W h;unfold method;obtain⟨m,h1,h2,h3,h4⟩:=xA Tryz.t130.methods "Has" [⟨188,0,true⟩] 123 (by kernel_rfl);exact xD
def Gf:VI 130 "Entry" 121:=by intro p c W h;unfold method;obtain⟨m,h1,h2,h3,h4⟩:=xA Tryz.t130.methods "Entry" [⟨188,0,true⟩] 121 (by kernel_rfl);exact xD
def YA:MI 130 "Make" 201:=λ_ _=>by kernel_rfl
def PG:MI 130 "Insert" 200:=λ_ _=>by kernel_rfl
def ack:MI 130 "Min" 203:=λ_ _=>by kernel_rfl
def Le:MI 130 "Extract" 199:=λ_ _=>by kernel_rfl
def KW:MI 130 "Decrease" 197:=λ_ _=>by kernel_rfl
def PaQ(w:World)(p:Nat)(F:List Nat)(A:NS):Prop:=∃B F1 gt ct st tr,p=B.n0/\F=B.blk F1 gt/\ny w B F1 gt ct A st tr
def yo:NestQ where
 ty:=130
 at_:=PaQ
 upd:=λh hu hS=>by
  obtain⟨B,F1,gt,ct,st,tr,rfl,rfl,hL⟩:=h;exact⟨B,F1,gt,ct,st,tr,rfl,rfl,hL.upd hu hS⟩
 lt:=λh=>by
  obtain⟨B,F1,gt,ct,st,tr,rfl,rfl,S,ai,hM, -⟩:=h;exact hM.lt
 ok:=λh=>by
  obtain⟨B,F1,gt,ct,st,tr,rfl,rfl,S,ai,hM, -⟩:=h;exact hM.cells.ok
 make:=λ{w p F A} h=>by
  obtain⟨B,F1,gt,ct,st,tr,rfl,rfl,hL⟩:=h;refine aL 201 (λ_ _=>by kernel_rfl) (YA _) (λW hW=>?_);have jT:=hL.ag hW
  by_cases hl:65536<A.hs.length
  .have e1:dF A=0:=by unfold dF;rw[Δ hl]
   have e2:aO A=A:=by unfold aO;rw[Δ hl]
   rw[e1,e2];refine(Qv jT hl).mono ?_;rintro e w' ⟨rfl,F',⟨F2,rfl,hA⟩,hu,hf⟩;exact⟨rfl,_,⟨B,F2,gt,ct,st,tr,rfl,rfl,hA⟩,hu,hf⟩
  .have e1:dF A=A.hs.length:=by unfold dF;rw[Γ hl]
   rw[e1];refine(Mc jT hl).mono ?_;rintro e w' ⟨rfl,F',⟨F2,gt2,ct2,rfl,hA⟩,hu,hf⟩;exact⟨rfl,_,⟨B,F2,gt2,ct2,st,tr,rfl,rfl,hA⟩,hu,hf⟩
 insert:=λ{w p F A} g y k s hk hB h=>by
  obtain⟨B,F1,gt,ct,st,tr,rfl,rfl,hL⟩:=h;refine aL 200 (λ_ _=>by kernel_rfl) (PG _) (λW hW=>?_);refine(Ih (hL.ag hW) g y k s hk hB).mono ?_;rintro e w' ⟨rfl,hu,st',hL2⟩;exact⟨rfl,Goes.stay ⟨B,F1,gt,ct,_,_,rfl,rfl,hL2⟩ hu⟩
 min:=λ{w p F A} y hB h=>by
  obtain⟨B,F1,gt,ct,st,tr,rfl,rfl,hL⟩:=h;refine aL 203 (λ_ _=>by kernel_rfl) (ack _) (λW hW=>?_);have jT:=hL.ag hW;have hok:A.Ok:=by obtain⟨S,ai,hM, -⟩:=hL;exact hM.cells.ok
  by_cases hl:cZ A (y:Int)=0
  .rw[iQ.2 hl];have h4:=(aF _ _).1 hB;have h5:=hok.h1;refine(LJ jT y ω hl).mono ?_;rintro e w' ⟨rfl,rfl⟩;exact⟨rfl,Goes.stay ⟨B,F1,gt,ct,st,tr,rfl,rfl,jT⟩ (ae.refl _ _)⟩
  .refine(Ci jT y ω).mono ?_;rintro e w' ⟨m,hm, -,rfl,rfl⟩;rw[hm];exact⟨rfl,Goes.stay ⟨B,F1,gt,ct,st,tr,rfl,rfl,jT⟩ (ae.refl _ _)⟩
 extract:=λ{w p F A} y m hm h=>by
  obtain⟨B,F1,gt,ct,st,tr,rfl,rfl,hL⟩:=h;refine aL 199 (λ_ _=>by kernel_rfl) (Le _) (λW hW=>?_);have hl:¬cZ A (y:Int)=0:=λe=>by rw[iQ.2 e] at hm;cases hm
  refine(Cg (hL.ag hW) y ω).mono ?_;rintro e w' ⟨m',hm',rfl,hu,st',JB,hL2⟩;rw[hm] at hm';cases hm';exact⟨rfl,Goes.stay ⟨B,F1,gt,ct,_,_,rfl,rfl,hL2⟩ hu⟩
 nC:=λ{w p F A} y k s hk hB h=>by
  obtain⟨B,F1,gt,ct,st,tr,rfl,rfl,hL⟩:=h;refine aL 197 (λ_ _=>by kernel_rfl) (KW _) (λW hW=>?_);have jT:=hL.ag hW;have hin:=tN hB;have hx:y∈(tr (A.c y).i.toNat).nodes:=by
   obtain⟨S,ai,hM,hI, -⟩:=jT;have:=(aj _ _).1 hin;exact(hI.mem _ y).2 ⟨ω,this.1,ω⟩
  refine(QD jT _ y hx k s hk hB).mono ?_;rintro e w' ⟨rfl,hu,st',JB,hL2⟩;exact⟨rfl,Goes.stay ⟨B,F1,gt,ct,_,_,rfl,rfl,hL2⟩ hu⟩
 has:=λx h=>by
  obtain⟨B,F1,gt,ct,st,tr,rfl,rfl,S,ai,hM, -⟩:=h;exact dQ 123 (λ_ _=>by kernel_rfl) hM.h0 (Mq _ _) (λW hW=>jQ (hM.ag hW).cells x)
 entry:=λ{w p F A} x h=>by
  obtain⟨B,F1,gt,ct,st,tr,rfl,rfl,S,ai,hM, -⟩:=h;refine dQ 121 (λ_ _=>by kernel_rfl) hM.h0 (Gf _ _) (λW hW=>?_);cases hin:bY A x with
  |false=>simpa using mH (hM.ag hW).cells x hin
  |true=>
   obtain⟨y,rfl⟩:=sO hin;simpa using lg (hM.ag hW).cells y hin
def MZ(p:Nat)(w:World):Calls prog 61 #[p,(0:Int)] w λe w'=>e=.returned (.tuple #[.iface 130 (.pointer (some p)),(0:Int)])/\w'=w:=by
 go_enter func61,ntmps61
 go_wp2;go_ret2;exact⟨rfl,rfl⟩
def Kj(n:Nat)(l:n<=65536):qG yo 4 0 n:=by
 intro w;have i:=λW=>SL n W l;have j:=MZ;have c:yo.ty=130:=rfl;have a:∀w' B F gt,ny w' B F gt 1 (NS.new n) 0 (λ_=>.nil)->yo.at_ w' B.n0 (B.blk F gt) (NS.new n)/\IL w' B.n0 n:=λw' B F gt h=>⟨⟨B,F,gt,_,_,_,rfl,rfl,h⟩,by obtain⟨S,ai,f, -⟩:=h;exact⟨_,_,f.h0,f.cells⟩⟩
 generalize yo=K at *;rw[c]
 go_enter func35,ntmps35
 go_wp2_with (first
  |(((with_reducible refine(i _).mono ?_));rintro e m ⟨B,F,gt,rfl,d,b,g⟩)
  | (((with_reducible refine (j _ _).mono ?_));rintro e o ⟨rfl,rfl⟩))
 go_ret2;exact⟨B.n0,B.blk F gt,rfl,(a _ _ _ _ d).1,(a _ _ _ _ d).2,ae.trans β b,λx k=>by have:=g x k;simp at this;omega⟩
def tC{A:NS}{a b:Int}(hj:fQ A a b=true):∀{t:BT},eH A t->eH (az A a b) t
 | .nil,_=>trivial
 | .node x l r,h=>⟨λy hy=>(oW hj x y).2 (h.1 y hy),tC hj h.2.1,tC hj h.2.2⟩
section
variable{w:World}{B:PB}{F:List Nat}{gt ct:Nat}{A:NS}{st:Nat}{tr:Nat->BT}
def LY(h:ny w B F gt ct A st tr)(a b:Nat)(n:fQ A a b=true):
  Calls prog 202 #[B.n0,(a:Int),(b:Int)] w λe w'=>e=.returned true/\ae (B.blk F gt) w w'/\
   ∃i,ny w' B F gt ct (az A a b) i (λq=>if q=a then dG (az A a b) (tr a) (tr b) else if q=b then .nil else tr q):=by
 obtain⟨S,ai,l,f,j⟩:=h;obtain⟨R,T,U⟩:=(dI _ _ _).1 n;have a1:=(aF _ _).1 R;have a2:=(aF _ _).1 T;have hne:a≠b:=λe=>U (by rw[e]);have s:=eU A a b;have jw:(az A a b).hs.length=A.hs.length:=by unfold az;rw[Δ n];simp
 have Di:=f.top a ω;have H:=f.top b ω;have I:((tr a).nodes++(tr b).nodes).Nodup:=by
  rw[θ];refine⟨f.nd a,f.nd b,λx hx y d C=>?_⟩;have J:=(f.mem a x).1 hx;have X:=(f.mem b y).1 d;rw[C] at J;omega
 have t:∀y,y∈(tr a).nodes++(tr b).nodes->bY (az A a b) (y:Int)=true:=λy d=>by
  rw[aj,s,pO n];rw[τ] at d;rcases d with d|d
  .have:=(f.mem a y).1 d;refine⟨this.2.1,?_⟩
   show 0<(if _ then _ else _:Int)
   split<;>omega
  .have:=(f.mem b y).1 d;refine⟨this.2.1,?_⟩
   show 0<(if _ then _ else _:Int)
   split<;>omega
 have Y:=lJ (az A a b) (j a) (j b);have Z:=mV (az A a b) (j a) (j b);have mh:=oL (j a) (j b) (tC n (f.heap a)) (tC n (f.heap b)) I;have JL:=f.Az a;have KY:=f.Az b;have u:=j a;have v:=j b
 have FI:Hid (∀ (W:World) (D:TS) (i:Nat),iC W B F gt ct (az A a b) i D ((ai.set a (dG (az A a b) (tr a) (tr b)).root).set b (-1))->dL D (-1) (dG (az A a b) (tr a) (tr b)).root (dG (az A a b) (tr a) (tr b))->
   (∀y,y∉(tr a).nodes++(tr b).nodes->S.at D y)->ny W B F gt ct (az A a b) i (λq=>if q=a then dG (az A a b) (tr a) (tr b) else if q=b then .nil else tr q)):=λW D i J X b4=>by
  refine⟨D,_,J,f.join n X Y mh b4 (λq hq=>?_),λq=>?_⟩
  .have hl:ai.length=A.hs.length:=l.iY;rw[φ,ύ,Ι]
   by_cases e:q=a
   .rw[Γ ω,ύ,Δ e.symm,Δ ω,Δ e];rfl
   .by_cases C:q=b
    .rw[Δ C.symm,Δ ω,Γ e,Δ C];rfl
    .rw[Γ ω,ύ,Γ ω,Γ e,Γ C,←φ]
  .show Lone (if q=a then _ else if q=b then _ else _)
   split
   .exact Z
   .split
    .trivial
    .exact j q
 have K:a<ai.length:=by rw[l.iY];omega
 have L:b<ai.length:=by rw[l.iY];omega
 have kj:=mO l.cells a b n;have h0:=l.h0;have HM:=χ l;have qj:=l.cF;have p:=χ (ψ I (ψ t (ψ (ψ JL KY) (ψ u v))));clear l f j I t Y mh Z JL KY u v R T U a1 a2;generalize hA':az A a b=A' at *;generalize htra:tr a=ta at *;generalize htrb:tr b=tb at *
 go_enter func202,ntmps202
 go_wp2_with ((((with_reducible refine kj.mono ?_));rintro e o ⟨rfl,gK,r⟩))
 have c:=HM.out.cK r gK (λy d=>Α d) s jw;have km:=λW (k:ae [] o W)=>vY (c.ag k) ta tb p.out.2.2.1.1 p.out.2.2.1.2 p.out.2.2.2.1 p.out.2.2.2.2 p.out.1 p.out.2.1;have M:=c.iP.cell a K;rw[Di] at M;have m:=c.iP.cell b L;rw[H] at m;have f4:=c.iP.free a;have z:=c.iP.free b;have h3:=c.h2;obtain⟨G,g⟩:=c.abB;have r3:∀W,ae [B.ba,B.c] o W->W.cell? ⟨B.n0,2,none⟩=some (.slice (some (gt:Nat)) ai.length ct):=λW k=>k.kept h3 (λhm=>G (by simp at hm ⊢;omega))
 have r4:∀W,ae [B.ba,B.c] o W->W.cell? ⟨gt,a,none⟩=some (ta.root:V)/\W.frozen? ⟨gt,a,none⟩=false:=λW k=>⟨k.kept M g,k.ay M g f4⟩
 have r5:∀W,ae [B.ba,B.c] o W->W.cell? ⟨gt,b,none⟩=some (tb.root:V)/\W.frozen? ⟨gt,b,none⟩=false:=λW k=>⟨k.kept m g,k.ay m g z⟩
 have Cq:(0:Int)<=(a:Int):=ω;have DV:(a:Int)<(ai.length:Int):=ω;have hib3:(0:Int)<=(b:Int):=ω;have hib4:(b:Int)<(ai.length:Int):=ω;have s1:B.n0≠gt:=λe=>G (by simp[e]);generalize O:dG A' ta tb=mt at *;clear c f4 z h3 G g;have q3:=r3 _ (ae.refl _ _)
 go_region_law
  (first
   | (go_simp;(with_reducible refine (km _ β).mono ?_);rintro e P ⟨rfl,qP,Q,S5,wY,EJ,E⟩;(have N:ae [B.ba,B.c] o P:=ae.trans β qP);obtain ⟨d5,f5⟩:=r4 _ N;obtain ⟨d5b,f5b⟩:=r5 _ N))
 all_goals
  go_wp2;go_ret;have v1:ae (B.blk F gt) w o:=r.mono (λy d=>by simp only[PB.blk,ρ];simp[d])
  have v3:ae (B.blk F gt) w P:=v1.trans (N.mono (λy d=>by
   simp only[ρ,ς,or_false] at d;simp only[PB.blk,ρ];rcases d with rfl|rfl
   .simp
   .simp [qj]))
  subst O;exact⟨rfl,(v3.setCell (Α (by simp[PB.blk])) _).setCell (Α (by simp[PB.blk])) _,Q,FI.out _ S5 Q ((wY.mW a _).mW b (-1)) EJ E⟩
