/-
  Lemmas for ProofHolds: Lf, Lf2, Lf3, Lf4, Lf5, Lf6. Conditions: those of each lemma.
-/
import Derived.IntWalk
import Derived.Deep.RegionLaw
import Derived.Test.YtklibcncmbofpaaGreatR02
import Derived.Test.YtklibcncmbofpaaGreatR17
set_option linter.all false
set_option maxHeartbeats 8000000
set_option maxRecDepth 10000
namespace Go.Proofs.YtklibcncmbofpaaGreat
open Go Go.RowKit
structure LB where
 n0:Nat
 c:Nat
 bt:Nat
 ba:Nat
 br:Nat
structure lQ(w:World)(B:LB)(F:List Nat)(gt ct:Nat)(A:NS)(st:Nat)(S:TS)(rk:Nat->Nat)(aj:List Int):Prop where
 head:aL w B.n0 231 4 (fun j=>[Value.pointer (some ⟨B.c,0,none⟩),.pointer (some ⟨B.bt,0,none⟩),.slice (some ⟨B.br,0,none⟩) A.cs.length A.cs.length,.slice (some ⟨gt,0,none⟩) aj.length ct].getD j undef)
 cells:aF w B.c F A st
 trees:bA w B.bt B.ba A.cs.length S
 ranks:aL w B.br 3 A.cs.length (fun j=>.int .i64 (rk j:Int))
 jH:IZ w gt ct aj
 jw:aj.length=A.hs.length
 bG:B.n0∉F/\B.bt∉F/\B.ba∉F/\B.br∉F/\gt∉F
 sep:(B.n0≠B.bt/\B.n0≠B.ba/\B.n0≠B.br/\B.n0≠gt)/\(B.bt≠B.br/\B.bt≠gt/\B.ba≠B.br/\B.ba≠gt/\B.br≠gt)
section
variable {w:World}{B:LB}{F:List Nat}{gt ct:Nat}{A:NS}{st:Nat}{S:TS}{rk:Nat->Nat}{aj:List Int}
def LB.blk(B:LB)(F:List Nat)(gt:Nat):List Nat:=B.n0::B.bt::B.ba::B.br::gt::F
theorem lQ.upd{w':World}{G:List Nat}(h:lQ w B F gt ct A st S rk aj)(hu:aa G w w')(hG:∀x,x∈G->x∉B.blk F gt):lQ w' B F gt ct A st S rk aj:=by
 have h1:∀x,x∈B.blk F gt->x∉G:=fun x hx hg=>hG x hg hx;exact⟨h.head.upd hu (h1 _ (by simp[LB.blk])),h.cells.upd hu (fun x hx=>fun hm=>hG x hx (by simp[LB.blk,hm])),h.trees.upd hu (h1 _ (by simp[LB.blk])) (h1 _ (by simp[LB.blk])),h.ranks.upd hu (h1 _ (by simp[LB.blk])),h.jH.upd hu (h1 _ (by simp[LB.blk])),h.jw,h.bG,h.sep⟩
theorem lQ.au{w':World}(h:lQ w B F gt ct A st S rk aj)(hu:aa [] w w'):lQ w' B F gt ct A st S rk aj:=h.upd hu σ
theorem lQ.lt(h:lQ w B F gt ct A st S rk aj):∀x,x∈B.blk F gt->x<w.heap.size:=by
 intro x hx;have:=h.head.lt;have:=h.trees.head.lt;have:=h.trees.row.lt;have:=h.ranks.lt;have:=h.jH.lt;simp only[LB.blk,ρ]at hx;rcases hx with rfl|rfl|rfl|rfl|rfl|hx
 ·assumption
 ·assumption
 ·assumption
 ·assumption
 ·assumption
 ·exact h.cells.lt x hx
theorem lQ.cF(h:lQ w B F gt ct A st S rk aj):B.c∈F:=h.cells.mem
theorem lQ.h0(h:lQ w B F gt ct A st S rk aj):w.cell? ⟨B.n0,0,none⟩=some (.pointer (some ⟨B.c,0,none⟩)):=h.head.cellAt 0 ω rfl
theorem lQ.h1(h:lQ w B F gt ct A st S rk aj):w.cell? ⟨B.n0,1,none⟩=some (.pointer (some ⟨B.bt,0,none⟩)):=h.head.cellAt 1 ω rfl
theorem lQ.h2(h:lQ w B F gt ct A st S rk aj):w.cell? ⟨B.n0,2,none⟩=some (.slice (some ⟨B.br,0,none⟩) A.cs.length A.cs.length):=h.head.cellAt 2 ω rfl
theorem lQ.h3(h:lQ w B F gt ct A st S rk aj):w.cell? ⟨B.n0,3,none⟩=some (.slice (some ⟨gt,0,none⟩) aj.length ct):=h.head.cellAt 3 ω rfl
theorem lQ.iO{w':World}{S':TS}(h:lQ w B F gt ct A st S rk aj)(hu:aa [B.ba] w w')(hT:bA w' B.bt B.ba A.cs.length S'):lQ w' B F gt ct A st S' rk aj:=by
 have s:=h.sep;have f:=h.bG;have hne:=h.trees.ne;exact⟨h.head.upd hu ζ,h.cells.upd hu (fun x hx=>by simp at hx;rw[hx];exact f.2.2.1),hT,h.ranks.upd hu ζ,h.jH.upd hu ζ,h.jw,f,s⟩
theorem lQ.dA(h:lQ w B F gt ct A st S rk aj)(x:Nat)(k:Nat):lQ (w.setCell ⟨B.br,x,none⟩ (.int .i64 (k:Int))) B F gt ct A st S (fun y=>if y=x then k else rk y) aj:=by
 have s:=h.sep;have f:=h.bG;have hu:aa [B.br] w (w.setCell ⟨B.br,x,none⟩ (.int .i64 (k:Int))):=β;refine⟨h.head.upd hu ζ,h.cells.upd hu (fun x hx=>by simp at hx;rw[hx];exact f.2.2.2.1),h.trees.upd hu ζ ζ,(h.ranks.set x _).ext (fun j hj=>?_),h.jH.upd hu ζ,h.jw,f,s⟩
 by_cases e:j=x
 ·simp only[e,if_true]
 ·simp only[e,if_false]
theorem lQ.qQ(h:lQ w B F gt ct A st S rk aj)(x:Nat)(k:Int):lQ (w.setCell ⟨gt,x,none⟩ (.int .i64 k)) B F gt ct A st S rk (aj.set x k):=by
 have s:=h.sep;have f:=h.bG;have hu:aa [gt] w (w.setCell ⟨gt,x,none⟩ (.int .i64 k)):=β;refine⟨by rw[List.length_set];exact h.head.upd hu ζ,h.cells.upd hu (fun x hx=>by simp at hx;rw[hx];exact f.2.2.2.2),h.trees.upd hu ζ ζ,h.ranks.upd hu ζ,h.jH.set x k,by rw[List.length_set];exact h.jw,f,s⟩
theorem lQ.cB{w':World}{F':List Nat}{A':NS}{st':Nat}(h:lQ w B F gt ct A st S rk aj)(hu:aa F w w')(hC:aF w' B.c F' A' st')(hF:∀x,x∈F'->x∈F\/w.heap.size<=x)(h1:A'.cs.length=A.cs.length)(h2:A'.hs.length=A.hs.length):lQ w' B F' gt ct A' st' S rk aj:=by
 have f:=h.bG;have g:=h.lt;have hf:∀x,x<w.heap.size->x∉F->x∉F':=fun x hx hn hm=>by rcases hF x hm with h'|h';exact hn h';omega
 have l0:=g B.n0 (by simp[LB.blk]);have l1:=g B.bt (by simp[LB.blk]);have l2:=g B.ba (by simp[LB.blk]);have l3:=g B.br (by simp[LB.blk]);have l4:=g gt (by simp[LB.blk]);exact⟨by rw[h1];exact h.head.upd hu f.1,hC,by rw[h1];exact h.trees.upd hu f.2.1 f.2.2.1,by rw[h1];exact h.ranks.upd hu f.2.2.2.1,h.jH.upd hu f.2.2.2.2,by rw[h2];exact h.jw,⟨hf _ l0 f.1,hf _ l1 f.2.1,hf _ l2 f.2.2.1,hf _ l3 f.2.2.2.1,hf _ l4 f.2.2.2.2⟩,h.sep⟩
end
theorem om(z:Int)(w:World):Calls Tryz.prog 247 #[.int .i64 (tv z),.bool (tb z)] w fun e w'=>e=.returned (.int .i64 z)/\w'=w:=by
 unfold tv tb
 by_cases h:z=-1
 ·subst h;simp only[if_true,ne_eq,not_true,decide_false]
  go_enter Tryz.func247,Tryz.ntmps247
  go_wp2;go_ret;exact⟨rfl,rfl⟩
 ·rw[if_neg h,decide_eq_true h]
  go_enter Tryz.func247,Tryz.ntmps247
  go_wp2;go_ret;exact⟨rfl,rfl⟩
def ig(rk:Nat->Nat)(z:Int):Int:=if z=-1 then 0 else (rk z.toNat:Int)
section
variable {w:World}{B:LB}{F:List Nat}{gt ct:Nat}{A:NS}{st:Nat}{S:TS}{rk:Nat->Nat}{aj:List Int}
theorem kZ(h:lQ w B F gt ct A st S rk aj)(z:Int)(hz:z=-1\/(0<=z/\z<A.cs.length)) :
  Calls Tryz.prog 258 #[.pointer (some ⟨B.n0,0,none⟩),.int .i64 z] w fun e w'=>e=.returned (.int .i64 (ig rk z))/\w'=w:=by
 unfold ig;have h2:=h.h2;have hA:=h.cells.ok.c1
 by_cases e:z=-1
 ·subst e;clear h
  go_enter Tryz.func258,Tryz.ntmps258
  go_wp2;go_ret;exact⟨rfl,rfl⟩
 ·obtain⟨i,rfl⟩:∃i:Nat,z=i:=⟨z.toNat,ω⟩;have hi:i<A.cs.length:=ω;have d:=h.ranks.cell i hi;have hb:((i:Int) == -1)=false:=σ;rw[if_neg e];simp only[π];clear h e hz
  go_enter Tryz.func258,Tryz.ntmps258
  go_wp2;go_ret;exact⟨rfl,rfl⟩
theorem uN(rk:Nat->Nat)(z:Int):0<=ig rk z:=by unfold ig;split<;>omega
theorem E5(h:lQ w B F gt ct A st S rk aj)(x:Nat)(hx:x<A.cs.length)(hl:S.l x=-1\/(0<=S.l x/\S.l x<A.cs.length))(hr:S.r x=-1\/(0<=S.r x/\S.r x<A.cs.length))(I8:ig rk (S.l x)<=65536)(hbb:ig rk (S.r x)<=65536)(hab:ig rk (S.l x)<ig rk (S.r x)) :
  Calls Tryz.prog 255 #[.pointer (some ⟨B.n0,0,none⟩),.int .i64 (x:Int)] w fun e w'=>e=.returned (.tuple #[])/\aa [B.ba,B.br] w w'/\lQ w' B F gt ct A st (jC S x) (fun y=>if y=x then (ig rk (S.l x)).toNat + 1 else rk y) aj:=by
 have kl:=fun d=>zy B.bt B.ba A.cs.length S (x:Int) (w.drewN d) (h.trees.drewN d);have kr:=fun d=>qg B.bt B.ba A.cs.length S (x:Int) (w.drewN d) (h.trees.drewN d);rw[show gY A.cs.length S (x:Int) false=S.l x by unfold gY TS.kid;rw[if_pos ω];simp]at kl;rw[show gY A.cs.length S (x:Int) true=S.r x by unfold gY TS.kid;rw[if_pos ω];simp]at kr;have q1:∀d,(w.drewN d).cell? ⟨B.n0,1,none⟩=some (.pointer (some ⟨B.bt,0,none⟩)):=fun d=>h.h1;have H:=χ h;have rl:=fun d=>kZ (h.au ((aa.refl [] w).drewN d)) (S.l x) hl;have rr:=fun d=>kZ (h.au ((aa.refl [] w).drewN d)) (S.r x) hr
 have ba1:0<=ig rk (S.l x)/\ig rk (S.l x)<=65536:=⟨uN _ _,I8⟩;have bb1:0<=ig rk (S.r x)/\ig rk (S.r x)<=65536:=⟨uN _ _,hbb⟩;clear I8 hbb;have HL:=χ (ψ hl hr);generalize hzl:S.l x=zl at *;generalize ML:S.r x=zr at *;generalize hra:ig rk zl=a at *;generalize hrb:ig rk zr=b at *;have HZ:=χ (ψ hzl (ψ ML (ψ hra hrb)));have hn0:=h.lt B.n0 (by simp[LB.blk]);have hbr:=h.lt B.br (by simp[LB.blk]);have hs:=h.sep;have hA:=h.cells.ok.c1;clear h hzl ML hra hrb hl hr
 go_enter Tryz.func255,Tryz.ntmps255
 go_wp2
 go_quiet ((first
  | (go_at_call 248;exact Calls.quiet_of (kl _))
  | (go_at_call 249;exact Calls.quiet_of (kr _))
  | (go_at_call 247;exact Calls.quiet_of_same (om _ _))))
 have H2:=χ (H.out.au ((aa.refl [] w).drewN nq));have rln:=rl nq;have rrn:=rr nq;have h1:=q1 nq;clear kl kr q1 rl rr;have kt:=zJ B.bt B.ba A.cs.length S x (w.drewN nq) H2.out.trees hx
 go_wp2_with (first
  | (go_at_call 258;(with_reducible refine(rln).mono ?_);rintro e w9 ⟨rfl,aJ⟩;rw[aJ];clear aJ w9)
  | (go_at_call 258;(with_reducible refine(rrn).mono ?_);rintro e w9 ⟨rfl,aJ⟩;rw[aJ];clear aJ w9)
  | (go_at_call 259;(with_reducible refine(kt).mono ?_);rintro e w2 ⟨rfl,hT,hu2⟩))
 have h3:=χ (H2.out.iO hu2 hT);have hw2:aa [B.ba,B.br] w w2:=((aa.refl _ w).drewN nq).trans (hu2.mono σ);have kq:=fun W (hW:aa [] w2 W)=>kZ (h3.out.au hW) zl HL.out.1;rw[HZ.out.2.2.1]at kq;have r0:∀W,aa [B.br] w2 W->W.cell? ⟨B.n0,2,none⟩=some (.slice (some ⟨B.br,0,none⟩) A.cs.length A.cs.length):=fun W hW=>hW.kept h3.out.h2 ζ;have d0:=h3.out.ranks.cell x hx;have d1:=h3.out.ranks.free x;have hwr:IntKind.i64.wrap (a+1)=a+1:=IntWalk.i64_in _ ω
 go_region_held3 (aa [B.br] w2) (exact ν) ((go_at_call 258;(with_reducible refine((kq _ β)).mono ?_);rintro e w9 ⟨rfl,aJ⟩;rw[aJ];clear aJ w9))
 go_wp2;go_end0;clear hwr;obtain⟨an,rfl⟩:∃an:Nat,a=an:=⟨a.toNat,ω⟩;have hR:=h3.out.dA x (an+1);rw[show((an+1:Nat):Int)=(an:Int)+1 by omega]at hR;exact⟨rfl,((hw2.setCell (Or.inl σ) _)).drew,hR.au ((aa.refl _ _).drew)⟩
theorem DF(h:lQ w B F gt ct A st S rk aj)(x:Nat)(hx:x<A.cs.length)(hl:S.l x=-1\/(0<=S.l x/\S.l x<A.cs.length))(hr:S.r x=-1\/(0<=S.r x/\S.r x<A.cs.length))(I8:ig rk (S.l x)<=65536)(hbb:ig rk (S.r x)<=65536)(hab:¬ig rk (S.l x)<ig rk (S.r x)) :
  Calls Tryz.prog 255 #[.pointer (some ⟨B.n0,0,none⟩),.int .i64 (x:Int)] w fun e w'=>e=.returned (.tuple #[])/\aa [B.ba,B.br] w w'/\lQ w' B F gt ct A st S (fun y=>if y=x then (ig rk (S.r x)).toNat + 1 else rk y) aj:=by
 have kl:=fun d=>zy B.bt B.ba A.cs.length S (x:Int) (w.drewN d) (h.trees.drewN d);have kr:=fun d=>qg B.bt B.ba A.cs.length S (x:Int) (w.drewN d) (h.trees.drewN d);rw[show gY A.cs.length S (x:Int) false=S.l x by unfold gY TS.kid;rw[if_pos ω];simp]at kl;rw[show gY A.cs.length S (x:Int) true=S.r x by unfold gY TS.kid;rw[if_pos ω];simp]at kr;have q1:∀d,(w.drewN d).cell? ⟨B.n0,1,none⟩=some (.pointer (some ⟨B.bt,0,none⟩)):=fun d=>h.h1;have H:=χ h;have rl:=fun d=>kZ (h.au ((aa.refl [] w).drewN d)) (S.l x) hl;have rr:=fun d=>kZ (h.au ((aa.refl [] w).drewN d)) (S.r x) hr
 have ba1:0<=ig rk (S.l x)/\ig rk (S.l x)<=65536:=⟨uN _ _,I8⟩;have bb1:0<=ig rk (S.r x)/\ig rk (S.r x)<=65536:=⟨uN _ _,hbb⟩;clear I8 hbb;have HL:=χ (ψ hl hr);generalize hzl:S.l x=zl at *;generalize ML:S.r x=zr at *;generalize hra:ig rk zl=a at *;generalize hrb:ig rk zr=b at *;have HZ:=χ (ψ hzl (ψ ML (ψ hra hrb)));have hn0:=h.lt B.n0 (by simp[LB.blk]);have hbr:=h.lt B.br (by simp[LB.blk]);have hs:=h.sep;have hA:=h.cells.ok.c1;clear h hzl ML hra hrb hl hr
 go_enter Tryz.func255,Tryz.ntmps255
 go_wp2
 go_quiet ((first
  | (go_at_call 248;exact Calls.quiet_of (kl _))
  | (go_at_call 249;exact Calls.quiet_of (kr _))
  | (go_at_call 247;exact Calls.quiet_of_same (om _ _))))
 have H2:=χ (H.out.au ((aa.refl [] w).drewN nq));have rln:=rl nq;have rrn:=rr nq;have h1:=q1 nq;clear kl kr q1 rl rr
 go_wp2_with (first
  | (go_at_call 258;(with_reducible refine(rln).mono ?_);rintro e w9 ⟨rfl,aJ⟩;rw[aJ];clear aJ w9)
  | (go_at_call 258;(with_reducible refine(rrn).mono ?_);rintro e w9 ⟨rfl,aJ⟩;rw[aJ];clear aJ w9))
 obtain⟨w2,hw2⟩:∃w2,w2=w.drewN nq:=⟨_,rfl⟩;have hu2:aa [B.ba,B.br] w w2:=by rw[hw2];exact(aa.refl _ w).drewN nq
 rw[←hw2]at H2⊢;clear hw2 h1 rln rrn;have kq:=fun W (hW:aa [] w2 W)=>kZ (H2.out.au hW) zr HL.out.2;rw[HZ.out.2.2.2]at kq;have r0:∀W,aa [B.br] w2 W->W.cell? ⟨B.n0,2,none⟩=some (.slice (some ⟨B.br,0,none⟩) A.cs.length A.cs.length):=fun W hW=>hW.kept H2.out.h2 ζ;have d0:=H2.out.ranks.cell x hx;have d1:=H2.out.ranks.free x;have hwr:IntKind.i64.wrap (b+1)=b+1:=IntWalk.i64_in _ ω
 go_region_held3 (aa [B.br] w2) (exact ν) ((go_at_call 258;(with_reducible refine((kq _ β)).mono ?_);rintro e w9 ⟨rfl,aJ⟩;rw[aJ];clear aJ w9))
 go_wp2;go_end0;clear hwr;obtain⟨bn,rfl⟩:∃bn:Nat,b=bn:=⟨b.toNat,ω⟩;have hR:=H2.out.dA x (bn+1);rw[show((bn+1:Nat):Int)=(bn:Int)+1 by omega]at hR;exact⟨rfl,((hu2.setCell (Or.inl σ) _)).drew,hR.au ((aa.refl _ _).drew)⟩
end
theorem ES:∀t:BT,t.rank<=t.size
 | .nil=>Nat.le_refl _
 | .node x l r=>by have:=ES r;simp only[BT.rank,BT.size];omega
theorem nG{n:Nat}{l:List Nat}(hn:l.Nodup)(hl:∀x,x∈l->x<n):l.length<=n:=by
 have:=nodup_range n (l.map fun(x:Nat)=>(x:Int)) (by
  unfold List.Nodup;rw[List.pairwise_map];exact hn.imp (fun {a b} h e=>h ω)) (fun y hy=>by
  obtain⟨x,hx,rfl⟩:=List.mem_map.1 hy;have:=hl x hx
  exact⟨ω,ω⟩)
 simpa using this
theorem AL{rk:Nat->Nat}{t:BT}(h:gH rk t):ig rk t.root=t.rank:=by
 unfold ig
 by_cases e:t=.nil
 ·subst e;simp[BT.root,BT.rank]
 ·have:=bL e;rw[if_neg ω];rw[h.root e]
theorem wF{n:Nat}{t:BT}(h:∀x,x∈t.nodes->x<n):t.root=-1\/(0<=t.root/\t.root<n):=by
 by_cases e:t=.nil
 ·subst e;exact Or.inl rfl
 ·have h1:=bL e;have:=h _ h1.1;exact Or.inr ⟨ω,ω⟩
theorem Qy{S:TS}{p:Int}{x:Nat}{l r:BT}(hu:S.u x=p)(hl:bY S x (S.l x) l)(hr:bY S x (S.r x) r):bY S p x (.node x l r):=⟨rfl,hu,hl,hr⟩
section
variable {w:World}{B:LB}{F:List Nat}{gt ct:Nat}{A:NS}{st:Nat}{S:TS}{rk:Nat->Nat}{aj:List Int}
theorem qL(h:lQ w B F gt ct A st S rk aj){p:Int}{x:Nat}{l r:BT}(hT:bY S p x (.node x l r))(hl:gH rk l)(hr:gH rk r)(hn:(BT.node x l r).nodes.Nodup)(hlt:∀y,y∈(BT.node x l r).nodes->y<A.cs.length) :
  Calls Tryz.prog 255 #[.pointer (some ⟨B.n0,0,none⟩),.int .i64 (x:Int)] w fun e w'=>e=.returned (.tuple #[])/\aa [B.ba,B.br] w w'/\
   ∃S' oF,lQ w' B F gt ct A st S' oF aj/\bY S' p x (aB x l r)/\gH oF (aB x l r)/\(∀y,y≠x->S.at S' y)/\S'.u x=S.u x/\(∀y,y≠x->oF y=rk y):=by
 obtain⟨_,hu,OQ,hTr⟩:=hT;have hx:=hlt x (by simp[BT.nodes]);have hll:∀y,y∈l.nodes->y<A.cs.length:=fun y hy=>hlt y (by simp[BT.nodes,hy]);have hlr:∀y,y∈r.nodes->y<A.cs.length:=fun y hy=>hlt y (by simp[BT.nodes,hy]);have hA:=h.cells.ok.c1;have hn2:=hn;simp only[BT.nodes,List.nodup_cons,τ,not_or,θ]at hn2;have sl:=nG hn2.2.1 hll;have sr:=nG hn2.2.2.1 hlr;rw[BT.mf]at sl sr;have rl:=ES l;have rr:=ES r;have el:=OQ.root;have er:=hTr.root;have fr:∀ {S':TS},(∀y,y≠x->S.at S' y)->(∀z,bY S x z l->bY S' x z l)/\(∀z,bY S x z r->bY S' x z r):=fun hS=>
  ⟨fun z hz=>hz.frame (fun y hy=>hS y (fun e=>hn2.1.1 (by rw[←e];exact hy))),fun z hz=>hz.frame (fun y hy=>hS y (fun e=>hn2.1.2 (by rw[←e];exact hy)))⟩
 have zl:ig rk (S.l x)=l.rank:=by rw[el];exact AL hl
 have zr:ig rk (S.r x)=r.rank:=by rw[er];exact AL hr
 by_cases hab:l.rank<r.rank
 ·refine(E5 h x hx (by rw[el];exact wF hll) (by rw[er];exact wF hlr) (by rw[zl];omega) (by rw[zr];omega) (by rw[zl,zr];omega)).mono ?_;rintro e w' ⟨rfl,hU,hM⟩;have hat:∀y,y≠x->S.at (jC S x) y:=fun y hy=>⟨by unfold jC TS.aH;simp[hy],by unfold jC TS.aH;simp[hy],by unfold jC TS.aH;simp⟩
  have e1:(jC S x).l x=S.r x:=by unfold jC TS.aH;simp
  have e2:(jC S x).r x=S.l x:=by unfold jC TS.aH;simp
  have e3:(jC S x).u x=S.u x:=by unfold jC TS.aH;simp
  refine⟨rfl,hU,_,_,hM,?_,?_,hat,e3,fun y hy=>by rw[if_neg hy]⟩
  ·unfold aB;rw[if_pos hab];exact⟨rfl,by rw[e3];exact hu,by rw[e1];exact(fr hat).2 _ hTr,by rw[e2];exact(fr hat).1 _ OQ⟩
  ·unfold aB;rw[if_pos hab];refine⟨by simp[zl],hr.frame (fun y hy=>by rw[if_neg (fun e=>hn2.1.2 (by rw[←e];exact hy))]),hl.frame (fun y hy=>by rw[if_neg (fun e=>hn2.1.1 (by rw[←e];exact hy))])⟩
 ·refine(DF h x hx (by rw[el];exact wF hll) (by rw[er];exact wF hlr) (by rw[zl];omega) (by rw[zr];omega) (by rw[zl,zr];omega)).mono ?_;rintro e w' ⟨rfl,hU,hM⟩;refine⟨rfl,hU,_,_,hM,?_,?_,fun y _=>⟨rfl,rfl,rfl⟩,rfl,fun y hy=>by rw[if_neg hy]⟩
  ·unfold aB;rw[if_neg hab];exact⟨rfl,hu,OQ,hTr⟩
  ·unfold aB;rw[if_neg hab];refine⟨by simp[zr],hl.frame (fun y hy=>by rw[if_neg (fun e=>hn2.1.1 (by rw[←e];exact hy))]),hr.frame (fun y hy=>by rw[if_neg (fun e=>hn2.1.2 (by rw[←e];exact hy))])⟩
end
theorem BT.yg{t:BT}(h:t≠.nil):t.root=(t.root.toNat:Int):=(bL h).2
def zX(S:TS)(x:Nat)(r:BT):TS:=match r with | .nil=>S | .node y _ _=>mX S x y
theorem NR{S:TS}{p:Int}{x:Nat}{l r:BT}(h:bY S p x (.node x l r))(hn:(BT.node x l r).nodes.Nodup) :
  bY (zX S x r) p x (.node x l .nil)/\bY (zX S x r) (-1) r.root r/\∀y,y≠x->y∉r.nodes->S.at (zX S x r) y:=by
 obtain⟨_,hu,hl,hr⟩:=h;simp only[BT.nodes,List.nodup_cons,τ,not_or,θ]at hn;cases r with
 | nil=>exact⟨⟨rfl,hu,hl,hr⟩,rfl,fun y _ _=>⟨rfl,rfl,rfl⟩⟩
 | node y a b=>
  have hxy:x≠y:=fun e=>hn.1.2 (by rw[e];simp[BT.nodes]);have hry:S.r x=y:=hr.1;have e:zX S x (.node y a b)=mX S x y:=rfl;rw[e];have hl':∀z,(mX S x y).l z=S.l z:=fun z=>by unfold mX TS.aH TS.bR;rw[decide_eq_true hry];rfl
  have hr':∀z,(mX S x y).r z=if z=x then -1 else S.r z:=fun z=>by unfold mX TS.aH TS.bR;rw[decide_eq_true hry];rfl
  have hu':∀z,(mX S x y).u z=if z=y then -1 else S.u z:=fun z=>by unfold mX TS.aH TS.bR;rw[decide_eq_true hry];rfl
  refine⟨⟨rfl,by rw[hu',if_neg hxy];exact hu,?_,by rw[hr',if_pos rfl];rfl⟩,?_,fun z h1 h2=>⟨hl' z,by rw[hr',if_neg h1],by rw[hu',if_neg (fun e=>h2 (by rw[e];simp[BT.nodes]))]⟩⟩
  ·rw[hl'];refine hl.frame (fun z hz=>⟨hl' z,by rw[hr',if_neg (fun e=>hn.1.1 (by rw[←e];exact hz))],by rw[hu',if_neg (fun e=>hn.2.2.2 z hz y (by simp[BT.nodes]) e)]⟩)
  ·have h0:bY S x ((BT.node y a b).root) (.node y a b):=by rw[←hr.root];exact hr
   refine h0.Ou (p':=-1) hn.2.2.1 (fun z hz=>⟨hl' z,by rw[hr',if_neg (fun e=>hn.1.2 (by rw[←e];exact hz))],fun ML=>by rw[hu',if_neg (fun e=>ML (by rw[e];simp[BT.root]))]⟩) (fun _=>by rw[hu'];simp[BT.root])
theorem Dl{S:TS}{p:Int}{x:Nat}{l m:BT}(h:bY S p x (.node x l .nil))(hm:bY S (-1) m.root m)(hne:m≠.nil)(hn:(BT.node x l m).nodes.Nodup) :
  bY (lH S x m.root true) p x (.node x l m)/\∀y,y≠x->y∉m.nodes->S.at (lH S x m.root true) y:=by
 obtain⟨_,hu,hl,_⟩:=h;simp only[BT.nodes,List.nodup_cons,τ,not_or,θ]at hn;obtain⟨r1,r2⟩:=bL hne;have hl':∀z,(lH S x m.root true).l z=S.l z:=fun z=>by unfold lH TS.aH TS.bR;rfl
 have hr':∀z,(lH S x m.root true).r z=if z=x then m.root else S.r z:=fun z=>by unfold lH TS.aH TS.bR;simp
 have hu':∀z,(lH S x m.root true).u z=if z=m.root.toNat then (x:Int)else S.u z:=fun z=>by unfold lH TS.aH TS.bR;simp
 have hxm:x≠m.root.toNat:=fun e=>hn.1.2 (by rw[e];exact r1);refine⟨⟨rfl,by rw[hu',if_neg hxm];exact hu,?_,?_⟩,fun z h1 h2=>⟨hl' z,by rw[hr',if_neg h1],by rw[hu',if_neg (fun e=>h2 (by rw[e];exact r1))]⟩⟩
 ·rw[hl'];exact hl.frame (fun z hz=>⟨hl' z,by rw[hr',if_neg (fun e=>hn.1.1 (by rw[←e];exact hz))],by rw[hu',if_neg (fun e=>hn.2.2.2 z hz _ r1 e)]⟩)
 ·rw[hr',if_pos rfl];exact hm.Ou (p':=(x:Int)) hn.2.2.1 (fun z hz=>⟨hl' z,by rw[hr',if_neg (fun e=>hn.1.2 (by rw[←e];exact hz))],fun ML=>by rw[hu',if_neg ML]⟩) (fun _=>by rw[hu',if_pos rfl])
structure Down(up:Nat->BT->BT->BT)(A:NS)(S0:TS)(ta tb:BT)(S:TS)(W:List (Nat×BT))(a b:BT):Prop where
 isA:bY S (-1) a.root a
 isB:bY S (-1) b.root b
 way:∀p,p∈W->bY S (-1) (p.1:Int) (.node p.1 p.2 .nil)
 far:∀y,y∉ta.nodes++tb.nodes->S0.at S y
 perm:(uQ W++(a.nodes++b.nodes)).Perm (ta.nodes++tb.nodes)
 res:aI up A ta tb=(ve up W (aI up A a b).1,W.length+(aI up A a b).2)
theorem Down.start(up:Nat->BT->BT->BT)(A:NS){S0:TS}{ta tb:BT}(ha:bY S0 (-1) ta.root ta)(hb:bY S0 (-1) tb.root tb):Down up A S0 ta tb S0 [] ta tb:=
 ⟨ha,hb,fun p hp=>(by cases hp),fun y _=>⟨rfl,rfl,rfl⟩,by simp[uQ],by simp[ve]⟩
theorem pU(W:List (Nat×BT))(x:Nat)(l:BT):uQ (W++[(x,l)])=uQ W++(x::l.nodes):=by unfold uQ;simp
theorem Ff{W:List (Nat×BT)}{p:Nat×BT}(hp:p∈W):p.1∈uQ W/\∀y,y∈p.2.nodes->y∈uQ W:=by
 unfold uQ;exact⟨List.mem_flatMap.2 ⟨p,hp,σ⟩,fun y hy=>List.mem_flatMap.2 ⟨p,hp,by simp[hy]⟩⟩
theorem Down.take{up:Nat->BT->BT->BT}{A:NS}{S0 S:TS}{ta tb b l r:BT}{x:Nat}{W:List (Nat×BT)}(hX:(ta.nodes++tb.nodes).Nodup)
  (h1:bY S (-1) (x:Int) (.node x l r)) (h2:bY S (-1) b.root b) (h3:∀p,p∈W->bY S (-1) (p.1:Int) (.node p.1 p.2 .nil)) (h4:∀y,y∉ta.nodes++tb.nodes->S0.at S y)
  (h5:(uQ W++((BT.node x l r).nodes++b.nodes)).Perm (ta.nodes++tb.nodes)) (h6:aI up A ta tb=(ve up W (up x l (aI up A r b).1),W.length+((aI up A r b).2+1))) :
  Down up A S0 ta tb (zX S x r) (W++[(x,l)]) r b:=by
 have hnd:=h5.nodup_iff.2 hX;rw[θ]at hnd;obtain⟨n1,n2,n3⟩:=hnd;rw[θ]at n2;obtain⟨n4,n5,n6⟩:=n2;obtain⟨c1,c2,c3⟩:=NR h1 n4;have hout:∀y,y∉ta.nodes++tb.nodes->y≠x/\y∉r.nodes:=fun y hy=>
  ⟨fun e=>hy (h5.mem_iff.1 (by rw[e];simp[BT.nodes])),fun hm=>hy (h5.mem_iff.1 (by simp[BT.nodes,hm]))⟩
 refine⟨c2,h2.frame (fun y hy=>c3 y (fun e=>n6 x (by simp[BT.nodes]) y hy e.symm) (fun hm=>n6 y (by simp[BT.nodes,hm]) y hy rfl)),fun p hp=>?_,fun y hy=>?_,?_,?_⟩
 ·rcases τ.1 hp with hp|hp
  ·have hw:=Ff hp;refine(h3 p hp).frame (fun y hy=>?_);have hyw:y∈uQ W:=by
    simp only[BT.nodes,List.append_nil,ρ]at hy;rcases hy with rfl|hy
    ·exact hw.1
    ·exact hw.2 y hy
   exact c3 y (fun e=>n3 y hyw x (by simp[BT.nodes]) e) (fun hm=>n3 y hyw y (by simp[BT.nodes,hm]) rfl)
  ·simp only[List.mem_singleton]at hp;subst hp;exact c1
 ·obtain⟨k1,k2⟩:=hout y hy;have a1:=h4 y hy;have a2:=c3 y k1 k2;exact⟨a2.1.trans a1.1,a2.2.1.trans a1.2.1,a2.2.2.trans a1.2.2⟩
 ·rw[pU];refine List.Perm.trans ?_ h5;simp only[BT.nodes,List.append_assoc,List.cons_append];exact List.Perm.refl _
 ·rw[h6,AJ];simp only[υ,List.length_cons,List.length_nil];exact Prod.ext rfl (by simp only;omega)
theorem Down.takeA{up:Nat->BT->BT->BT}{A:NS}{S0 S:TS}{ta tb l r l' r':BT}{x y:Nat}{W:List (Nat×BT)}(h:Down up A S0 ta tb S W (.node x l r) (.node y l' r'))(hX:(ta.nodes++tb.nodes).Nodup)(hlt:¬bZ A y x) :
  Down up A S0 ta tb (zX S x r) (W++[(x,l)]) r (.node y l' r'):=by
 refine Down.take hX h.isA h.isB h.way h.far h.perm ?_;rw[h.res,oU,if_neg hlt]
theorem Down.takeB{up:Nat->BT->BT->BT}{A:NS}{S0 S:TS}{ta tb l r l' r':BT}{x y:Nat}{W:List (Nat×BT)}(h:Down up A S0 ta tb S W (.node x l r) (.node y l' r'))(hX:(ta.nodes++tb.nodes).Nodup)(hlt:bZ A y x) :
  Down up A S0 ta tb (zX S y r') (W++[(y,l')]) r' (.node x l r):=by
 refine Down.take hX h.isB h.isA h.way h.far ?_ ?_
 ·refine List.Perm.trans ?_ h.perm;exact List.Perm.append_left _ List.perm_append_comm
 ·rw[h.res,oU,if_pos hlt]
structure Wi(up:Nat->BT->BT->BT)(S0:TS)(X:List Nat)(t:BT)(S:TS)(W:List (Nat×BT))(m:BT):Prop where
 isM:bY S (-1) m.root m
 way:∀p,p∈W->bY S (-1) (p.1:Int) (.node p.1 p.2 .nil)
 far:∀y,y∉X->S0.at S y
 perm:(uQ W++m.nodes).Perm X
 res:t=ve up W m
theorem Down.turn{up:Nat->BT->BT->BT}{A:NS}{S0 S:TS}{ta tb a b:BT}{W:List (Nat×BT)}(h:Down up A S0 ta tb S W a b)(he:a=.nil\/b=.nil) :
  ∃m,m.root=(if a.root=-1 then b.root else a.root)/\Wi up S0 (ta.nodes++tb.nodes) (aI up A ta tb).1 S W m/\(aI up A ta tb).2=W.length/\(m=a\/m=b):=by
 rcases he with rfl|rfl
 ·refine⟨b,by simp[BT.root],⟨h.isB,h.way,h.far,by simpa[BT.nodes]using h.perm,by rw[h.res,mg]⟩,by rw[h.res,mg];simp,Or.inr rfl⟩
 ·refine⟨a,?_,⟨h.isA,h.way,h.far,by simpa[BT.nodes]using h.perm,by rw[h.res,oP]⟩,by rw[h.res,oP];simp,Or.inl rfl⟩
  split
  ·rename_i e;rw[e];rfl
  ·rfl
theorem Wi.turn{up:Nat->BT->BT->BT}{S0 S2 S3:TS}{X:List Nat}{t m l:BT}{x:Nat}{W:List (Nat×BT)}(U:Wi up S0 X t S2 (W++[(x,l)]) m)(K:Uc up)(hX:X.Nodup)
  (hT:bY S3 (-1) x (up x l m)) (Es:∀y,y≠x->y∉l.nodes->y∉m.nodes->S2.at S3 y):Wi up S0 X t S3 W (up x l m):=by
 have hp:=U.perm;rw[pU,List.append_assoc]at hp;have hnd:=hp.nodup_iff.2 hX;rw[θ]at hnd;obtain⟨n1,n2,n3⟩:=hnd;refine⟨by rw[K.root];exact hT,fun p hpW=>?_,fun y hy=>?_,?_,by rw[U.res,AJ]⟩
 ·have hw:=Ff hpW;refine(U.way p (List.mem_append_left _ hpW)).frame (fun y hy=>?_);have hyw:y∈uQ W:=by
   simp only[BT.nodes,List.append_nil,ρ]at hy;rcases hy with rfl|hy
   ·exact hw.1
   ·exact hw.2 y hy
  exact Es y (fun e=>n3 y hyw x σ e) (fun hm=>n3 y hyw y (by simp[hm]) rfl) (fun hm=>n3 y hyw y (by simp[hm]) rfl)
 ·have h1:=U.far y hy;have h2:=Es y (fun e=>hy (hp.mem_iff.1 (by rw[e];simp))) (fun hm=>hy (hp.mem_iff.1 (by simp[hm]))) (fun hm=>hy (hp.mem_iff.1 (by simp[hm])));exact⟨h2.1.trans h1.1,h2.2.1.trans h1.2.1,h2.2.2.trans h1.2.2⟩
 ·refine List.Perm.trans (List.Perm.append_left _ (K.nodes x l m)) ?_;simpa using hp
theorem Wi.len{up:Nat->BT->BT->BT}{S0 S:TS}{X:List Nat}{t m:BT}{W:List (Nat×BT)}(U:Wi up S0 X t S W m):W.length<=X.length:=by
 have:=U.perm.length_eq;rw[υ]at this;have h2:W.length<=(uQ W).length:=by
  clear this U
  induction W with
  | nil=>simp
  | cons p t ih=>unfold uQ at *;simp only[List.flatMap_cons,υ,List.length_cons];omega
 omega
theorem Down.len{up:Nat->BT->BT->BT}{A:NS}{S0 S:TS}{ta tb a b:BT}{W:List (Nat×BT)}(U:Down up A S0 ta tb S W a b):W.length+a.nodes.length+b.nodes.length<=(ta.nodes++tb.nodes).length:=by
 have:=U.perm.length_eq;rw[υ,υ]at this;have h2:W.length<=(uQ W).length:=by
  clear this U
  induction W with
  | nil=>simp
  | cons p t ih=>unfold uQ at *;simp only[List.flatMap_cons,υ,List.length_cons];omega
 omega
theorem CW{S0 S2:TS}{X:List Nat}{t m l:BT}{x:Nat}{W:List (Nat×BT)}{Bv Ud:Nat->Nat}{up:Nat->BT->BT->BT}(U:Wi up S0 X t S2 (W++[(x,l)]) m)(hX:X.Nodup)
  (hk:∀y,y≠x->Ud y=Bv y) (hr:∀p,p∈W->gH Bv p.2):∀p,p∈W->gH Ud p.2:=fun p hp=>by
 have hpx:=U.perm;rw[pU,List.append_assoc]at hpx;have hnd:=hpx.nodup_iff.2 hX;rw[θ]at hnd;exact(hr p hp).frame (fun y hy=>hk y (fun e=>hnd.2.2 y ((Ff hp).2 y hy) x σ e))
section
variable {w:World}{B:LB}{F:List Nat}{gt ct:Nat}{A:NS}{st:Nat}{S:TS}{rk:Nat->Nat}{aj:List Int}
theorem Om(h:lQ w B F gt ct A st S rk aj){p:Int}{x:Nat}{l r:BT}(hT:bY S p x (.node x l r))(hx:x<A.cs.length)(hr:∀y,y∈r.nodes->y<A.cs.length) :
  Calls Tryz.prog 244 #[.pointer (some ⟨B.bt,0,none⟩),.int .i64 r.root] w fun e w'=>(∃v,e=.returned v)/\lQ w' B F gt ct A st (zX S x r) rk aj/\aa [B.ba] w w':=by
 cases r with
 | nil=>
  refine(D9 B.bt B.ba A.cs.length S (-1) w h.trees (by unfold pE;simp)).mono ?_;rintro e w' ⟨rfl,rfl⟩;exact⟨⟨_,rfl⟩,h,aa.refl _ _⟩
 | node y a b=>
  obtain⟨_,_,_,hr'⟩:=hT;have e1:S.r x=y:=hr'.1;have e2:S.u y=x:=hr'.2.1;refine(DV B.bt B.ba A.cs.length S x y w h.trees hx (hr y (by simp[BT.nodes])) e2).mono ?_;rintro e w' ⟨rfl,hT,hu⟩;exact⟨⟨_,rfl⟩,h.iO hu hT,hu⟩
theorem Ke(h:lQ w B F gt ct A st S rk aj){p:Int}{x:Nat}{l r:BT}(hT:bY S p x (.node x l r))(hx:x<A.cs.length) :
  Calls Tryz.prog 249 #[.pointer (some ⟨B.bt,0,none⟩),.int .i64 (x:Int)] w fun e w'=>e=.returned (.tuple #[.int .i64 (tv r.root),.bool (tb r.root)])/\aa [] w w':=by
 have e:gY A.cs.length S (x:Int) true=r.root:=by
  unfold gY TS.kid;rw[if_pos ω];simp only[if_true,π];exact hT.2.2.2.root
 refine(qg B.bt B.ba A.cs.length S (x:Int) w h.trees).mono ?_;rw[e];rintro e w' ⟨rfl,k,rfl⟩;exact⟨rfl,(aa.refl _ _).drewN k⟩
def Jr(W:List (Nat×BT)):List Value:=aQ (W.map fun p=>(p.1:Int))
theorem CV(W:List (Nat×BT))(x:Nat)(l:BT):Jr (W++[(x,l)])=Jr W++[.int .i64 (x:Int)]:=by unfold Jr aQ;simp
theorem vL(h:lQ w B F gt ct A st S rk aj){ta tb:BT}(ha:bY S (-1) ta.root ta)(hb:bY S (-1) tb.root tb)(hX:(ta.nodes++tb.nodes).Nodup)(hin:∀y,y∈ta.nodes++tb.nodes->bS A (y:Int)=true)(ra:gH rk ta)(rb:gH rk tb) :
  Calls Tryz.prog 246 #[.pointer (some ⟨B.n0,0,none⟩),.int .i64 ta.root,.int .i64 tb.root] w fun e w'=>e=.returned (.int .i64 (aI aB A ta tb).1.root)/\aa [B.c,B.ba,B.br] w w'/\
   ∃S' oF,lQ w' B F gt ct A (bT st (aI aB A ta tb).2) S' oF aj/\bY S' (-1) (aI aB A ta tb).1.root (aI aB A ta tb).1/\gH oF (aI aB A ta tb).1/\∀y,y∉ta.nodes++tb.nodes->S.at S' y/\oF y=rk y:=by
 have hblk:=h.lt;have qz:=h.cF;have hbl0:=hblk B.n0 (by simp[LB.blk]);have hbl1:=hblk B.bt (by simp[LB.blk]);have hbl2:=hblk B.ba (by simp[LB.blk]);have hbl3:=hblk B.br (by simp[LB.blk]);have hbl4:=hblk B.c (by simp[LB.blk,qz]);have hs:=χ h.sep;have hA:=h.cells.ok.c1;have hlt:Hid (∀y,y∈ta.nodes++tb.nodes->y<A.cs.length):=fun y hy=>((ah A y).1 (hin y hy)).1;have hXl:(ta.nodes++tb.nodes).length<=A.cs.length:=nG hX hlt.out;have YY:=χ h;have HBL:=χ hblk;have D0:=χ (Down.start aB A ha hb);have Pk:=χ hin;have HX:=χ hX;have RA:=χ (ψ ra rb);have hst:=h.cells.pF;clear h ha hb hblk qz hin hX ra rb
 go_enter Tryz.func246,Tryz.ntmps246
 go_wp2
 go_loopw [1,2,7] (fun a b way wr=>∃ (S1:TS) (W:List (Nat×BT)) (a1 b1:BT),a=.int .i64 a1.root/\b=.int .i64 b1.root/\wr.ownsRow w.heap.size 3 1 way W.length (Jr W)/\lQ wr B F gt ct A (bT st W.length) S1 rk aj/\Down aB A S ta tb S1 W a1 b1/\gH rk a1/\gH rk b1/\(∀p,p∈W->gH rk p.2)/\aa [B.c,B.ba] w wr) (fun _ _ way _=>(ta.nodes++tb.nodes).length-lenOf way)
 case atStart=>
  exact⟨S,[],ta,tb,rfl,rfl,⟨by simp[Jr,aQ],Or.inl ⟨rfl,rfl⟩⟩,by rw[List.length_nil,gK hst];exact YY.out.au β,D0.out,RA.out.1,RA.out.2,(fun p hp=>by cases hp),β⟩
 case round=>
  obtain⟨S1,W,a1,b1,rfl,rfl,ho,hM,hD,r1,r2,r3,hu⟩:=hrel;have HM:=χ hM;have HD:=χ hD;have HR:=χ (ψ r1 (ψ r2 r3));have HO:=χ ho;have hlen:=hD.len;have h0:=hM.h0;have h1:=hM.h1;clear hM hD r1 r2 r3;obtain⟨a5,c5,rfl,hc5⟩:=bq ho;have BF:∀g,(Value.slice a5 W.length c5).ownBlock=some g->w.heap.size<=g:=fun g hg=>(ho.lt g hg).1;have Rb:=χ BF;clear ho BF
  by_cases hne:a1=.nil\/b1=.nil
  ·obtain⟨m0,e0,U0,hcnt,hor⟩:=HD.out.turn hne;have hm0:gH rk m0:=by rcases hor with rfl|rfl;exact HR.out.1;exact HR.out.2.1
   have hz:a1.root=-1\/(a1.root≠-1/\b1.root=-1):=by
    rcases hne with rfl|rfl
    ·exact Or.inl rfl
    ·by_cases e:a1.root=-1
     ·exact Or.inl e
     ·exact Or.inr ⟨e,rfl⟩
   have HU:=χ (ψ U0 (ψ hm0 (ψ hcnt HR.out.2.2)));have hWl:=U0.len;have HUP:=χ hu;rw[←hcnt]at HM;clear hne hor U0 hm0 HR HD hcnt hu hlen h0;generalize a1.root=za at *;generalize b1.root=zb at *;have HEX:Hid (∃W2 U2:List (Nat×BT),W=W2++U2):=⟨W,[],σ⟩;have e9:∃z9,m0.root=z9:=⟨_,rfl⟩;obtain⟨z9,e9⟩:=e9;rw[e9]at e0;generalize hn0:W.length=n0 at *;have VN:=χ hn0;clear hn0;rcases hz with rfl|⟨hz1,rfl⟩
   all_goals
    first|rw[if_pos rfl]at e0|rw[if_neg hz1]at e0
    subst e0
    try (have hz2:(z9 != -1)=true:=by simpa using hz1)
    try (have hz3:(z9 == -1)=false:=by simpa using hz1)
    go_wp2
    go_loopw [9,10] (fun top i w5=>∃ (S2:TS) (W2 U2:List (Nat×BT)) (m:BT) (Bv:Nat->Nat),W=W2++U2/\top=.int .i64 m.root/\i=.int .i64 ((W2.length:Int)-1)/\lQ w5 B F gt ct A (bT st (aI aB A ta tb).2) S2 Bv aj/\Wi aB S (ta.nodes++tb.nodes) (aI aB A ta tb).1 S2 W2 m/\gH Bv m/\(∀p,p∈W2->gH Bv p.2)/\(∀y,y∉ta.nodes++tb.nodes->Bv y=rk y)/\aa [B.ba,B.br] wr w5) (fun _ i _=>(intOf i+1).toNat)
    case atStart=>exact⟨S1,W,[],m0,rk,σ,by rw[e9],by rw[VN.out],HM.out,HU.out.1,HU.out.2.1,HU.out.2.2.2,fun _ _=>rfl,aa.refl _ _⟩
    case round=>
     obtain⟨S2,W2,U2,m,Bv,rfl,rfl,rfl,hM,hU,r1,r2,r3,hu⟩:=hrel;rename World=>w5;rcases List.eq_nil_or_concat W2 with rfl|⟨W3,⟨x,l⟩,rfl⟩
     ·have e0:=hU.res;simp only[ve]at e0;simp only[List.length_nil];go_wp2;go_ret;rw[e0];exact⟨rfl,(HUP.out.mono σ).trans (hu.mono σ),S2,Bv,hM,hU.isM,r1,fun y hy=>⟨hU.far y hy,r3 y hy⟩⟩
     ·have hpx:=hU.perm;simp only[List.concat_eq_append]at *;rw[pU,List.append_assoc]at hpx;have BQ:∀q,q∈(x::l.nodes)++m.nodes->q<A.cs.length:=fun q hq=>hlt.out q (hpx.mem_iff.1 (List.mem_append_right _ hq));have hnd:((x::l.nodes)++m.nodes).Nodup:=(θ.1 (hpx.nodup_iff.2 HX.out)).2.1;have hxA:=BQ x σ;obtain⟨g,cap,ee,hI,hg⟩:=IZ.iY (l:=(W3++[(x,l)]++U2).map fun p=>(p.1:Int)) (by rw[List.length_map,VN.out];exact aC HO.out hu (fun k hk=>by have:=Rb.out k hk;simp;omega)) ζ;rw[List.length_map,VN.out]at ee
      injection ee with ee1 ee2 ee3
      subst ee1 ee3;have dz:=hI.cell W3.length σ;rw[show(((W3++[(x,l)]++U2).map fun p=>(p.1:Int)).getD W3.length 0)=(x:Int) by simp[φ]]at dz;have h0:=hM.h0;have h1:=hM.h1;have vQ:=χ hM;have JX:=χ hU;have XO:=χ (ψ r1 (ψ r2 r3));have Ja:=χ (ψ BQ hnd);have hTx:=hU.way (x,l) σ;have ZL:=χ hTx;have HPX:=χ hpx;have hil:((W3++[(x,l)]).length:Int)-1=W3.length:=σ;rw[hil];have hi0:((W3.length:Int)≥0):=ω;have hWn:W3.length+1+U2.length=n0:=by have:=VN.out;simp at this;omega
      have hW3:W3.length<=65536:=ω;clear hM hU r1 r2 r3 BQ hnd hTx hpx hil hI ee2
      by_cases hm:m=.nil
      ·subst hm;simp only[BT.root]
       go_wp2_with fail
       have y9:bY S2 (-1) x (.node x l .nil):=ZL.out;refine(qL vQ.out y9 (XO.out.2.1 (x,l) σ) XO.out.1 (by simpa[BT.nodes]using Ja.out.2) (fun q hq=>Ja.out.1 q (by simpa[BT.nodes]using hq))).mono ?_;rintro e w7 ⟨rfl,kE,S3,Ud,I9,UK,UN,hs7,_,XG⟩;have ZZ:=χ I9;have zg:=χ (ψ UK (ψ UN (ψ hs7 XG)));have Z5:=χ (hu.trans kE);clear I9 UK UN hs7 XG hu kE ZL h0 h1 dz;go_wp2
       go_roundw
       case rel=>
        refine⟨S3,W3,(x,l)::U2,aB x l .nil,Ud,σ,congrArg (Value.int .i64) (jE x l .nil).symm,by go_num,ZZ.out,JX.out.turn nQ HX.out zg.out.1 (fun y h1 _ _=>zg.out.2.2.1 y h1),zg.out.2.1,?_,?_,Z5.out⟩
        ·exact CW JX.out HX.out zg.out.2.2.2 (fun p hp=>XO.out.2.1 p (List.mem_append_left _ hp))
        ·exact fun y hy=>(zg.out.2.2.2 y (fun e=>hy (by rw[e];exact HPX.out.mem_iff.1 σ))).trans (XO.out.2.2 y hy)
       case measure=>simp[intOf]
      ·obtain⟨mr,hmr⟩:∃mr:Nat,m.root=mr:=⟨_,BT.yg hm⟩;have hmm:=(bL hm).1;rw[hmr,π]at hmm;have y9:bY S2 (-1) x (.node x l .nil):=ZL.out;have Y0:=JX.out.isM;have hur:S2.u mr=-1:=by
        cases m with
        | nil=>exact absurd rfl hm
        | node q a b=>
         have e:q=mr:=by have e':(q:Int)=mr:=hmr;omega
         subst e;exact Y0.2.1
       have hnd:=Ja.out.2;have hxm:x≠mr:=fun e=>by
        rw[θ]at hnd;exact hnd.2.2 x σ mr hmm e
       obtain⟨BA,UD⟩:=Dl (m:=m) y9 Y0 hm (by simpa[BT.nodes]using hnd);rw[hmr]at BA UD;have HT3:=χ (ψ BA (ψ hm UD));have kh:=fun W (hW:aa [] w5 W)=>Ac B.bt B.ba A.cs.length S2 x mr true W ((vQ.out.au hW).trees) hxA (Ja.out.1 mr (List.mem_append_right _ hmm)) hxm hur y9.2.2.2;have HMR:=χ hmr;rw[hmr];have hz4:((mr:Int) != -1)=true:=σ;have rr1:∀W,aa [B.ba] w5 W->W.cell? ⟨B.n0,1,none⟩=some (.pointer (some ⟨B.bt,0,none⟩)):=fun W hW=>hW.kept h1 (by have:=hs.out;simp;omega);have rr2:∀W,aa [B.ba] w5 W->W.cell? ⟨g,W3.length,none⟩=some (.int .i64 (x:Int)):=fun W hW=>hW.kept dz ζ
       clear y9 Y0 hur hnd BA UD hm hmr h0 h1 dz hmm
       go_wp2_with fail
       have BP:(0:Int)<=(W3.length:Int):=ω;have Hy:(W3.length:Int)<(n0:Int):=ω
       go_region_held3 (aa [B.ba] w5) (exact ν)
        ((go_at_call 251;(with_reducible refine(kh _ β).mono ?_);rintro e w6 ⟨rfl,Nk,ik⟩;(have Vs:aa [B.ba] w5 w6:=ν)))
       have dz6:=rr2 w6 Vs;have wT:=χ (vQ.out.iO Vs Nk);clear rr1 rr2 kh ik Nk
       go_wp2_with fail
       refine(qL wT.out HT3.out.1 (XO.out.2.1 (x,l) σ) XO.out.1 (by simpa[BT.nodes]using Ja.out.2) (fun q hq=>Ja.out.1 q (by simpa[BT.nodes]using hq))).mono ?_;rintro e w7 ⟨rfl,kE,S3,Ud,I9,UK,UN,hs7,_,XG⟩;have ZZ:=χ I9;have zg:=χ (ψ UK (ψ UN (ψ hs7 XG)));have Z5:=χ (hu.trans ((Vs.mono σ).trans kE));clear I9 UK UN hs7 XG hu kE ZL dz6 Vs;go_wp2
       go_roundw
       case rel=>
        refine⟨S3,W3,(x,l)::U2,aB x l m,Ud,σ,by rw[jE],by go_num,ZZ.out,JX.out.turn nQ HX.out zg.out.1 (fun y h1 _ h3=>?_),zg.out.2.1,?_,?_,Z5.out⟩
        ·have a1:=HT3.out.2.2 y h1 h3;have a2:=zg.out.2.2.1 y h1;exact⟨a2.1.trans a1.1,a2.2.1.trans a1.2.1,a2.2.2.trans a1.2.2⟩
        ·exact CW JX.out HX.out zg.out.2.2.2 (fun p hp=>XO.out.2.1 p (List.mem_append_left _ hp))
        ·exact fun y hy=>(zg.out.2.2.2 y (fun e=>hy (by rw[e];exact HPX.out.mem_iff.1 σ))).trans (XO.out.2.2 y hy)
       case measure=>simp[intOf]
  ·obtain⟨x,l,r,rfl⟩:∃x l r,a1=.node x l r:=by
    cases a1 with
    | nil=>exact absurd (Or.inl rfl) hne
    | node x l r=>exact⟨x,l,r,rfl⟩
   obtain⟨y,l',r',rfl⟩:∃x l r,b1=.node x l r:=by
    cases b1 with
    | nil=>exact absurd (Or.inr rfl) hne
    | node x l r=>exact⟨x,l,r,rfl⟩
   clear hne;have hmx:∀z,z∈(BT.node x l r).nodes++(BT.node y l' r').nodes->z∈ta.nodes++tb.nodes:=fun z hz=>HD.out.perm.mem_iff.1 (List.mem_append_right _ hz);have hxm:=hmx x (by simp[BT.nodes]);have hym:=hmx y (by simp[BT.nodes]);have hWl:W.length+2<=(ta.nodes++tb.nodes).length:=by simp only[BT.nodes,List.length_cons,υ]at hlen⊢;omega
   have UA:=χ hmx;have hxb:((x:Int) != -1)=true:=σ;have hyb:((y:Int) != -1)=true:=σ;clear hmx hlen;have kA:=fA HM.out.cells y x (Pk.out y hym) (Pk.out x hxm);obtain⟨sw,hsw⟩:∃sw,decide (bZ A y x)=sw:=⟨_,rfl⟩;rw[hsw]at kA;have KEY:∃ (z:Nat) (lz rz o:BT),z=(if sw then y else x)/\Down aB A S ta tb (zX S1 z rz) (W++[(z,lz)]) rz o/\bY S1 (-1) z (.node z lz rz)/\gH rk lz/\gH rk rz/\gH rk o/\z<A.cs.length/\(∀q,q∈rz.nodes->q<A.cs.length)/\o.root=(if sw then (x:Int)else (y:Int)):=by
    cases sw with
    | true=>
     exact⟨y,l',r',.node x l r,rfl,HD.out.takeB HX.out (of_decide_eq_true hsw),HD.out.isB,HR.out.2.1.2.1,HR.out.2.1.2.2,HR.out.1,hlt.out y hym,fun q hq=>hlt.out q (UA.out q (by simp[BT.nodes,hq])),rfl⟩
    | false=>
     exact⟨x,l,r,.node y l' r',rfl,HD.out.takeA HX.out (of_decide_eq_false hsw),HD.out.isA,HR.out.1.2.1,HR.out.1.2.2,HR.out.2.1,hlt.out x hxm,fun q hq=>hlt.out q (UA.out q (by simp[BT.nodes,hq])),rfl⟩
   obtain⟨z,lz,rz,o,ez,hD2,hTz,q1,q2,q3,hz,hrz,eo⟩:=KEY;have HD2:=χ hD2;have HT:=χ hTz;have HQ:=χ (ψ q1 (ψ q2 (ψ q3 hrz)));clear hD2 hTz q1 q2 q3 hrz hsw;simp only[BT.root];cases sw
   all_goals
    simp only[if_true,if_false,Bool.false_eq_true]at ez eo;subst ez
    go_wp2_with fail
    refine kA.mono ?_;rintro e w1 ⟨rfl,jr,hu1⟩;have hM1:=χ (HM.out.cB (hu1.mono (by simp[HM.out.cF])) jr (fun x hx=>Or.inl hx) rfl rfl);have hss:bT (bT st W.length) 1=bT st (W.length+1):=iZ _ _ _;rw[hss]at hM1;have ho1:=aC HO.out hu1 (fun k hk=>by have:=Rb.out k hk;simp;omega);have h01:=hM1.out.h0;have h11:=hM1.out.h1;clear h0 h1 kA hss;have Vx:=χ (ψ hu hu1);clear hu hu1 jr;have HGB:Hid (∀g,g∈(Value.slice a5 W.length c5).ownBlock.toList->g∉B.blk F gt):=fun g hg hb=>by
     have h1:=Rb.out g (Option.mem_toList.1 hg);have h2:=HBL.out g hb;omega
    have hsz1:w.heap.size<=w1.heap.size:=(Vx.out.1.trans (Vx.out.2.mono σ)).size
    go_wp2_with (first
     | ((at_builtin;refine aX rfl _ _ 26 rfl w.heap.size 3 (.int .i64 0) 1 8 Tryz.underlying26 fF rfl δ _ _ _ rfl (ho1) [.int .i64 (z:Int)] rfl (by simp[Value.oneCell']) (by first|rfl|(rw[World.size_alloc];rfl)) μ ω (ω) ?_;intro v2 w2 ho2 hu2 mQ);(have hM2:=χ (hM1.out.upd hu2 HGB.out));(have k12:=hM2.out.h1);(have kr:=Ke hM2.out HT.out hz))
     | (go_at_call 249;(with_reducible refine(kr).mono ?_);rintro e w3 ⟨rfl,hu3⟩;(have k13:=hu3.was k12);(have jR:=χ (hM2.out.au hu3));(have kc:=Om jR.out HT.out hz HQ.out.2.2.2))
     | (go_at_call 247;(with_reducible refine(om _ _).mono ?_);rintro e w9 ⟨rfl,aJ⟩;rw[aJ];clear aJ w9)
     | (go_at_call 244;(with_reducible refine(kc).mono ?_);rintro e w4 ⟨⟨v4,rfl⟩,rW,gX⟩)
     | fail)
    obtain⟨a6,c6,rfl,hc6⟩:=bq ho2;have Yp:∀k,(Value.slice a6 (W.length+1) c6).ownBlock=some k->w.heap.size<=k:=fun k hk=>(ho2.lt k hk).1;refine⟨⟨_,W++[(z,lz)],rz,o,rfl,congrArg (Value.int .i64) eo.symm,?_,?_,HD2.out,HQ.out.2.1,HQ.out.2.2.1,?_,?_⟩,?_⟩
    ·rw[CV,υ,List.length_singleton];exact aC (aC ho2 hu3 σ) gX (fun k hk=>by have:=Yp k hk;simp;omega)
    ·rw[υ,List.length_singleton];exact rW
    ·intro p hp;rcases τ.1 hp with hp|hp
     ·exact HR.out.2.2 p hp
     ·simp only[List.mem_singleton]at hp;subst hp;exact HQ.out.1
    ·have v1:aa [B.c,B.ba] w w1:=Vx.out.1.trans (Vx.out.2.mono σ);have v2:aa [B.c,B.ba] w w2:=v1.joined hu2 (fun g hg=>Or.inr (Rb.out g (Option.mem_toList.1 hg)));exact(v2.trans (hu3.mono σ)).trans (gX.mono σ)
    ·show(ta.nodes++tb.nodes).length-(W.length+1)<(ta.nodes++tb.nodes).length-W.length
     omega
end
structure yt(S0:TS)(NC:Nat->Nat)(T:BT)(X:List Nat)(S:TS)(rk:Nat->Nat)(P:List Fr)(was x:Nat)(l r:BT):Prop where
 Ec:bY S (-1) (ai P (.node x l r)).root (ai P (.node x l r))
 perm:(ai P (.node x l r)).nodes.Perm X
 rl:gH rk l
 rr:gH rk r
 rx:rk x=was
 rP:Ro rk P was
 far:∀y,y∉X->S0.at S y/\rk y=NC y
 res:lq P was x l r=T
structure tL(S0:TS)(NC:Nat->Nat)(T:BT)(X:List Nat)(S:TS)(rk:Nat->Nat):Prop where
 Ec:bY S (-1) T.root T
 isR:gH rk T
 far:∀y,y∉X->S0.at S y/\rk y=NC y
section
variable {S0 S S2:TS}{NC rk Bv:Nat->Nat}{T:BT}{X:List Nat}{P:List Fr}{was x:Nat}{l r:BT}
theorem yt.parts(h:yt S0 NC T X S rk P was x l r)(hX:X.Nodup):x∈X/\(BT.node x l r).nodes.Nodup/\(∀y,y∈(BT.node x l r).nodes->y∈X)/\(∀y,y∈dJ P->y≠x/\y∈X)/\(dJ P).Nodup:=by
 have hp:=(aP P (.node x l r)).symm.trans h.perm;have hn:=hp.nodup_iff.2 hX;rw[θ]at hn;refine⟨hp.mem_iff.1 (by simp[BT.nodes]),hn.1,fun y hy=>hp.mem_iff.1 (List.mem_append_left _ hy),fun y hy=>⟨fun e=>hn.2.2 x (by simp[BT.nodes]) y hy e.symm,hp.mem_iff.1 (List.mem_append_right _ hy)⟩,hn.2.1⟩
theorem yt.settled(h:yt S0 NC T X S rk P was x l r)(hX:X.Nodup)(y9:bY S2 (CR P) x (aB x l r))(hs:∀y,y≠x->S.at S2 y)(hk:∀y,y≠x->Bv y=rk y) :
  bY S2 (-1) (ai P (aB x l r)).root (ai P (aB x l r))/\Ro Bv P was/\(∀y,y∉X->S0.at S2 y/\Bv y=NC y)/\(ai P (aB x l r)).nodes.Perm X:=by
 obtain⟨p1,p2,p3,p4,p5⟩:=h.parts hX;refine⟨(dZ _ _).2 ⟨by rw[jE];exact y9,?_⟩,h.rP.frame (fun y hy=>hk y (p4 y hy).1),fun y hy=>?_,?_⟩
 ·have:=((dZ _ _).1 h.Ec).2;rw[jE];exact this.frame (fun y hy=>hs y (p4 y hy).1)
 ·have hne:y≠x:=fun e=>hy (by rw[e];exact p1);have a1:=h.far y hy;have a2:=hs y hne;exact⟨⟨a2.1.trans a1.1.1,a2.2.1.trans a1.1.2.1,a2.2.2.trans a1.1.2.2⟩,(hk y hne).trans a1.2⟩
 ·exact(aP P _).trans (((lF x l r).append_right _).trans ((aP P (.node x l r)).symm.trans h.perm))
theorem yt.stay(h:yt S0 NC T X S rk P was x l r)(hX:X.Nodup)(y9:bY S2 (CR P) x (aB x l r))(hr2:gH Bv (aB x l r))(hs:∀y,y≠x->S.at S2 y)(hk:∀y,y≠x->Bv y=rk y)
  (e:(aB x l r).rank=was):tL S0 NC T X S2 Bv:=by
 obtain⟨a1,a2,a3,a4⟩:=h.settled hX y9 hs hk;have hT:T=ai P (aB x l r):=by
  rw[←h.res];cases P with
  | nil=>rfl
  | cons f P=>unfold lq;rw[if_pos e]
 rw[hT];exact⟨a1,(yX _ _).2 ⟨hr2,by rw[e];exact a2⟩,a3⟩
theorem yt.top(h:yt S0 NC T X S rk [] was x l r)(hX:X.Nodup)(y9:bY S2 (CR []) x (aB x l r))(hr2:gH Bv (aB x l r))(hs:∀y,y≠x->S.at S2 y)(hk:∀y,y≠x->Bv y=rk y) :
  tL S0 NC T X S2 Bv:=by
 obtain⟨a1,a2,a3,a4⟩:=h.settled hX y9 hs hk;have hT:T=ai [] (aB x l r):=by rw[←h.res];rfl
 rw[hT];exact⟨a1,hr2,a3⟩
theorem yt.up{f:Fr}(h:yt S0 NC T X S rk (f::P) was x l r)(hX:X.Nodup)(y9:bY S2 (CR (f::P)) x (aB x l r))(hr2:gH Bv (aB x l r))(hs:∀y,y≠x->S.at S2 y)(hk:∀y,y≠x->Bv y=rk y)
  (e:(aB x l r).rank≠was):∃l' r',yt S0 NC T X S2 Bv P (lG f was) f.1 l' r':=by
 obtain⟨a1,a2,a3,a4⟩:=h.settled hX y9 hs hk;have hres:=h.res;unfold lq at hres;rw[if_neg e]at hres;unfold ai at a1 a4
 by_cases hsd:f.2.1=true
 ·rw[if_pos hsd]at hres;have e1:bB f (aB x l r)=.node f.1 f.2.2 (aB x l r):=by unfold bB;rw[if_pos hsd]
  rw[e1]at a1 a4;exact⟨_,_,a1,a4,a2.1,hr2,a2.2.1,a2.2.2,a3,hres⟩
 ·rw[if_neg hsd]at hres;have e1:bB f (aB x l r)=.node f.1 (aB x l r) f.2.2:=by unfold bB;rw[if_neg hsd]
  rw[e1]at a1 a4;exact⟨_,_,a1,a4,hr2,a2.1,a2.2.1,a2.2.2,a3,hres⟩
end
theorem MR:∀ {P:List Fr},(dJ P).Nodup->(P.map (·.1)).Nodup/\∀y,y∈P.map (·.1)->y∈dJ P
 | [],_=>⟨List.nodup_nil,fun y hy=>by cases hy⟩
 | f::P,h=>by
  simp only[dJ,List.nodup_cons,τ,not_or,θ]at h;obtain⟨h1,h2⟩:=MR (P:=P) h.2.2.1;refine⟨List.nodup_cons.2 ⟨fun hm=>h.1.2 (h2 _ hm),h1⟩,fun y hy=>?_⟩;simp only[List.map_cons,ρ]at hy;rcases hy with rfl|hy
  ·simp[dJ]
  ·simp[dJ,h2 y hy]
theorem JM{L done rest:List Nat}{x:Nat}(hL:L.Nodup)(e:L=done++x::rest):L.idxOf x=done.length/\done.length<L.length:=by
 subst e;have hx:x∉done:=fun hm=>by
  rw[θ]at hL;exact hL.2.2 x hm x σ rfl
 refine⟨by rw[List.idxOf_append,if_neg hx];simp,σ⟩
section
variable {w:World}{B:LB}{F:List Nat}{gt ct:Nat}{A:NS}{st:Nat}{S:TS}{rk:Nat->Nat}{aj:List Int}
theorem Cs(h:lQ w B F gt ct A st S rk aj){P:List Fr}{was x:Nat}{l r:BT}(hM:yt S rk (lq P was x l r) (ai P (.node x l r)).nodes S rk P was x l r)(hX:(ai P (.node x l r)).nodes.Nodup)
  (hlt:∀y,y∈(ai P (.node x l r)).nodes->y<A.cs.length) :
  Calls Tryz.prog 245 #[.pointer (some ⟨B.n0,0,none⟩),.int .i64 (x:Int)] w fun e w'=>e=.returned (.tuple #[])/\aa [B.ba,B.br] w w'/\
   ∃S' oF,lQ w' B F gt ct A st S' oF aj/\tL S rk (lq P was x l r) (ai P (.node x l r)).nodes S' oF:=by
 generalize hT:lq P was x l r=T at *;generalize hXX:(ai P (.node x l r)).nodes=X at *;have hL:(x::P.map (·.1)).Nodup:=by
  obtain⟨p1,p2,p3,p4,p5⟩:=hM.parts hX;obtain⟨q1,q2⟩:=MR p5;exact List.nodup_cons.2 ⟨fun hm=>(p4 x (q2 x hm)).1 rfl,q1⟩
 generalize hLL:x::P.map (·.1)=L at *;have hblk:=h.lt;have qz:=h.cF;have hs:=χ h.sep;have hA:=h.cells.ok.c1;have YY:=χ h;have MM:=χ hM;have HX:=χ hX;have HL:=χ hL;have HLL:=χ hLL;have XX:=χ hlt;clear h hM hX hL hlt hT hXX hblk hLL
 go_enter Tryz.func245,Tryz.ntmps245
 go_wp2
 go_loopw [1] (fun a wr=>∃ (S1:TS) (rk1:Nat->Nat),lQ wr B F gt ct A st S1 rk1 aj/\aa [B.ba,B.br] w wr/\((∃ (P1:List Fr) (M3 x1:Nat) (l1 r1:BT) (dn:List Nat),a=.int .i64 (x1:Int)/\L=dn++x1::P1.map (·.1)/\yt S rk T X S1 rk1 P1 M3 x1 l1 r1)\/(a=.int .i64 (-1)/\tL S rk T X S1 rk1))) (fun a _=>if intOf a=-1 then 0 else L.length-L.idxOf (intOf a).toNat)
 case atStart=>exact⟨S,rk,YY.out,aa.refl _ _,Or.inl ⟨P,was,x,l,r,[],rfl,HLL.out.symm,MM.out⟩⟩
 case round=>
  obtain⟨S1,rk1,hM,hu,hor⟩:=hrel;rename World=>w5;rcases hor with⟨P1,M3,x1,l1,r1,dn,rfl,hLe,hMe⟩|⟨rfl,hE⟩
  ·have hxb:((x1:Int) != -1)=true:=σ;obtain⟨p1,p2,p3,p4,p5⟩:=hMe.parts HX.out;have hx1:=XX.out x1 p1;have h0:=hM.h0;have h2:=hM.h2;have d0:=hM.ranks.cell x1 hx1;have ex:=hMe.rx;rw[ex]at d0;have hT1:=((dZ _ _).1 hMe.Ec).1;have ks:=qL hM (p:=CR P1) hT1 hMe.rl hMe.rr p2 (fun y hy=>XX.out y (p3 y hy));have ME:=χ hMe;have HLe:=χ hLe;have hu1:S1.u x1=CR P1:=hT1.2.1;have HPU:=χ hu1;clear hMe p1 p2 p3 p4 p5 hT1 hM ex hLe hu1
   go_wp2_with fail
   refine ks.mono ?_;rintro e w7 ⟨rfl,kE,S3,Ud,I9,UK,UN,hs7,hsu,XG⟩;have e7:Ud x1=(aB x1 l1 r1).rank:=by
    have:=UN.root (by unfold aB;split<;>simp);rw[jE]at this;simpa using this
   have g2:=I9.h2;have g1:=I9.h1;have d7:=I9.ranks.cell x1 hx1;rw[e7]at d7;have hsu2:S3.u x1=CR P1:=hsu.trans HPU.out;have ku:=QT B.bt B.ba A.cs.length S3 (x1:Int) w7 I9.trees;rw[show pE A.cs.length S3 (x1:Int)=CR P1 by unfold pE;rw[if_pos ω];simpa using hsu2]at ku;have ZZ:=χ I9;have zg:=χ (ψ UK (ψ UN (ψ hs7 XG)));have Z5:=χ (hu.trans kE);have Mo:∃k3,(aB x1 l1 r1).rank=k3:=⟨_,rfl⟩;obtain⟨k3,Mo⟩:=Mo;rw[Mo]at d7;have HRK:=χ Mo;clear I9 UK UN hs7 XG hu kE hsu hsu2 e7 ks h0 h2 d0 Mo HPU
   by_cases he:k3=M3
   ·have hb:((k3:Int) == (M3:Int))=true:=by rw[he];simp
    go_wp2;exact bodyPost_ret (v:=.tuple #[]) (by simp[results,Tryz.results245,go_sem]) rfl ⟨rfl,Z5.out,S3,Ud,ZZ.out,ME.out.stay HX.out zg.out.1 zg.out.2.1 zg.out.2.2.1 zg.out.2.2.2 (HRK.out.trans he)⟩
   ·have hb:((k3:Int) == (M3:Int))=false:=ζ;have HNE:=χ (show(aB x1 l1 r1).rank≠M3 from fun e=>he (HRK.out.symm.trans e));generalize hz:CR P1=z at *;clear he
    go_wp2_with (first
     | (go_at_call 250;(with_reducible refine(ku).mono ?_);rintro e w8 ⟨rfl,kk,rfl⟩)
     | (go_at_call 247;(with_reducible refine(om _ _).mono ?_);rintro e w9 ⟨rfl,aJ⟩;rw[aJ];clear aJ w9)
     | fail)
    cases P1 with
    | nil=>
     subst hz;refine⟨⟨S3,Ud,ZZ.out.au ((aa.refl _ _).drewN kk),Z5.out.drewN kk,Or.inr ⟨rfl,ME.out.top HX.out zg.out.1 zg.out.2.1 zg.out.2.2.1 zg.out.2.2.2⟩⟩,?_⟩;have hi:=JM HL.out HLe.out
     show(if ((-1:Int))=-1 then 0 else _)<(if ((x1:Int))=-1 then 0 else L.length-L.idxOf ((x1:Int)).toNat)
     rw[if_pos rfl,if_neg ω,π,hi.1];omega
    | cons f P2=>
     subst hz;obtain⟨l2,r2,hM2⟩:=ME.out.up HX.out zg.out.1 zg.out.2.1 zg.out.2.2.1 zg.out.2.2.2 HNE.out;refine⟨⟨S3,Ud,ZZ.out.au ((aa.refl _ _).drewN kk),Z5.out.drewN kk,Or.inl ⟨P2,_,f.1,l2,r2,dn++[x1],rfl,by rw[HLe.out];simp,hM2⟩⟩,?_⟩;have hi:=JM HL.out HLe.out;have hi2:=JM (done:=dn++[x1]) (x:=f.1) (rest:=P2.map (·.1)) HL.out (by rw[HLe.out];simp)
     show(if ((f.1:Int))=-1 then 0 else L.length-L.idxOf ((f.1:Int)).toNat)<(if ((x1:Int))=-1 then 0 else L.length-L.idxOf ((x1:Int)).toNat)
     rw[if_neg ω,if_neg ω,π,π,hi.1,hi2.1];rw[υ,List.length_singleton]at hi2⊢;omega
  ·go_wp2
   (first|go_end0|go_ret)
   exact⟨rfl,hu,S1,rk1,hM,hE⟩
end
def mK(w:World)(B:LB)(F:List Nat)(gt ct:Nat)(A:NS)(st:Nat)(tr:Nat->BT):Prop:=
 ∃S rk aj,lQ w B F gt ct A st S rk aj/\TrI A S aj tr/\(∀h,Lean (tr h))/\(∀h,gH rk (tr h))
theorem mK.upd{w w':World}{B:LB}{F:List Nat}{gt ct:Nat}{A:NS}{st:Nat}{tr:Nat->BT}{G:List Nat}(h:mK w B F gt ct A st tr)(hu:aa G w w')(hG:∀x,x∈G->x∉B.blk F gt):mK w' B F gt ct A st tr:=by
 obtain⟨S,rk,aj,hM,h1,h2,h3⟩:=h;exact⟨S,rk,aj,hM.upd hu hG,h1,h2,h3⟩
theorem mK.au{w w':World}{B:LB}{F:List Nat}{gt ct:Nat}{A:NS}{st:Nat}{tr:Nat->BT}(h:mK w B F gt ct A st tr)(hu:aa [] w w'):mK w' B F gt ct A st tr:=h.upd hu σ
section
variable {w:World}{B:LB}{F:List Nat}{gt ct:Nat}{A:NS}{st:Nat}{tr:Nat->BT}
theorem GD(h:mK w B F gt ct A st tr)(hh x:Nat)(k s:Int)(hk:-9223372036854775808<=k/\k<=9223372036854775807/\0<=s/\s<=18446744073709551615)(hB:oG A hh x=true) :
  Calls Tryz.prog 240 #[.pointer (some ⟨B.n0,0,none⟩),.int .i64 (hh:Int),.int .i64 (x:Int),.agg #[.int .i64 k,.int .u64 s]] w fun e w'=>e=.returned (.bool true)/\aa (B.blk F gt) w w'/\
   mK w' B F gt ct (aK A hh x k s) (bT st (aI aB (aK A hh x k s) (tr hh) (single x)).2) (fun q=>if q=hh then (aI aB (aK A hh x k s) (tr hh) (single x)).1 else tr q):=by
 obtain⟨S,rk,aj,hM,hI,hL,hR⟩:=h;have hlt:=hM.lt;have ok:=hM.cells.ok;have ok':=zm ok hh x k s hk;obtain⟨b1,b2,b3⟩:=(fB _ _ _).1 hB;have b4:=(aV _ _).1 b1;have hx:x<A.cs.length:=by have:=(gU _ _).1 b2;omega
 have P6:(A.c x).i=0:=by
  have:=(ok.nat x hx).1;have h3:¬ (0<(A.c x).i):=fun h'=>by rw[(ah A x).2 ⟨hx,h'⟩]at b3;cases b3
  omega
 have hcs:(aK A hh x k s).cs.length=A.cs.length:=by unfold aK;rw[if_pos hB,fI]
 have lT:(aK A hh x k s).hs.length=A.hs.length:=by unfold aK;rw[if_pos hB];rfl
 have hcx:∀y,(aK A hh x k s).c y=if y=x then ⟨hh,k,s⟩else A.c y:=fun y=>by
  unfold aK;rw[if_pos hB,π,kH]
  by_cases e:y=x
  ·rw[if_pos ⟨e,hx⟩,if_pos e]
  ·rw[if_neg (fun h=>e h.1),if_neg e]
 have vv:x∉(tr hh).nodes:=hI.out P6;have hX:((tr hh).nodes++(single x).nodes).Nodup:=by
  rw[θ];refine⟨hI.nd hh,by simp[single,BT.nodes],fun a ha b hb e=>?_⟩;simp only[single,BT.nodes,List.append_nil,List.mem_singleton]at hb;exact vv (by rw[←hb,←e];exact ha)
 have hin:∀y,y∈(tr hh).nodes++(single x).nodes->bS (aK A hh x k s) (y:Int)=true:=fun y hy=>by
  rw[ah,hcs,hcx];simp only[single,BT.nodes,List.append_nil,τ,List.mem_singleton]at hy
  by_cases e:y=x
  ·rw[if_pos e,e];exact⟨hx,by show(0:Int)<(hh:Int);omega⟩
  ·rw[if_neg e];have:=(hI.mem hh y).1 (hy.resolve_right e);exact⟨this.2.1,ω⟩
 have Xm:Heap (aK A hh x k s) (tr hh):=(hI.heap hh).frame (fun y hy=>by rw[hcx,if_neg (fun e=>vv (by rw[←e];exact hy))]);obtain⟨mp,mh⟩:=mM nQ (aK A hh x k s) _ (tr hh) (single x) (Nat.le_refl _);have Yg:=mh Xm ⟨by simp[BT.nodes],by simp[BT.nodes],trivial,trivial⟩ hX;have ml:=vD (aK A hh x k s) _ (tr hh) (single x) (Nat.le_refl _) (hL hh) ⟨Nat.le_refl _,trivial,trivial⟩;have hfr:=hI.free x hx P6
 have FI:Hid (∀ (W:World) (S':TS) (oF:Nat->Nat) (st':Nat),lQ W B F gt ct (aK A hh x k s) st' S' oF (aj.set hh (aI aB (aK A hh x k s) (tr hh) (single x)).1.root)->bY S' (-1) (aI aB (aK A hh x k s) (tr hh) (single x)).1.root (aI aB (aK A hh x k s) (tr hh) (single x)).1->gH oF (aI aB (aK A hh x k s) (tr hh) (single x)).1->
   (∀y,y∉(tr hh).nodes++(single x).nodes->S.at S' y/\oF y=rk y)->mK W B F gt ct (aK A hh x k s) st' (fun q=>if q=hh then (aI aB (aK A hh x k s) (tr hh) (single x)).1 else tr q)):=fun W S' oF st' a1 a2 a3 a4=>by
  refine⟨S',oF,_,a1,hI.put ok hM.jw hB a2 mp Yg (fun y hy=>(a4 y hy).1),fun q=>?_,fun q=>?_⟩
  ·show Lean (if q=hh then _ else _)
   split
   ·exact ml
   ·exact hL q
  ·show gH oF (if q=hh then _ else _)
   split
   ·exact a3
   ·rename_i hq
    refine(hR q).frame (fun y hy=>(a4 y (fun hm=>?_)).2);simp only[single,BT.nodes,List.append_nil,τ,List.mem_singleton]at hm;rcases hm with hm|hm
    ·have c1:=(hI.mem hh y).1 hm;have c2:=(hI.mem q y).1 hy;omega
    ·exact hI.out (g:=q) P6 (by rw[←hm];exact hy)
 have Xp:=hI.Ec hh;have hRh:=hR hh;have htop:=hI.top hh ω;have hgn:hh<aj.length:=by rw[hM.jw];omega
 have u1:aa [] w (w.alloc (.cells #[.int .i64 k,.int .u64 s] 129)):=(aa.refl _ _).alloc _;have kp:=fun W (hW:aa [] (w.alloc (.cells #[.int .i64 k,.int .u64 s] 129)) W)=>nW (hM.cells.au (u1.trans hW)) hh x k s hk hB;have h0:=hM.h0;have uW:B.n0∉F:=hM.bG.1;have hsz:w.heap.size∉F:=fun hm=>by have:=hlt w.heap.size (by simp[LB.blk,hm]);omega
 have r0:∀W,aa F (w.alloc (.cells #[.int .i64 k,.int .u64 s] 129)) W->W.cell? ⟨B.n0,0,none⟩=some (.pointer (some ⟨B.c,0,none⟩)):=fun W hW=>hW.kept (u1.was h0) uW;have r1:∀W,aa F (w.alloc (.cells #[.int .i64 k,.int .u64 s] 129)) W->W.cell? ⟨w.heap.size,0,none⟩=some (.int .i64 k):=fun W h=>h.kept σ hsz;have r2:∀W,aa F (w.alloc (.cells #[.int .i64 k,.int .u64 s] 129)) W->W.cell? ⟨w.heap.size,1,none⟩=some (.int .u64 s):=fun W h=>h.kept σ hsz;have HM:=χ hM;have HH:=χ (ψ hX (ψ hin (ψ Xp (ψ hRh hfr))));have XX:=χ hlt;have HSE:=χ (ψ hM.sep hM.bG);have hA:=ok.c1;have XZ:=ok.h1;have HXN:=χ vv
 clear hM hI hL hR ok ok' b1 b2 b3 P6 hcx vv hX hin Xm mp mh Yg ml hfr h0 hlt Xp hRh;generalize hA':aK A hh x k s=A' at *;generalize htr:tr hh=th at *
 go_enter Tryz.func240,Tryz.ntmps240
 go_wp2
 go_region_held3 (aa F (w.alloc (.cells #[.int .i64 k,.int .u64 s] 129))) (exact ν)
  ((go_at_call 154;(with_reducible refine(kp _ β).mono ?_);rintro e w1 ⟨rfl,jr,hu1⟩;(have hu2:aa F (w.alloc (.cells #[.int .i64 k,.int .u64 s] 129)) w1:=ν)))
 have uF:aa F w (w.alloc (.cells #[.int .i64 k,.int .u64 s] 129)):=u1.mono σ;have hM1:=HM.out.cB (uF.trans hu2) jr (fun y hy=>Or.inl hy) hcs lT;have h2:=hM1.h2;have dR:=hM1.ranks.cell x (by rw[hcs];exact hx);have fR:=hM1.ranks.free x;have hw1:aa F w w1:=uF.trans hu2;have jT:=χ hM1;clear r0 r1 r2 kp hu1 hu2 jr hM1 uF;rw[hcs]at h2;go_wp2;obtain⟨w2,hw2⟩:∃w2,w2=w1.setCell ⟨B.br,x,none⟩ (.int .i64 1):=⟨_,rfl⟩;have u2:aa [B.br] w1 w2:=by rw[hw2];exact β
 have hM2:lQ w2 B F gt ct A' st S (fun y=>if y=x then 1 else rk y) aj:=by rw[hw2];exact jT.out.dA x 1
 rw[←hw2];clear hw2 jT h2 dR fR;have km:=fun W (hW:aa [] w2 W)=>vL (hM2.au hW) HH.out.2.2.1 (vM HH.out.2.2.2.2) HH.out.1 HH.out.2.1 (HH.out.2.2.2.1.frame (fun y hy=>if_neg (fun e=>HXN.out (by rw[←e];exact hy)))) ⟨by simp[BT.rank],trivial,trivial⟩;rw[show(single x).root=(x:Int)from rfl]at km;have d4:=hM2.jH.cell hh hgn;rw[htop]at d4;have f4:=hM2.jH.free hh;have h3:=hM2.h3;have hg:=hM2.lt gt (by simp[LB.blk]);have nR:=χ hM2;have D5:B.n0∉[B.c,B.ba,B.br,gt]:=by
  have a1:=HSE.out;have a2:B.n0≠B.c:=fun e=>a1.2.1 (by rw[e];exact HM.out.cF);simp;omega
 have hgc:gt∉[B.c,B.ba,B.br]:=by
  have a1:=HSE.out;have a2:gt≠B.c:=fun e=>a1.2.2.2.2.2 (by rw[e];exact HM.out.cF);simp;omega
 have r3:∀W,aa [B.c,B.ba,B.br,gt] w2 W->W.cell? ⟨B.n0,3,none⟩=some (.slice (some ⟨gt,0,none⟩) aj.length ct):=fun W hW=>hW.kept h3 D5;have r4:∀W,aa [B.c,B.ba,B.br] w2 W->W.cell? ⟨gt,hh,none⟩=some (.int .i64 th.root)/\W.frozen? ⟨gt,hh,none⟩=false:=fun W hW=>⟨hW.kept d4 hgc,hW.aS d4 hgc f4⟩
 have BP:(0:Int)<=(hh:Int):=ω;have Hy:(hh:Int)<(aj.length:Int):=ω;have MG:Hid (aI aB A' th (single x)=aI aB A' th (single x)):=rfl;generalize hmt:(aI aB A' th (single x)).1=mt at *;generalize hmk:(aI aB A' th (single x)).2=mk at *;clear hM2 f4 h3 MG;have q3:=r3 _ (aa.refl _ _);have q4:=(r4 _ (aa.refl _ _)).1
 go_region_law
  (first
   | (go_simp;go_at_call 246;(with_reducible refine(km _ β).mono ?_);rintro e w5 ⟨rfl,xK,S5,Xt,wL,I1,Nl,hs5⟩;(have bW:aa [B.c,B.ba,B.br] w2 w5:=aa.trans β xK);(have ik:aa [B.c,B.ba,B.br,gt] w2 w5:=bW.mono σ);obtain⟨d5,f5⟩:=r4 _ bW;(have q5:=r3 _ ik)))
 all_goals
  go_wp2;go_ret;have qz:=HM.out.cF;have v1:aa (B.blk F gt) w w1:=hw1.mono (fun y hy=>by simp only[LB.blk,ρ];simp[hy]);have v2:aa (B.blk F gt) w w2:=v1.trans (u2.mono (fun y hy=>by simp at hy;simp[LB.blk,hy]))
  have v3:aa (B.blk F gt) w w5:=v2.trans (bW.mono (fun y hy=>by
   simp only[ρ,ς,or_false]at hy;simp only[LB.blk,ρ];rcases hy with rfl|rfl|rfl
   ·simp[qz]
   ·simp
   ·simp))
  subst hmt hmk;refine⟨rfl,v3.setCell (Or.inl (by simp[LB.blk])) _,FI.out _ S5 Xt _ (wL.qQ hh _) I1 Nl (fun y hy=>⟨(hs5 y hy).1,?_⟩)⟩;rw[(hs5 y hy).2,if_neg (fun e=>hy (by rw[e];simp[single,BT.nodes]))]
end
end Go.Proofs.YtklibcncmbofpaaGreat
