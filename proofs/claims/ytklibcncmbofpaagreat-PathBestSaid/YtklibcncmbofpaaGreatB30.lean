/-
  Lemmas for PathBest: Lf, Lf2, Lf3, Lf4. Conditions: those of each lemma.
-/
import Derived.IntWalk
import Derived.Test.YtklibcncmbofpaaGreatB03
import Derived.Test.YtklibcncmbofpaaGreatB20
set_option linter.all false
set_option maxHeartbeats 8000000
set_option maxRecDepth 10000
namespace Go.Proofs.YtklibcncmbofpaaGreat
open Go Go.RowKit
structure LB where
 n0:Nat
 c:Nat
 bt:Nat
 ba:Nat
 br:Nat
structure lU (w:World) (B:LB) (F:List Nat) (gt ct:Nat) (A:NS) (st:Nat) (S:TS) (rk:Nat->Nat) (ak:List Int):Prop where
 head:aO w B.n0 231 4 (fun j=>[Value.pointer (some ⟨B.c,0,none⟩),.pointer (some ⟨B.bt,0,none⟩),.slice (some ⟨B.br,0,none⟩) A.cs.length A.cs.length,.slice (some ⟨gt,0,none⟩) ak.length ct].getD j undef)
 cells:aG w B.c F A st
 trees:bA w B.bt B.ba A.cs.length S
 ranks:aO w B.br 3 A.cs.length (fun j=>.int .i64 (rk j:Int))
 jQ:IZ w gt ct ak
 jE:ak.length=A.hs.length
 bI:B.n0∉F/\B.bt∉F/\B.ba∉F/\B.br∉F/\gt∉F
 sep:(B.n0≠B.bt/\B.n0≠B.ba/\B.n0≠B.br/\B.n0≠gt)/\(B.bt≠B.br/\B.bt≠gt/\B.ba≠B.br/\B.ba≠gt/\B.br≠gt)
section
variable {w:World} {B:LB} {F:List Nat} {gt ct:Nat} {A:NS} {st:Nat} {S:TS} {rk:Nat->Nat} {ak:List Int}
def LB.blk (B:LB) (F:List Nat) (gt:Nat):List Nat:=B.n0::B.bt::B.ba::B.br::gt::F
theorem lU.upd {w':World} {G:List Nat} (h:lU w B F gt ct A st S rk ak) (hu:aa G w w') (hG:∀x,x∈G->x∉B.blk F gt):lU w' B F gt ct A st S rk ak:=by
 have h1:∀x,x∈B.blk F gt->x∉G:=fun x hx hg=>hG x hg hx;exact ⟨h.head.upd hu (h1 _ (by simp [LB.blk])),h.cells.upd hu (fun x hx=>fun hm=>hG x hx (by simp [LB.blk,hm])),h.trees.upd hu (h1 _ (by simp [LB.blk])) (h1 _ (by simp [LB.blk])),h.ranks.upd hu (h1 _ (by simp [LB.blk])),h.jQ.upd hu (h1 _ (by simp [LB.blk])),h.jE,h.bI,h.sep⟩
theorem lU.aA {w':World} (h:lU w B F gt ct A st S rk ak) (hu:aa [] w w'):lU w' B F gt ct A st S rk ak:=h.upd hu σ
theorem lU.lt (h:lU w B F gt ct A st S rk ak):∀x,x∈B.blk F gt->x<w.heap.size:=by
 intro x hx;have:=h.head.lt;have:=h.trees.head.lt;have:=h.trees.row.lt;have:=h.ranks.lt;have:=h.jQ.lt;simp only [LB.blk,ρ] at hx;rcases hx with rfl|rfl|rfl|rfl|rfl|hx
 ·assumption
 ·assumption
 ·assumption
 ·assumption
 ·assumption
 ·exact h.cells.lt x hx
theorem lU.cF (h:lU w B F gt ct A st S rk ak):B.c∈F:=h.cells.mem
theorem lU.h0 (h:lU w B F gt ct A st S rk ak):w.cell? ⟨B.n0,0,none⟩=some (.pointer (some ⟨B.c,0,none⟩)):=h.head.cellAt 0 ω rfl
theorem lU.h1 (h:lU w B F gt ct A st S rk ak):w.cell? ⟨B.n0,1,none⟩=some (.pointer (some ⟨B.bt,0,none⟩)):=h.head.cellAt 1 ω rfl
theorem lU.h2 (h:lU w B F gt ct A st S rk ak):w.cell? ⟨B.n0,2,none⟩=some (.slice (some ⟨B.br,0,none⟩) A.cs.length A.cs.length):=h.head.cellAt 2 ω rfl
theorem lU.h3 (h:lU w B F gt ct A st S rk ak):w.cell? ⟨B.n0,3,none⟩=some (.slice (some ⟨gt,0,none⟩) ak.length ct):=h.head.cellAt 3 ω rfl
theorem lU.iV {w':World} {S':TS} (h:lU w B F gt ct A st S rk ak) (hu:aa [B.ba] w w') (hT:bA w' B.bt B.ba A.cs.length S'):lU w' B F gt ct A st S' rk ak:=by
 have s:=h.sep;have f:=h.bI;have hne:=h.trees.ne;exact ⟨h.head.upd hu ζ,h.cells.upd hu (fun x hx=>by simp at hx;rw [hx];exact f.2.2.1),hT,h.ranks.upd hu ζ,h.jQ.upd hu ζ,h.jE,f,s⟩
theorem lU.dG (h:lU w B F gt ct A st S rk ak) (x:Nat) (k:Nat):lU (w.setCell ⟨B.br,x,none⟩ (.int .i64 (k:Int))) B F gt ct A st S (fun y=>if y=x then k else rk y) ak:=by
 have s:=h.sep;have f:=h.bI;have hu:aa [B.br] w (w.setCell ⟨B.br,x,none⟩ (.int .i64 (k:Int))):=β;refine ⟨h.head.upd hu ζ,h.cells.upd hu (fun x hx=>by simp at hx;rw [hx];exact f.2.2.2.1),h.trees.upd hu ζ ζ,(h.ranks.set x _).ext (fun j hj=>?_),h.jQ.upd hu ζ,h.jE,f,s⟩
 by_cases e:j=x
 ·simp only [e,if_true]
 ·simp only [e,if_false]
theorem lU.qL (h:lU w B F gt ct A st S rk ak) (x:Nat) (k:Int):lU (w.setCell ⟨gt,x,none⟩ (.int .i64 k)) B F gt ct A st S rk (ak.set x k):=by
 have s:=h.sep;have f:=h.bI;have hu:aa [gt] w (w.setCell ⟨gt,x,none⟩ (.int .i64 k)):=β;refine ⟨by rw [List.length_set];exact h.head.upd hu ζ,h.cells.upd hu (fun x hx=>by simp at hx;rw [hx];exact f.2.2.2.2),h.trees.upd hu ζ ζ,h.ranks.upd hu ζ,h.jQ.set x k,by rw [List.length_set];exact h.jE,f,s⟩
theorem lU.dB {w':World} {F':List Nat} {A':NS} {st':Nat} (h:lU w B F gt ct A st S rk ak) (hu:aa F w w') (hC:aG w' B.c F' A' st') (hF:∀x,x∈F'->x∈F\/w.heap.size<=x) (h1:A'.cs.length=A.cs.length) (h2:A'.hs.length=A.hs.length):lU w' B F' gt ct A' st' S rk ak:=by
 have f:=h.bI;have g:=h.lt;have hf:∀x,x<w.heap.size->x∉F->x∉F':=fun x hx hn hm=>by rcases hF x hm with h'|h';exact hn h';omega
 have l0:=g B.n0 (by simp [LB.blk]);have l1:=g B.bt (by simp [LB.blk]);have l2:=g B.ba (by simp [LB.blk]);have l3:=g B.br (by simp [LB.blk]);have l4:=g gt (by simp [LB.blk]);exact ⟨by rw [h1];exact h.head.upd hu f.1,hC,by rw [h1];exact h.trees.upd hu f.2.1 f.2.2.1,by rw [h1];exact h.ranks.upd hu f.2.2.2.1,h.jQ.upd hu f.2.2.2.2,by rw [h2];exact h.jE,⟨hf _ l0 f.1,hf _ l1 f.2.1,hf _ l2 f.2.2.1,hf _ l3 f.2.2.2.1,hf _ l4 f.2.2.2.2⟩,h.sep⟩
end
theorem nX (z:Int) (w:World):Calls Tryz.prog 247 #[.int .i64 (tv z),.bool (tb z)] w fun e w'=>e=.returned (.int .i64 z)/\w'=w:=by
 unfold tv tb
 by_cases h:z=-1
 ·subst h;simp only [if_true,ne_eq,not_true,decide_false]
  go_enter Tryz.func247,Tryz.ntmps247
  go_wp2;go_ret;exact ⟨rfl,rfl⟩
 ·rw [if_neg h,decide_eq_true h]
  go_enter Tryz.func247,Tryz.ntmps247
  go_wp2;go_ret;exact ⟨rfl,rfl⟩
def iy (rk:Nat->Nat) (z:Int):Int:=if z=-1 then 0 else (rk z.toNat:Int)
section
variable {w:World} {B:LB} {F:List Nat} {gt ct:Nat} {A:NS} {st:Nat} {S:TS} {rk:Nat->Nat} {ak:List Int}
theorem kZ (h:lU w B F gt ct A st S rk ak) (z:Int) (hz:z=-1\/(0<=z/\z<A.cs.length)) :
  Calls Tryz.prog 258 #[.pointer (some ⟨B.n0,0,none⟩),.int .i64 z] w fun e w'=>e=.returned (.int .i64 (iy rk z))/\w'=w:=by
 unfold iy;have h2:=h.h2;have hA:=h.cells.ok.c1
 by_cases e:z=-1
 ·subst e;clear h
  go_enter Tryz.func258,Tryz.ntmps258
  go_wp2;go_ret;exact ⟨rfl,rfl⟩
 ·obtain ⟨i,rfl⟩:∃i:Nat,z=i:=⟨z.toNat,ω⟩;have hi:i<A.cs.length:=ω;have d:=h.ranks.cell i hi;have hb:((i:Int) == -1)=false:=σ;rw [if_neg e];simp only [π];clear h e hz
  go_enter Tryz.func258,Tryz.ntmps258
  go_wp2;go_ret;exact ⟨rfl,rfl⟩
theorem ui (rk:Nat->Nat) (z:Int):0<=iy rk z:=by unfold iy;split<;>omega
theorem EN (h:lU w B F gt ct A st S rk ak) (x:Nat) (hx:x<A.cs.length) (hl:S.l x=-1\/(0<=S.l x/\S.l x<A.cs.length)) (hr:S.r x=-1\/(0<=S.r x/\S.r x<A.cs.length)) (Pg:iy rk (S.l x)<=65536) (hbb:iy rk (S.r x)<=65536) (hab:iy rk (S.l x)<iy rk (S.r x)) :
  Calls Tryz.prog 255 #[.pointer (some ⟨B.n0,0,none⟩),.int .i64 (x:Int)] w fun e w'=>e=.returned (.tuple #[])/\aa [B.ba,B.br] w w'/\lU w' B F gt ct A st (jH S x) (fun y=>if y=x then (iy rk (S.l x)).toNat + 1 else rk y) ak:=by
 have kl:=fun d=>zI B.bt B.ba A.cs.length S (x:Int) (w.drewN d) (h.trees.drewN d);have kr:=fun d=>qw B.bt B.ba A.cs.length S (x:Int) (w.drewN d) (h.trees.drewN d);rw [show il A.cs.length S (x:Int) false=S.l x by unfold il TS.kid;rw [if_pos ω];simp] at kl;rw [show il A.cs.length S (x:Int) true=S.r x by unfold il TS.kid;rw [if_pos ω];simp] at kr;have q1:∀d,(w.drewN d).cell? ⟨B.n0,1,none⟩=some (.pointer (some ⟨B.bt,0,none⟩)):=fun d=>h.h1;have H:=χ h;have rl:=fun d=>kZ (h.aA ((aa.refl [] w).drewN d)) (S.l x) hl;have rr:=fun d=>kZ (h.aA ((aa.refl [] w).drewN d)) (S.r x) hr
 have ba1:0<=iy rk (S.l x)/\iy rk (S.l x)<=65536:=⟨ui _ _,Pg⟩;have bb1:0<=iy rk (S.r x)/\iy rk (S.r x)<=65536:=⟨ui _ _,hbb⟩;clear Pg hbb;have HL:=χ (ψ hl hr);generalize hzl:S.l x=zl at *;generalize Mk:S.r x=zr at *;generalize hra:iy rk zl=a at *;generalize hrb:iy rk zr=b at *;have HZ:=χ (ψ hzl (ψ Mk (ψ hra hrb)));have hn0:=h.lt B.n0 (by simp [LB.blk]);have hbr:=h.lt B.br (by simp [LB.blk]);have hs:=h.sep;have hA:=h.cells.ok.c1;clear h hzl Mk hra hrb hl hr
 go_enter Tryz.func255,Tryz.ntmps255
 go_wp2
 go_quiet ((first
  | (go_at_call 248;exact Calls.quiet_of (kl _))
  | (go_at_call 249;exact Calls.quiet_of (kr _))
  | (go_at_call 247;exact Calls.quiet_of_same (nX _ _))))
 have H2:=χ (H.out.aA ((aa.refl [] w).drewN nq));have rln:=rl nq;have rrn:=rr nq;have h1:=q1 nq;clear kl kr q1 rl rr;have kt:=Au B.bt B.ba A.cs.length S x (w.drewN nq) H2.out.trees hx
 go_wp2_with (first
  | (go_at_call 258;(with_reducible refine (rln).mono ?_);rintro e w9 ⟨rfl,aM⟩;rw [aM];clear aM w9)
  | (go_at_call 258;(with_reducible refine (rrn).mono ?_);rintro e w9 ⟨rfl,aM⟩;rw [aM];clear aM w9)
  | (go_at_call 259;(with_reducible refine (kt).mono ?_);rintro e w2 ⟨rfl,hT,hu2⟩))
 have h3:=χ (H2.out.iV hu2 hT);have hw2:aa [B.ba,B.br] w w2:=((aa.refl _ w).drewN nq).trans (hu2.mono σ);have kq:=fun W (hW:aa [] w2 W)=>kZ (h3.out.aA hW) zl HL.out.1;rw [HZ.out.2.2.1] at kq;have r0:∀W,aa [B.br] w2 W->W.cell? ⟨B.n0,2,none⟩=some (.slice (some ⟨B.br,0,none⟩) A.cs.length A.cs.length):=fun W hW=>hW.kept h3.out.h2 ζ;have d0:=h3.out.ranks.cell x hx;have d1:=h3.out.ranks.free x;have hwr:IntKind.i64.wrap (a+1)=a+1:=IntWalk.i64_in _ ω
 go_region_held3 (aa [B.br] w2) (exact ν) ((go_at_call 258;(with_reducible refine ((kq _ β)).mono ?_);rintro e w9 ⟨rfl,aM⟩;rw [aM];clear aM w9))
 go_wp2;go_end0;clear hwr;obtain ⟨an,rfl⟩:∃an:Nat,a=an:=⟨a.toNat,ω⟩;have hR:=h3.out.dG x (an+1);rw [show ((an+1:Nat):Int)=(an:Int)+1 by omega] at hR;exact ⟨rfl,((hw2.setCell (Or.inl σ) _)).drew,hR.aA ((aa.refl _ _).drew)⟩
theorem EJ (h:lU w B F gt ct A st S rk ak) (x:Nat) (hx:x<A.cs.length) (hl:S.l x=-1\/(0<=S.l x/\S.l x<A.cs.length)) (hr:S.r x=-1\/(0<=S.r x/\S.r x<A.cs.length)) (Pg:iy rk (S.l x)<=65536) (hbb:iy rk (S.r x)<=65536) (hab:¬iy rk (S.l x)<iy rk (S.r x)) :
  Calls Tryz.prog 255 #[.pointer (some ⟨B.n0,0,none⟩),.int .i64 (x:Int)] w fun e w'=>e=.returned (.tuple #[])/\aa [B.ba,B.br] w w'/\lU w' B F gt ct A st S (fun y=>if y=x then (iy rk (S.r x)).toNat + 1 else rk y) ak:=by
 have kl:=fun d=>zI B.bt B.ba A.cs.length S (x:Int) (w.drewN d) (h.trees.drewN d);have kr:=fun d=>qw B.bt B.ba A.cs.length S (x:Int) (w.drewN d) (h.trees.drewN d);rw [show il A.cs.length S (x:Int) false=S.l x by unfold il TS.kid;rw [if_pos ω];simp] at kl;rw [show il A.cs.length S (x:Int) true=S.r x by unfold il TS.kid;rw [if_pos ω];simp] at kr;have q1:∀d,(w.drewN d).cell? ⟨B.n0,1,none⟩=some (.pointer (some ⟨B.bt,0,none⟩)):=fun d=>h.h1;have H:=χ h;have rl:=fun d=>kZ (h.aA ((aa.refl [] w).drewN d)) (S.l x) hl;have rr:=fun d=>kZ (h.aA ((aa.refl [] w).drewN d)) (S.r x) hr
 have ba1:0<=iy rk (S.l x)/\iy rk (S.l x)<=65536:=⟨ui _ _,Pg⟩;have bb1:0<=iy rk (S.r x)/\iy rk (S.r x)<=65536:=⟨ui _ _,hbb⟩;clear Pg hbb;have HL:=χ (ψ hl hr);generalize hzl:S.l x=zl at *;generalize Mk:S.r x=zr at *;generalize hra:iy rk zl=a at *;generalize hrb:iy rk zr=b at *;have HZ:=χ (ψ hzl (ψ Mk (ψ hra hrb)));have hn0:=h.lt B.n0 (by simp [LB.blk]);have hbr:=h.lt B.br (by simp [LB.blk]);have hs:=h.sep;have hA:=h.cells.ok.c1;clear h hzl Mk hra hrb hl hr
 go_enter Tryz.func255,Tryz.ntmps255
 go_wp2
 go_quiet ((first
  | (go_at_call 248;exact Calls.quiet_of (kl _))
  | (go_at_call 249;exact Calls.quiet_of (kr _))
  | (go_at_call 247;exact Calls.quiet_of_same (nX _ _))))
 have H2:=χ (H.out.aA ((aa.refl [] w).drewN nq));have rln:=rl nq;have rrn:=rr nq;have h1:=q1 nq;clear kl kr q1 rl rr
 go_wp2_with (first
  | (go_at_call 258;(with_reducible refine (rln).mono ?_);rintro e w9 ⟨rfl,aM⟩;rw [aM];clear aM w9)
  | (go_at_call 258;(with_reducible refine (rrn).mono ?_);rintro e w9 ⟨rfl,aM⟩;rw [aM];clear aM w9))
 obtain ⟨w2,hw2⟩:∃w2,w2=w.drewN nq:=⟨_,rfl⟩;have hu2:aa [B.ba,B.br] w w2:=by rw [hw2];exact (aa.refl _ w).drewN nq
 rw [←hw2] at H2 ⊢;clear hw2 h1 rln rrn;have kq:=fun W (hW:aa [] w2 W)=>kZ (H2.out.aA hW) zr HL.out.2;rw [HZ.out.2.2.2] at kq;have r0:∀W,aa [B.br] w2 W->W.cell? ⟨B.n0,2,none⟩=some (.slice (some ⟨B.br,0,none⟩) A.cs.length A.cs.length):=fun W hW=>hW.kept H2.out.h2 ζ;have d0:=H2.out.ranks.cell x hx;have d1:=H2.out.ranks.free x;have hwr:IntKind.i64.wrap (b+1)=b+1:=IntWalk.i64_in _ ω
 go_region_held3 (aa [B.br] w2) (exact ν) ((go_at_call 258;(with_reducible refine ((kq _ β)).mono ?_);rintro e w9 ⟨rfl,aM⟩;rw [aM];clear aM w9))
 go_wp2;go_end0;clear hwr;obtain ⟨bn,rfl⟩:∃bn:Nat,b=bn:=⟨b.toNat,ω⟩;have hR:=H2.out.dG x (bn+1);rw [show ((bn+1:Nat):Int)=(bn:Int)+1 by omega] at hR;exact ⟨rfl,((hu2.setCell (Or.inl σ) _)).drew,hR.aA ((aa.refl _ _).drew)⟩
end
theorem DT:∀t:BT,t.rank<=t.size
 | .nil=>Nat.le_refl _
 | .node x l r=>by have:=DT r;simp only [BT.rank,BT.size];omega
theorem nD {n:Nat} {l:List Nat} (hn:l.Nodup) (hl:∀x,x∈l->x<n):l.length<=n:=by
 have:=nodup_range n (l.map fun (x:Nat)=>(x:Int)) (by
  unfold List.Nodup;rw [List.pairwise_map];exact hn.imp (fun {a b} h e=>h ω)) (fun y hy=>by
  obtain ⟨x,hx,rfl⟩:=List.mem_map.1 hy;have:=hl x hx
  exact ⟨ω,ω⟩)
 simpa using this
theorem Ai {rk:Nat->Nat} {t:BT} (h:gK rk t):iy rk t.root=t.rank:=by
 unfold iy
 by_cases e:t=.nil
 ·subst e;simp [BT.root,BT.rank]
 ·have:=bM e;rw [if_neg ω];rw [h.root e]
theorem vP {n:Nat} {t:BT} (h:∀x,x∈t.nodes->x<n):t.root=-1\/(0<=t.root/\t.root<n):=by
 by_cases e:t=.nil
 ·subst e;exact Or.inl rfl
 ·have h1:=bM e;have:=h _ h1.1;exact Or.inr ⟨ω,ω⟩
theorem Sz {S:TS} {p:Int} {x:Nat} {l r:BT} (hu:S.u x=p) (hl:cO S x (S.l x) l) (hr:cO S x (S.r x) r):cO S p x (.node x l r):=⟨rfl,hu,hl,hr⟩
section
variable {w:World} {B:LB} {F:List Nat} {gt ct:Nat} {A:NS} {st:Nat} {S:TS} {rk:Nat->Nat} {ak:List Int}
theorem rq (h:lU w B F gt ct A st S rk ak) {p:Int} {x:Nat} {l r:BT} (hT:cO S p x (.node x l r)) (hl:gK rk l) (hr:gK rk r) (hn:(BT.node x l r).nodes.Nodup) (hlt:∀y,y∈(BT.node x l r).nodes->y<A.cs.length) :
  Calls Tryz.prog 255 #[.pointer (some ⟨B.n0,0,none⟩),.int .i64 (x:Int)] w fun e w'=>e=.returned (.tuple #[])/\aa [B.ba,B.br] w w'/\
   ∃S' oD,lU w' B F gt ct A st S' oD ak/\cO S' p x (aC x l r)/\gK oD (aC x l r)/\(∀y,y≠x->S.at S' y)/\S'.u x=S.u x/\(∀y,y≠x->oD y=rk y):=by
 obtain ⟨_,hu,Nv,hTr⟩:=hT;have hx:=hlt x (by simp [BT.nodes]);have hll:∀y,y∈l.nodes->y<A.cs.length:=fun y hy=>hlt y (by simp [BT.nodes,hy]);have hlr:∀y,y∈r.nodes->y<A.cs.length:=fun y hy=>hlt y (by simp [BT.nodes,hy]);have hA:=h.cells.ok.c1;have hn2:=hn;simp only [BT.nodes,List.nodup_cons,τ,not_or,θ] at hn2;have sl:=nD hn2.2.1 hll;have sr:=nD hn2.2.2.1 hlr;rw [BT.mf] at sl sr;have rl:=DT l;have rr:=DT r;have el:=Nv.root;have er:=hTr.root;have fr:∀ {S':TS},(∀y,y≠x->S.at S' y)->(∀z,cO S x z l->cO S' x z l)/\(∀z,cO S x z r->cO S' x z r):=fun hS=>
  ⟨fun z hz=>hz.frame (fun y hy=>hS y (fun e=>hn2.1.1 (by rw [←e];exact hy))),fun z hz=>hz.frame (fun y hy=>hS y (fun e=>hn2.1.2 (by rw [←e];exact hy)))⟩
 have zl:iy rk (S.l x)=l.rank:=by rw [el];exact Ai hl
 have zr:iy rk (S.r x)=r.rank:=by rw [er];exact Ai hr
 by_cases hab:l.rank<r.rank
 ·refine (EN h x hx (by rw [el];exact vP hll) (by rw [er];exact vP hlr) (by rw [zl];omega) (by rw [zr];omega) (by rw [zl,zr];omega)).mono ?_;rintro e w' ⟨rfl,hU,hM⟩;have hat:∀y,y≠x->S.at (jH S x) y:=fun y hy=>⟨by unfold jH TS.aJ;simp [hy],by unfold jH TS.aJ;simp [hy],by unfold jH TS.aJ;simp⟩
  have e1:(jH S x).l x=S.r x:=by unfold jH TS.aJ;simp
  have e2:(jH S x).r x=S.l x:=by unfold jH TS.aJ;simp
  have e3:(jH S x).u x=S.u x:=by unfold jH TS.aJ;simp
  refine ⟨rfl,hU,_,_,hM,?_,?_,hat,e3,fun y hy=>by rw [if_neg hy]⟩
  ·unfold aC;rw [if_pos hab];exact ⟨rfl,by rw [e3];exact hu,by rw [e1];exact (fr hat).2 _ hTr,by rw [e2];exact (fr hat).1 _ Nv⟩
  ·unfold aC;rw [if_pos hab];refine ⟨by simp [zl],hr.frame (fun y hy=>by rw [if_neg (fun e=>hn2.1.2 (by rw [←e];exact hy))]),hl.frame (fun y hy=>by rw [if_neg (fun e=>hn2.1.1 (by rw [←e];exact hy))])⟩
 ·refine (EJ h x hx (by rw [el];exact vP hll) (by rw [er];exact vP hlr) (by rw [zl];omega) (by rw [zr];omega) (by rw [zl,zr];omega)).mono ?_;rintro e w' ⟨rfl,hU,hM⟩;refine ⟨rfl,hU,_,_,hM,?_,?_,fun y _=>⟨rfl,rfl,rfl⟩,rfl,fun y hy=>by rw [if_neg hy]⟩
  ·unfold aC;rw [if_neg hab];exact ⟨rfl,hu,Nv,hTr⟩
  ·unfold aC;rw [if_neg hab];refine ⟨by simp [zr],hl.frame (fun y hy=>by rw [if_neg (fun e=>hn2.1.1 (by rw [←e];exact hy))]),hr.frame (fun y hy=>by rw [if_neg (fun e=>hn2.1.2 (by rw [←e];exact hy))])⟩
end
theorem BT.x9 {t:BT} (h:t≠.nil):t.root=(t.root.toNat:Int):=(bM h).2
def zf (S:TS) (x:Nat) (r:BT):TS:=match r with | .nil=>S | .node y _ _=>ni S x y
theorem OU {S:TS} {p:Int} {x:Nat} {l r:BT} (h:cO S p x (.node x l r)) (hn:(BT.node x l r).nodes.Nodup) :
  cO (zf S x r) p x (.node x l .nil)/\cO (zf S x r) (-1) r.root r/\∀y,y≠x->y∉r.nodes->S.at (zf S x r) y:=by
 obtain ⟨_,hu,hl,hr⟩:=h;simp only [BT.nodes,List.nodup_cons,τ,not_or,θ] at hn;cases r with
 | nil=>exact ⟨⟨rfl,hu,hl,hr⟩,rfl,fun y _ _=>⟨rfl,rfl,rfl⟩⟩
 | node y a b=>
  have hxy:x≠y:=fun e=>hn.1.2 (by rw [e];simp [BT.nodes]);have UR:S.r x=y:=hr.1;have e:zf S x (.node y a b)=ni S x y:=rfl;rw [e];have hl':∀z,(ni S x y).l z=S.l z:=fun z=>by unfold ni TS.aJ TS.bW;rw [decide_eq_true UR];rfl
  have hr':∀z,(ni S x y).r z=if z=x then -1 else S.r z:=fun z=>by unfold ni TS.aJ TS.bW;rw [decide_eq_true UR];rfl
  have hu':∀z,(ni S x y).u z=if z=y then -1 else S.u z:=fun z=>by unfold ni TS.aJ TS.bW;rw [decide_eq_true UR];rfl
  refine ⟨⟨rfl,by rw [hu',if_neg hxy];exact hu,?_,by rw [hr',if_pos rfl];rfl⟩,?_,fun z h1 h2=>⟨hl' z,by rw [hr',if_neg h1],by rw [hu',if_neg (fun e=>h2 (by rw [e];simp [BT.nodes]))]⟩⟩
  ·rw [hl'];refine hl.frame (fun z hz=>⟨hl' z,by rw [hr',if_neg (fun e=>hn.1.1 (by rw [←e];exact hz))],by rw [hu',if_neg (fun e=>hn.2.2.2 z hz y (by simp [BT.nodes]) e)]⟩)
  ·have h0:cO S x ((BT.node y a b).root) (.node y a b):=by rw [←hr.root];exact hr
   refine h0.NW (p':=-1) hn.2.2.1 (fun z hz=>⟨hl' z,by rw [hr',if_neg (fun e=>hn.1.2 (by rw [←e];exact hz))],fun Mk=>by rw [hu',if_neg (fun e=>Mk (by rw [e];simp [BT.root]))]⟩) (fun _=>by rw [hu'];simp [BT.root])
theorem CL {S:TS} {p:Int} {x:Nat} {l m:BT} (h:cO S p x (.node x l .nil)) (hm:cO S (-1) m.root m) (hne:m≠.nil) (hn:(BT.node x l m).nodes.Nodup) :
  cO (lT S x m.root true) p x (.node x l m)/\∀y,y≠x->y∉m.nodes->S.at (lT S x m.root true) y:=by
 obtain ⟨_,hu,hl,_⟩:=h;simp only [BT.nodes,List.nodup_cons,τ,not_or,θ] at hn;obtain ⟨r1,r2⟩:=bM hne;have hl':∀z,(lT S x m.root true).l z=S.l z:=fun z=>by unfold lT TS.aJ TS.bW;rfl
 have hr':∀z,(lT S x m.root true).r z=if z=x then m.root else S.r z:=fun z=>by unfold lT TS.aJ TS.bW;simp
 have hu':∀z,(lT S x m.root true).u z=if z=m.root.toNat then (x:Int) else S.u z:=fun z=>by unfold lT TS.aJ TS.bW;simp
 have hxm:x≠m.root.toNat:=fun e=>hn.1.2 (by rw [e];exact r1);refine ⟨⟨rfl,by rw [hu',if_neg hxm];exact hu,?_,?_⟩,fun z h1 h2=>⟨hl' z,by rw [hr',if_neg h1],by rw [hu',if_neg (fun e=>h2 (by rw [e];exact r1))]⟩⟩
 ·rw [hl'];exact hl.frame (fun z hz=>⟨hl' z,by rw [hr',if_neg (fun e=>hn.1.1 (by rw [←e];exact hz))],by rw [hu',if_neg (fun e=>hn.2.2.2 z hz _ r1 e)]⟩)
 ·rw [hr',if_pos rfl];exact hm.NW (p':=(x:Int)) hn.2.2.1 (fun z hz=>⟨hl' z,by rw [hr',if_neg (fun e=>hn.1.2 (by rw [←e];exact hz))],fun Mk=>by rw [hu',if_neg Mk]⟩) (fun _=>by rw [hu',if_pos rfl])
structure Down (up:Nat->BT->BT->BT) (A:NS) (S0:TS) (ta tb:BT) (S:TS) (W:List (Nat×BT)) (a b:BT):Prop where
 isA:cO S (-1) a.root a
 isB:cO S (-1) b.root b
 way:∀p,p∈W->cO S (-1) (p.1:Int) (.node p.1 p.2 .nil)
 far:∀y,y∉ta.nodes++tb.nodes->S0.at S y
 perm:(uJ W++(a.nodes++b.nodes)).Perm (ta.nodes++tb.nodes)
 res:aK up A ta tb=(uT up W (aK up A a b).1,W.length+(aK up A a b).2)
theorem Down.start (up:Nat->BT->BT->BT) (A:NS) {S0:TS} {ta tb:BT} (ha:cO S0 (-1) ta.root ta) (hb:cO S0 (-1) tb.root tb):Down up A S0 ta tb S0 [] ta tb:=
 ⟨ha,hb,fun p hp=>(by cases hp),fun y _=>⟨rfl,rfl,rfl⟩,by simp [uJ],by simp [uT]⟩
theorem pU (W:List (Nat×BT)) (x:Nat) (l:BT):uJ (W++[(x,l)])=uJ W++(x::l.nodes):=by unfold uJ;simp
theorem DX {W:List (Nat×BT)} {p:Nat×BT} (hp:p∈W):p.1∈uJ W/\∀y,y∈p.2.nodes->y∈uJ W:=by
 unfold uJ;exact ⟨List.mem_flatMap.2 ⟨p,hp,σ⟩,fun y hy=>List.mem_flatMap.2 ⟨p,hp,by simp [hy]⟩⟩
theorem Down.take {up:Nat->BT->BT->BT} {A:NS} {S0 S:TS} {ta tb b l r:BT} {x:Nat} {W:List (Nat×BT)} (hX:(ta.nodes++tb.nodes).Nodup)
  (h1:cO S (-1) (x:Int) (.node x l r)) (h2:cO S (-1) b.root b) (h3:∀p,p∈W->cO S (-1) (p.1:Int) (.node p.1 p.2 .nil)) (h4:∀y,y∉ta.nodes++tb.nodes->S0.at S y)
  (h5:(uJ W++((BT.node x l r).nodes++b.nodes)).Perm (ta.nodes++tb.nodes)) (h6:aK up A ta tb=(uT up W (up x l (aK up A r b).1),W.length+((aK up A r b).2+1))) :
  Down up A S0 ta tb (zf S x r) (W++[(x,l)]) r b:=by
 have hnd:=h5.nodup_iff.2 hX;rw [θ] at hnd;obtain ⟨n1,n2,n3⟩:=hnd;rw [θ] at n2;obtain ⟨n4,n5,n6⟩:=n2;obtain ⟨c1,c2,c3⟩:=OU h1 n4;have hout:∀y,y∉ta.nodes++tb.nodes->y≠x/\y∉r.nodes:=fun y hy=>
  ⟨fun e=>hy (h5.mem_iff.1 (by rw [e];simp [BT.nodes])),fun hm=>hy (h5.mem_iff.1 (by simp [BT.nodes,hm]))⟩
 refine ⟨c2,h2.frame (fun y hy=>c3 y (fun e=>n6 x (by simp [BT.nodes]) y hy e.symm) (fun hm=>n6 y (by simp [BT.nodes,hm]) y hy rfl)),fun p hp=>?_,fun y hy=>?_,?_,?_⟩
 ·rcases τ.1 hp with hp|hp
  ·have hw:=DX hp;refine (h3 p hp).frame (fun y hy=>?_);have Z9:y∈uJ W:=by
    simp only [BT.nodes,List.append_nil,ρ] at hy;rcases hy with rfl|hy
    ·exact hw.1
    ·exact hw.2 y hy
   exact c3 y (fun e=>n3 y Z9 x (by simp [BT.nodes]) e) (fun hm=>n3 y Z9 y (by simp [BT.nodes,hm]) rfl)
  ·simp only [List.mem_singleton] at hp;subst hp;exact c1
 ·obtain ⟨k1,k2⟩:=hout y hy;have a1:=h4 y hy;have a2:=c3 y k1 k2;exact ⟨a2.1.trans a1.1,a2.2.1.trans a1.2.1,a2.2.2.trans a1.2.2⟩
 ·rw [pU];refine List.Perm.trans ?_ h5;simp only [BT.nodes,List.append_assoc,List.cons_append];exact List.Perm.refl _
 ·rw [h6,Ag];simp only [υ,List.length_cons,List.length_nil];exact Prod.ext rfl (by simp only;omega)
theorem Down.takeA {up:Nat->BT->BT->BT} {A:NS} {S0 S:TS} {ta tb l r l' r':BT} {x y:Nat} {W:List (Nat×BT)} (h:Down up A S0 ta tb S W (.node x l r) (.node y l' r')) (hX:(ta.nodes++tb.nodes).Nodup) (hlt:¬cZ A y x) :
  Down up A S0 ta tb (zf S x r) (W++[(x,l)]) r (.node y l' r'):=by
 refine Down.take hX h.isA h.isB h.way h.far h.perm ?_;rw [h.res,oU,if_neg hlt]
theorem Down.takeB {up:Nat->BT->BT->BT} {A:NS} {S0 S:TS} {ta tb l r l' r':BT} {x y:Nat} {W:List (Nat×BT)} (h:Down up A S0 ta tb S W (.node x l r) (.node y l' r')) (hX:(ta.nodes++tb.nodes).Nodup) (hlt:cZ A y x) :
  Down up A S0 ta tb (zf S y r') (W++[(y,l')]) r' (.node x l r):=by
 refine Down.take hX h.isB h.isA h.way h.far ?_ ?_
 ·refine List.Perm.trans ?_ h.perm;exact List.Perm.append_left _ List.perm_append_comm
 ·rw [h.res,oU,if_pos hlt]
structure Uu (up:Nat->BT->BT->BT) (S0:TS) (X:List Nat) (t:BT) (S:TS) (W:List (Nat×BT)) (m:BT):Prop where
 isM:cO S (-1) m.root m
 way:∀p,p∈W->cO S (-1) (p.1:Int) (.node p.1 p.2 .nil)
 far:∀y,y∉X->S0.at S y
 perm:(uJ W++m.nodes).Perm X
 res:t=uT up W m
theorem Down.turn {up:Nat->BT->BT->BT} {A:NS} {S0 S:TS} {ta tb a b:BT} {W:List (Nat×BT)} (h:Down up A S0 ta tb S W a b) (he:a=.nil\/b=.nil) :
  ∃m,m.root=(if a.root=-1 then b.root else a.root)/\Uu up S0 (ta.nodes++tb.nodes) (aK up A ta tb).1 S W m/\(aK up A ta tb).2=W.length/\(m=a\/m=b):=by
 rcases he with rfl|rfl
 ·refine ⟨b,by simp [BT.root],⟨h.isB,h.way,h.far,by simpa [BT.nodes] using h.perm,by rw [h.res,mq]⟩,by rw [h.res,mq];simp,Or.inr rfl⟩
 ·refine ⟨a,?_,⟨h.isA,h.way,h.far,by simpa [BT.nodes] using h.perm,by rw [h.res,oK]⟩,by rw [h.res,oK];simp,Or.inl rfl⟩
  split
  ·rename_i e;rw [e];rfl
  ·rfl
theorem Uu.turn {up:Nat->BT->BT->BT} {S0 S2 S3:TS} {X:List Nat} {t m l:BT} {x:Nat} {W:List (Nat×BT)} (U:Uu up S0 X t S2 (W++[(x,l)]) m) (K:Rs up) (hX:X.Nodup)
  (hT:cO S3 (-1) x (up x l m)) (zG:∀y,y≠x->y∉l.nodes->y∉m.nodes->S2.at S3 y):Uu up S0 X t S3 W (up x l m):=by
 have hp:=U.perm;rw [pU,List.append_assoc] at hp;have hnd:=hp.nodup_iff.2 hX;rw [θ] at hnd;obtain ⟨n1,n2,n3⟩:=hnd;refine ⟨by rw [K.root];exact hT,fun p hpW=>?_,fun y hy=>?_,?_,by rw [U.res,Ag]⟩
 ·have hw:=DX hpW;refine (U.way p (List.mem_append_left _ hpW)).frame (fun y hy=>?_);have Z9:y∈uJ W:=by
   simp only [BT.nodes,List.append_nil,ρ] at hy;rcases hy with rfl|hy
   ·exact hw.1
   ·exact hw.2 y hy
  exact zG y (fun e=>n3 y Z9 x σ e) (fun hm=>n3 y Z9 y (by simp [hm]) rfl) (fun hm=>n3 y Z9 y (by simp [hm]) rfl)
 ·have h1:=U.far y hy;have h2:=zG y (fun e=>hy (hp.mem_iff.1 (by rw [e];simp))) (fun hm=>hy (hp.mem_iff.1 (by simp [hm]))) (fun hm=>hy (hp.mem_iff.1 (by simp [hm])));exact ⟨h2.1.trans h1.1,h2.2.1.trans h1.2.1,h2.2.2.trans h1.2.2⟩
 ·refine List.Perm.trans (List.Perm.append_left _ (K.nodes x l m)) ?_;simpa using hp
theorem Uu.len {up:Nat->BT->BT->BT} {S0 S:TS} {X:List Nat} {t m:BT} {W:List (Nat×BT)} (U:Uu up S0 X t S W m):W.length<=X.length:=by
 have:=U.perm.length_eq;rw [υ] at this;have h2:W.length<=(uJ W).length:=by
  clear this U
  induction W with
  | nil=>simp
  | cons p t ih=>unfold uJ at *;simp only [List.flatMap_cons,υ,List.length_cons];omega
 omega
theorem Down.len {up:Nat->BT->BT->BT} {A:NS} {S0 S:TS} {ta tb a b:BT} {W:List (Nat×BT)} (U:Down up A S0 ta tb S W a b):W.length+a.nodes.length+b.nodes.length<=(ta.nodes++tb.nodes).length:=by
 have:=U.perm.length_eq;rw [υ,υ] at this;have h2:W.length<=(uJ W).length:=by
  clear this U
  induction W with
  | nil=>simp
  | cons p t ih=>unfold uJ at *;simp only [List.flatMap_cons,υ,List.length_cons];omega
 omega
theorem CP {S0 S2:TS} {X:List Nat} {t m l:BT} {x:Nat} {W:List (Nat×BT)} {Bf Te:Nat->Nat} {up:Nat->BT->BT->BT} (U:Uu up S0 X t S2 (W++[(x,l)]) m) (hX:X.Nodup)
  (hk:∀y,y≠x->Te y=Bf y) (hr:∀p,p∈W->gK Bf p.2):∀p,p∈W->gK Te p.2:=fun p hp=>by
 have hpx:=U.perm;rw [pU,List.append_assoc] at hpx;have hnd:=hpx.nodup_iff.2 hX;rw [θ] at hnd;exact (hr p hp).frame (fun y hy=>hk y (fun e=>hnd.2.2 y ((DX hp).2 y hy) x σ e))
section
variable {w:World} {B:LB} {F:List Nat} {gt ct:Nat} {A:NS} {st:Nat} {S:TS} {rk:Nat->Nat} {ak:List Int}
theorem MW (h:lU w B F gt ct A st S rk ak) {p:Int} {x:Nat} {l r:BT} (hT:cO S p x (.node x l r)) (hx:x<A.cs.length) (hr:∀y,y∈r.nodes->y<A.cs.length) :
  Calls Tryz.prog 244 #[.pointer (some ⟨B.bt,0,none⟩),.int .i64 r.root] w fun e w'=>(∃v,e=.returned v)/\lU w' B F gt ct A st (zf S x r) rk ak/\aa [B.ba] w w':=by
 cases r with
 | nil=>
  refine (Ej B.bt B.ba A.cs.length S (-1) w h.trees (by unfold pF;simp)).mono ?_;rintro e w' ⟨rfl,rfl⟩;exact ⟨⟨_,rfl⟩,h,aa.refl _ _⟩
 | node y a b=>
  obtain ⟨_,_,_,hr'⟩:=hT;have e1:S.r x=y:=hr'.1;have e2:S.u y=x:=hr'.2.1;refine (Dn B.bt B.ba A.cs.length S x y w h.trees hx (hr y (by simp [BT.nodes])) e2).mono ?_;rintro e w' ⟨rfl,hT,hu⟩;exact ⟨⟨_,rfl⟩,h.iV hu hT,hu⟩
theorem JK (h:lU w B F gt ct A st S rk ak) {p:Int} {x:Nat} {l r:BT} (hT:cO S p x (.node x l r)) (hx:x<A.cs.length) :
  Calls Tryz.prog 249 #[.pointer (some ⟨B.bt,0,none⟩),.int .i64 (x:Int)] w fun e w'=>e=.returned (.tuple #[.int .i64 (tv r.root),.bool (tb r.root)])/\aa [] w w':=by
 have e:il A.cs.length S (x:Int) true=r.root:=by
  unfold il TS.kid;rw [if_pos ω];simp only [if_true,π];exact hT.2.2.2.root
 refine (qw B.bt B.ba A.cs.length S (x:Int) w h.trees).mono ?_;rw [e];rintro e w' ⟨rfl,k,rfl⟩;exact ⟨rfl,(aa.refl _ _).drewN k⟩
def KS (W:List (Nat×BT)):List Value:=aU (W.map fun p=>(p.1:Int))
theorem BZ (W:List (Nat×BT)) (x:Nat) (l:BT):KS (W++[(x,l)])=KS W++[.int .i64 (x:Int)]:=by unfold KS aU;simp
theorem vK (h:lU w B F gt ct A st S rk ak) {ta tb:BT} (ha:cO S (-1) ta.root ta) (hb:cO S (-1) tb.root tb) (hX:(ta.nodes++tb.nodes).Nodup) (hin:∀y,y∈ta.nodes++tb.nodes->bX A (y:Int)=true) (ra:gK rk ta) (rb:gK rk tb) :
  Calls Tryz.prog 246 #[.pointer (some ⟨B.n0,0,none⟩),.int .i64 ta.root,.int .i64 tb.root] w fun e w'=>e=.returned (.int .i64 (aK aC A ta tb).1.root)/\aa [B.c,B.ba,B.br] w w'/\
   ∃S' oD,lU w' B F gt ct A (bZ st (aK aC A ta tb).2) S' oD ak/\cO S' (-1) (aK aC A ta tb).1.root (aK aC A ta tb).1/\gK oD (aK aC A ta tb).1/\∀y,y∉ta.nodes++tb.nodes->S.at S' y/\oD y=rk y:=by
 have hblk:=h.lt;have qA:=h.cF;have hbl0:=hblk B.n0 (by simp [LB.blk]);have hbl1:=hblk B.bt (by simp [LB.blk]);have hbl2:=hblk B.ba (by simp [LB.blk]);have hbl3:=hblk B.br (by simp [LB.blk]);have hbl4:=hblk B.c (by simp [LB.blk,qA]);have hs:=χ h.sep;have hA:=h.cells.ok.c1;have hlt:Hid (∀y,y∈ta.nodes++tb.nodes->y<A.cs.length):=fun y hy=>((ai A y).1 (hin y hy)).1;have hXl:(ta.nodes++tb.nodes).length<=A.cs.length:=nD hX hlt.out;have YE:=χ h;have HBL:=χ hblk;have D0:=χ (Down.start aC A ha hb);have Oa:=χ hin;have HX:=χ hX;have RA:=χ (ψ ra rb);have hst:=h.cells.pI;clear h ha hb hblk qA hin hX ra rb
 go_enter Tryz.func246,Tryz.ntmps246
 go_wp2
 go_loopw [1,2,7] (fun a b way wr=>∃ (S1:TS) (W:List (Nat×BT)) (a1 b1:BT),a=.int .i64 a1.root/\b=.int .i64 b1.root/\wr.ownsRow w.heap.size 3 1 way W.length (KS W)/\lU wr B F gt ct A (bZ st W.length) S1 rk ak/\Down aC A S ta tb S1 W a1 b1/\gK rk a1/\gK rk b1/\(∀p,p∈W->gK rk p.2)/\aa [B.c,B.ba] w wr) (fun _ _ way _=>(ta.nodes++tb.nodes).length-lenOf way)
 case atStart=>
  exact ⟨S,[],ta,tb,rfl,rfl,⟨by simp [KS,aU],Or.inl ⟨rfl,rfl⟩⟩,by rw [List.length_nil,gL hst];exact YE.out.aA β,D0.out,RA.out.1,RA.out.2,(fun p hp=>by cases hp),β⟩
 case round=>
  obtain ⟨S1,W,a1,b1,rfl,rfl,ho,hM,hD,r1,r2,r3,hu⟩:=hrel;have HM:=χ hM;have HD:=χ hD;have HR:=χ (ψ r1 (ψ r2 r3));have HO:=χ ho;have hlen:=hD.len;have h0:=hM.h0;have h1:=hM.h1;clear hM hD r1 r2 r3;obtain ⟨a5,c5,rfl,hc5⟩:=bu ho;have zo:∀g,(Value.slice a5 W.length c5).ownBlock=some g->w.heap.size<=g:=fun g hg=>(ho.lt g hg).1;have Q0:=χ zo;clear ho zo
  by_cases hne:a1=.nil\/b1=.nil
  ·obtain ⟨m0,e0,U0,hcnt,hor⟩:=HD.out.turn hne;have hm0:gK rk m0:=by rcases hor with rfl|rfl;exact HR.out.1;exact HR.out.2.1
   have hz:a1.root=-1\/(a1.root≠-1/\b1.root=-1):=by
    rcases hne with rfl|rfl
    ·exact Or.inl rfl
    ·by_cases e:a1.root=-1
     ·exact Or.inl e
     ·exact Or.inr ⟨e,rfl⟩
   have HU:=χ (ψ U0 (ψ hm0 (ψ hcnt HR.out.2.2)));have hWl:=U0.len;have HUP:=χ hu;rw [←hcnt] at HM;clear hne hor U0 hm0 HR HD hcnt hu hlen h0;generalize a1.root=za at *;generalize b1.root=zb at *;have HEX:Hid (∃W2 U2:List (Nat×BT),W=W2++U2):=⟨W,[],σ⟩;have e9:∃z9,m0.root=z9:=⟨_,rfl⟩;obtain ⟨z9,e9⟩:=e9;rw [e9] at e0;generalize hn0:W.length=n0 at *;have VU:=χ hn0;clear hn0;rcases hz with rfl|⟨hz1,rfl⟩
   all_goals
    first|rw [if_pos rfl] at e0|rw [if_neg hz1] at e0
    subst e0
    try (have hz2:(z9 != -1)=true:=by simpa using hz1)
    try (have hz3:(z9 == -1)=false:=by simpa using hz1)
    go_wp2
    go_loopw [9,10] (fun top i w5=>∃ (S2:TS) (W2 U2:List (Nat×BT)) (m:BT) (Bf:Nat->Nat),W=W2++U2/\top=.int .i64 m.root/\i=.int .i64 ((W2.length:Int)-1)/\lU w5 B F gt ct A (bZ st (aK aC A ta tb).2) S2 Bf ak/\Uu aC S (ta.nodes++tb.nodes) (aK aC A ta tb).1 S2 W2 m/\gK Bf m/\(∀p,p∈W2->gK Bf p.2)/\(∀y,y∉ta.nodes++tb.nodes->Bf y=rk y)/\aa [B.ba,B.br] wr w5) (fun _ i _=>(intOf i+1).toNat)
    case atStart=>exact ⟨S1,W,[],m0,rk,σ,by rw [e9],by rw [VU.out],HM.out,HU.out.1,HU.out.2.1,HU.out.2.2.2,fun _ _=>rfl,aa.refl _ _⟩
    case round=>
     obtain ⟨S2,W2,U2,m,Bf,rfl,rfl,rfl,hM,hU,r1,r2,r3,hu⟩:=hrel;rename World=>w5;rcases List.eq_nil_or_concat W2 with rfl|⟨W3,⟨x,l⟩,rfl⟩
     ·have e0:=hU.res;simp only [uT] at e0;simp only [List.length_nil];go_wp2;go_ret;rw [e0];exact ⟨rfl,(HUP.out.mono σ).trans (hu.mono σ),S2,Bf,hM,hU.isM,r1,fun y hy=>⟨hU.far y hy,r3 y hy⟩⟩
     ·have hpx:=hU.perm;simp only [List.concat_eq_append] at *;rw [pU,List.append_assoc] at hpx;have Bo:∀q,q∈(x::l.nodes)++m.nodes->q<A.cs.length:=fun q hq=>hlt.out q (hpx.mem_iff.1 (List.mem_append_right _ hq));have hnd:((x::l.nodes)++m.nodes).Nodup:=(θ.1 (hpx.nodup_iff.2 HX.out)).2.1;have hxA:=Bo x σ;obtain ⟨g,cap,ee,hI,hg⟩:=IZ.iY (l:=(W3++[(x,l)]++U2).map fun p=>(p.1:Int)) (by rw [List.length_map,VU.out];exact aF HO.out hu (fun k hk=>by have:=Q0.out k hk;simp;omega)) ζ;rw [List.length_map,VU.out] at ee
      injection ee with ee1 ee2 ee3
      subst ee1 ee3;have dz:=hI.cell W3.length σ;rw [show (((W3++[(x,l)]++U2).map fun p=>(p.1:Int)).getD W3.length 0)=(x:Int) by simp [φ]] at dz;have h0:=hM.h0;have h1:=hM.h1;have vD:=χ hM;have OW:=χ hU;have XE:=χ (ψ r1 (ψ r2 r3));have IJ:=χ (ψ Bo hnd);have hTx:=hU.way (x,l) σ;have Zo:=χ hTx;have HPX:=χ hpx;have hil:((W3++[(x,l)]).length:Int)-1=W3.length:=σ;rw [hil];have hi0:((W3.length:Int)≥0):=ω;have hWn:W3.length+1+U2.length=n0:=by have:=VU.out;simp at this;omega
      have hW3:W3.length<=65536:=ω;clear hM hU r1 r2 r3 Bo hnd hTx hpx hil hI ee2
      by_cases hm:m=.nil
      ·subst hm;simp only [BT.root]
       go_wp2_with fail
       have yO:cO S2 (-1) x (.node x l .nil):=Zo.out;refine (rq vD.out yO (XE.out.2.1 (x,l) σ) XE.out.1 (by simpa [BT.nodes] using IJ.out.2) (fun q hq=>IJ.out.1 q (by simpa [BT.nodes] using hq))).mono ?_;rintro e w7 ⟨rfl,kQ,S3,Te,IC,Ul,Wz,hs7,_,XF⟩;have Zt:=χ IC;have y5:=χ (ψ Ul (ψ Wz (ψ hs7 XF)));have X6:=χ (hu.trans kQ);clear IC Ul Wz hs7 XF hu kQ Zo h0 h1 dz;go_wp2
       go_roundw
       case rel=>
        refine ⟨S3,W3,(x,l)::U2,aC x l .nil,Te,σ,congrArg (Value.int .i64) (jP x l .nil).symm,by go_num,Zt.out,OW.out.turn nM HX.out y5.out.1 (fun y h1 _ _=>y5.out.2.2.1 y h1),y5.out.2.1,?_,?_,X6.out⟩
        ·exact CP OW.out HX.out y5.out.2.2.2 (fun p hp=>XE.out.2.1 p (List.mem_append_left _ hp))
        ·exact fun y hy=>(y5.out.2.2.2 y (fun e=>hy (by rw [e];exact HPX.out.mem_iff.1 σ))).trans (XE.out.2.2 y hy)
       case measure=>simp [intOf]
      ·obtain ⟨mr,hmr⟩:∃mr:Nat,m.root=mr:=⟨_,BT.x9 hm⟩;have hmm:=(bM hm).1;rw [hmr,π] at hmm;have yO:cO S2 (-1) x (.node x l .nil):=Zo.out;have XN:=OW.out.isM;have hur:S2.u mr=-1:=by
        cases m with
        | nil=>exact absurd rfl hm
        | node q a b=>
         have e:q=mr:=by have e':(q:Int)=mr:=hmr;omega
         subst e;exact XN.2.1
       have hnd:=IJ.out.2;have hxm:x≠mr:=fun e=>by
        rw [θ] at hnd;exact hnd.2.2 x σ mr hmm e
       obtain ⟨Bg,Pw⟩:=CL (m:=m) yO XN hm (by simpa [BT.nodes] using hnd);rw [hmr] at Bg Pw;have HT3:=χ (ψ Bg (ψ hm Pw));have kh:=fun W (hW:aa [] w5 W)=>zV B.bt B.ba A.cs.length S2 x mr true W ((vD.out.aA hW).trees) hxA (IJ.out.1 mr (List.mem_append_right _ hmm)) hxm hur yO.2.2.2;have HMR:=χ hmr;rw [hmr];have hz4:((mr:Int) != -1)=true:=σ;have rr1:∀W,aa [B.ba] w5 W->W.cell? ⟨B.n0,1,none⟩=some (.pointer (some ⟨B.bt,0,none⟩)):=fun W hW=>hW.kept h1 (by have:=hs.out;simp;omega);have rr2:∀W,aa [B.ba] w5 W->W.cell? ⟨g,W3.length,none⟩=some (.int .i64 (x:Int)):=fun W hW=>hW.kept dz ζ
       clear yO XN hur hnd Bg Pw hm hmr h0 h1 dz hmm
       go_wp2_with fail
       have BP:(0:Int)<=(W3.length:Int):=ω;have Gs:(W3.length:Int)<(n0:Int):=ω
       go_region_held3 (aa [B.ba] w5) (exact ν)
        ((go_at_call 251;(with_reducible refine (kh _ β).mono ?_);rintro e w6 ⟨rfl,Pf,iB⟩;(have UN:aa [B.ba] w5 w6:=ν)))
       have dz6:=rr2 w6 UN;have wQ:=χ (vD.out.iV UN Pf);clear rr1 rr2 kh iB Pf
       go_wp2_with fail
       refine (rq wQ.out HT3.out.1 (XE.out.2.1 (x,l) σ) XE.out.1 (by simpa [BT.nodes] using IJ.out.2) (fun q hq=>IJ.out.1 q (by simpa [BT.nodes] using hq))).mono ?_;rintro e w7 ⟨rfl,kQ,S3,Te,IC,Ul,Wz,hs7,_,XF⟩;have Zt:=χ IC;have y5:=χ (ψ Ul (ψ Wz (ψ hs7 XF)));have X6:=χ (hu.trans ((UN.mono σ).trans kQ));clear IC Ul Wz hs7 XF hu kQ Zo dz6 UN;go_wp2
       go_roundw
       case rel=>
        refine ⟨S3,W3,(x,l)::U2,aC x l m,Te,σ,by rw [jP],by go_num,Zt.out,OW.out.turn nM HX.out y5.out.1 (fun y h1 _ h3=>?_),y5.out.2.1,?_,?_,X6.out⟩
        ·have a1:=HT3.out.2.2 y h1 h3;have a2:=y5.out.2.2.1 y h1;exact ⟨a2.1.trans a1.1,a2.2.1.trans a1.2.1,a2.2.2.trans a1.2.2⟩
        ·exact CP OW.out HX.out y5.out.2.2.2 (fun p hp=>XE.out.2.1 p (List.mem_append_left _ hp))
        ·exact fun y hy=>(y5.out.2.2.2 y (fun e=>hy (by rw [e];exact HPX.out.mem_iff.1 σ))).trans (XE.out.2.2 y hy)
       case measure=>simp [intOf]
  ·obtain ⟨x,l,r,rfl⟩:∃x l r,a1=.node x l r:=by
    cases a1 with
    | nil=>exact absurd (Or.inl rfl) hne
    | node x l r=>exact ⟨x,l,r,rfl⟩
   obtain ⟨y,l',r',rfl⟩:∃x l r,b1=.node x l r:=by
    cases b1 with
    | nil=>exact absurd (Or.inr rfl) hne
    | node x l r=>exact ⟨x,l,r,rfl⟩
   clear hne;have hmx:∀z,z∈(BT.node x l r).nodes++(BT.node y l' r').nodes->z∈ta.nodes++tb.nodes:=fun z hz=>HD.out.perm.mem_iff.1 (List.mem_append_right _ hz);have hxm:=hmx x (by simp [BT.nodes]);have hym:=hmx y (by simp [BT.nodes]);have hWl:W.length+2<=(ta.nodes++tb.nodes).length:=by simp only [BT.nodes,List.length_cons,υ] at hlen ⊢;omega
   have Uh:=χ hmx;have hxb:((x:Int) != -1)=true:=σ;have hyb:((y:Int) != -1)=true:=σ;clear hmx hlen;have kA:=fF HM.out.cells y x (Oa.out y hym) (Oa.out x hxm);obtain ⟨sw,hsw⟩:∃sw,decide (cZ A y x)=sw:=⟨_,rfl⟩;rw [hsw] at kA;have KEY:∃ (z:Nat) (lz rz o:BT),z=(if sw then y else x)/\Down aC A S ta tb (zf S1 z rz) (W++[(z,lz)]) rz o/\cO S1 (-1) z (.node z lz rz)/\gK rk lz/\gK rk rz/\gK rk o/\z<A.cs.length/\(∀q,q∈rz.nodes->q<A.cs.length)/\o.root=(if sw then (x:Int) else (y:Int)):=by
    cases sw with
    | true=>
     exact ⟨y,l',r',.node x l r,rfl,HD.out.takeB HX.out (of_decide_eq_true hsw),HD.out.isB,HR.out.2.1.2.1,HR.out.2.1.2.2,HR.out.1,hlt.out y hym,fun q hq=>hlt.out q (Uh.out q (by simp [BT.nodes,hq])),rfl⟩
    | false=>
     exact ⟨x,l,r,.node y l' r',rfl,HD.out.takeA HX.out (of_decide_eq_false hsw),HD.out.isA,HR.out.1.2.1,HR.out.1.2.2,HR.out.2.1,hlt.out x hxm,fun q hq=>hlt.out q (Uh.out q (by simp [BT.nodes,hq])),rfl⟩
   obtain ⟨z,lz,rz,o,ez,hD2,hTz,q1,q2,q3,hz,hrz,eo⟩:=KEY;have HD2:=χ hD2;have HT:=χ hTz;have HQ:=χ (ψ q1 (ψ q2 (ψ q3 hrz)));clear hD2 hTz q1 q2 q3 hrz hsw;simp only [BT.root];cases sw
   all_goals
    simp only [if_true,if_false,Bool.false_eq_true] at ez eo;subst ez
    go_wp2_with fail
    refine kA.mono ?_;rintro e w1 ⟨rfl,jD,hu1⟩;have hM1:=χ (HM.out.dB (hu1.mono (by simp [HM.out.cF])) jD (fun x hx=>Or.inl hx) rfl rfl);have hss:bZ (bZ st W.length) 1=bZ st (W.length+1):=jg _ _ _;rw [hss] at hM1;have ho1:=aF HO.out hu1 (fun k hk=>by have:=Q0.out k hk;simp;omega);have h01:=hM1.out.h0;have h11:=hM1.out.h1;clear h0 h1 kA hss;have Wn:=χ (ψ hu hu1);clear hu hu1 jD;have HGB:Hid (∀g,g∈(Value.slice a5 W.length c5).ownBlock.toList->g∉B.blk F gt):=fun g hg hb=>by
     have h1:=Q0.out g (Option.mem_toList.1 hg);have h2:=HBL.out g hb;omega
    have hsz1:w.heap.size<=w1.heap.size:=(Wn.out.1.trans (Wn.out.2.mono σ)).size
    go_wp2_with (first
     | ((at_builtin;refine aW rfl _ _ 26 rfl w.heap.size 3 (.int .i64 0) 1 8 Tryz.underlying26 fK rfl δ _ _ _ rfl (ho1) [.int .i64 (z:Int)] rfl (by simp [Value.oneCell']) (by first|rfl|(rw [World.size_alloc];rfl)) μ ω (ω) ?_;intro v2 w2 ho2 hu2 mW);(have hM2:=χ (hM1.out.upd hu2 HGB.out));(have k12:=hM2.out.h1);(have kr:=JK hM2.out HT.out hz))
     | (go_at_call 249;(with_reducible refine (kr).mono ?_);rintro e w3 ⟨rfl,hu3⟩;(have k13:=hu3.was k12);(have jV:=χ (hM2.out.aA hu3));(have kc:=MW jV.out HT.out hz HQ.out.2.2.2))
     | (go_at_call 247;(with_reducible refine (nX _ _).mono ?_);rintro e w9 ⟨rfl,aM⟩;rw [aM];clear aM w9)
     | (go_at_call 244;(with_reducible refine (kc).mono ?_);rintro e w4 ⟨⟨v4,rfl⟩,sG,iC⟩)
     | fail)
    obtain ⟨a6,c6,rfl,hc6⟩:=bu ho2;have YD:∀k,(Value.slice a6 (W.length+1) c6).ownBlock=some k->w.heap.size<=k:=fun k hk=>(ho2.lt k hk).1;refine ⟨⟨_,W++[(z,lz)],rz,o,rfl,congrArg (Value.int .i64) eo.symm,?_,?_,HD2.out,HQ.out.2.1,HQ.out.2.2.1,?_,?_⟩,?_⟩
    ·rw [BZ,υ,List.length_singleton];exact aF (aF ho2 hu3 σ) iC (fun k hk=>by have:=YD k hk;simp;omega)
    ·rw [υ,List.length_singleton];exact sG
    ·intro p hp;rcases τ.1 hp with hp|hp
     ·exact HR.out.2.2 p hp
     ·simp only [List.mem_singleton] at hp;subst hp;exact HQ.out.1
    ·have v1:aa [B.c,B.ba] w w1:=Wn.out.1.trans (Wn.out.2.mono σ);have v2:aa [B.c,B.ba] w w2:=v1.joined hu2 (fun g hg=>Or.inr (Q0.out g (Option.mem_toList.1 hg)));exact (v2.trans (hu3.mono σ)).trans (iC.mono σ)
    ·show (ta.nodes++tb.nodes).length-(W.length+1)<(ta.nodes++tb.nodes).length-W.length
     omega
end
end Go.Proofs.YtklibcncmbofpaaGreat
