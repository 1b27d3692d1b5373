/-
  Lemmas for RankSorts: Lf, Lf2, Lf3. Conditions: those of each lemma.
-/
import Derived.IntWalk
import Derived.Test.YtklibcncmbofpaaGreatP05
import Derived.Test.YtklibcncmbofpaaGreatP10
set_option maxHeartbeats 8000000
set_option maxRecDepth 10000
set_option linter.unusedVariables false
set_option linter.unusedSimpArgs false
namespace Go.Proofs.YtklibcncmbofpaaGreat
open Go Go.RowKit
structure LB where
 n0:Nat
 c:Nat
 bt:Nat
 ba:Nat
 br:Nat
structure jh (w:World) (B:LB) (F:List Nat) (gt ct:Nat) (A:NS) (st:Nat) (S:TS) (rk:Nat→Nat) (ah:List Int):Prop where
 head:aI w B.n0 231 4 (fun j=>[Value.pointer (some ⟨B.c,0,none⟩),.pointer (some ⟨B.bt,0,none⟩),.slice (some ⟨B.br,0,none⟩) A.cs.length A.cs.length,.slice (some ⟨gt,0,none⟩) ah.length ct].getD j undef)
 cells:az w B.c F A st
 trees:aT w B.bt B.ba A.cs.length S
 ranks:aI w B.br 3 A.cs.length (fun j=>.int .i64 (rk j:Int))
 ic:IZ w gt ct ah
 gP:ah.length=A.hs.length
 aZ:B.n0∉F∧B.bt∉F∧B.ba∉F∧B.br∉F∧gt∉F
 sep:(B.n0≠B.bt∧B.n0≠B.ba∧B.n0≠B.br∧B.n0≠gt)∧(B.bt≠B.br∧B.bt≠gt∧B.ba≠B.br∧B.ba≠gt∧B.br≠gt)
section
variable {w:World} {B:LB} {F:List Nat} {gt ct:Nat} {A:NS} {st:Nat} {S:TS} {rk:Nat→Nat} {ah:List Int}
def LB.blk (B:LB) (F:List Nat) (gt:Nat):List Nat:=B.n0::B.bt::B.ba::B.br::gt::F
theorem jh.upd {w':World} {G:List Nat} (h:jh w B F gt ct A st S rk ah) (hu:aa G w w') (hG:∀x,x∈G→x∉B.blk F gt):jh w' B F gt ct A st S rk ah:=by
 have h1:∀x,x∈B.blk F gt→x∉G:=fun x hx hg=>hG x hg hx
 exact ⟨h.head.upd hu (h1 _ (by simp [LB.blk])),h.cells.upd hu (fun x hx=>fun hm=>hG x hx (by simp [LB.blk,hm])),h.trees.upd hu (h1 _ (by simp [LB.blk])) (h1 _ (by simp [LB.blk])),h.ranks.upd hu (h1 _ (by simp [LB.blk])),h.ic.upd hu (h1 _ (by simp [LB.blk])),h.gP,h.aZ,h.sep⟩
theorem jh.aj {w':World} (h:jh w B F gt ct A st S rk ah) (hu:aa [] w w'):jh w' B F gt ct A st S rk ah:=h.upd hu σ
theorem jh.lt (h:jh w B F gt ct A st S rk ah):∀x,x∈B.blk F gt→x<w.heap.size:=by
 intro x hx;have:=h.head.lt;have:=h.trees.head.lt;have:=h.trees.row.lt;have:=h.ranks.lt;have:=h.ic.lt;simp only [LB.blk,List.mem_cons] at hx;rcases hx with rfl|rfl|rfl|rfl|rfl|hx
 ·assumption
 ·assumption
 ·assumption
 ·assumption
 ·assumption
 ·exact h.cells.lt x hx
theorem jh.cF (h:jh w B F gt ct A st S rk ah):B.c∈F:=h.cells.mem
theorem jh.h0 (h:jh w B F gt ct A st S rk ah):w.cell? ⟨B.n0,0,none⟩=some (.pointer (some ⟨B.c,0,none⟩)):=h.head.cellAt 0 ω rfl
theorem jh.h1 (h:jh w B F gt ct A st S rk ah):w.cell? ⟨B.n0,1,none⟩=some (.pointer (some ⟨B.bt,0,none⟩)):=h.head.cellAt 1 ω rfl
theorem jh.h2 (h:jh w B F gt ct A st S rk ah):w.cell? ⟨B.n0,2,none⟩=some (.slice (some ⟨B.br,0,none⟩) A.cs.length A.cs.length):=h.head.cellAt 2 ω rfl
theorem jh.h3 (h:jh w B F gt ct A st S rk ah):w.cell? ⟨B.n0,3,none⟩=some (.slice (some ⟨gt,0,none⟩) ah.length ct):=h.head.cellAt 3 ω rfl
theorem jh.fM {w':World} {S':TS} (h:jh w B F gt ct A st S rk ah) (hu:aa [B.ba] w w') (hT:aT w' B.bt B.ba A.cs.length S'):jh w' B F gt ct A st S' rk ah:=by
 have s:=h.sep;have f:=h.aZ;have hne:=h.trees.ne;exact ⟨h.head.upd hu ζ,h.cells.upd hu (fun x hx=>by simp at hx;rw [hx];exact f.2.2.1),hT,h.ranks.upd hu ζ,h.ic.upd hu ζ,h.gP,f,s⟩
theorem jh.bJ (h:jh w B F gt ct A st S rk ah) (x:Nat) (k:Nat):jh (w.setCell ⟨B.br,x,none⟩ (.int .i64 (k:Int))) B F gt ct A st S (fun y=>if y=x then k else rk y) ah:=by
 have s:=h.sep;have f:=h.aZ;have hu:aa [B.br] w (w.setCell ⟨B.br,x,none⟩ (.int .i64 (k:Int))):=β;refine ⟨h.head.upd hu ζ,h.cells.upd hu (fun x hx=>by simp at hx;rw [hx];exact f.2.2.2.1),h.trees.upd hu ζ ζ,(h.ranks.set x _).ext (fun j hj=>?_),h.ic.upd hu ζ,h.gP,f,s⟩
 by_cases e:j=x
 ·simp only [e,if_true]
 ·simp only [e,if_false]
theorem jh.nT (h:jh w B F gt ct A st S rk ah) (x:Nat) (k:Int):jh (w.setCell ⟨gt,x,none⟩ (.int .i64 k)) B F gt ct A st S rk (ah.set x k):=by
 have s:=h.sep;have f:=h.aZ;have hu:aa [gt] w (w.setCell ⟨gt,x,none⟩ (.int .i64 k)):=β;refine ⟨by rw [List.length_set];exact h.head.upd hu ζ,h.cells.upd hu (fun x hx=>by simp at hx;rw [hx];exact f.2.2.2.2),h.trees.upd hu ζ ζ,h.ranks.upd hu ζ,h.ic.set x k,by rw [List.length_set];exact h.gP,f,s⟩
theorem jh.bI {w':World} {F':List Nat} {A':NS} {st':Nat} (h:jh w B F gt ct A st S rk ah) (hu:aa F w w') (hC:az w' B.c F' A' st') (hF:∀x,x∈F'→x∈F∨w.heap.size≤x) (h1:A'.cs.length=A.cs.length) (h2:A'.hs.length=A.hs.length):jh w' B F' gt ct A' st' S rk ah:=by
 have f:=h.aZ;have g:=h.lt;have hf:∀x,x<w.heap.size→x∉F→x∉F':=fun x hx hn hm=>by rcases hF x hm with h'|h';exact hn h';omega
 have l0:=g B.n0 (by simp [LB.blk]);have l1:=g B.bt (by simp [LB.blk]);have l2:=g B.ba (by simp [LB.blk]);have l3:=g B.br (by simp [LB.blk]);have l4:=g gt (by simp [LB.blk])
 exact ⟨by rw [h1];exact h.head.upd hu f.1,hC,by rw [h1];exact h.trees.upd hu f.2.1 f.2.2.1,by rw [h1];exact h.ranks.upd hu f.2.2.2.1,h.ic.upd hu f.2.2.2.2,by rw [h2];exact h.gP,⟨hf _ l0 f.1,hf _ l1 f.2.1,hf _ l2 f.2.2.1,hf _ l3 f.2.2.2.1,hf _ l4 f.2.2.2.2⟩,h.sep⟩
end
theorem kZ (z:Int) (w:World):Calls Tryz.prog 247 #[.int .i64 (tv z),.bool (tb z)] w fun e w'=>e=.returned (.int .i64 z)∧w'=w:=by
 unfold tv tb
 by_cases h:z=-1
 ·subst h;simp only [if_true,ne_eq,not_true,decide_false]
  go_enter Tryz.func247,Tryz.ntmps247
  go_wp2;go_ret;exact ⟨rfl,rfl⟩
 ·rw [if_neg h,decide_eq_true h]
  go_enter Tryz.func247,Tryz.ntmps247
  go_wp2;go_ret;exact ⟨rfl,rfl⟩
def fe (rk:Nat→Nat) (z:Int):Int:=if z=-1 then 0 else (rk z.toNat:Int)
section
variable {w:World} {B:LB} {F:List Nat} {gt ct:Nat} {A:NS} {st:Nat} {S:TS} {rk:Nat→Nat} {ah:List Int}
theorem iR (h:jh w B F gt ct A st S rk ah) (z:Int) (hz:z=-1∨(0≤z∧z<A.cs.length)) :
  Calls Tryz.prog 258 #[.pointer (some ⟨B.n0,0,none⟩),.int .i64 z] w fun e w'=>e=.returned (.int .i64 (fe rk z))∧w'=w:=by
 unfold fe;have h2:=h.h2;have hA:=h.cells.ok.c1
 by_cases e:z=-1
 ·subst e;clear h
  go_enter Tryz.func258,Tryz.ntmps258
  go_wp2;go_ret;exact ⟨rfl,rfl⟩
 ·obtain ⟨i,rfl⟩:∃i:Nat,z=i:=⟨z.toNat,ω⟩
  have hi:i<A.cs.length:=ω;have d:=h.ranks.cell i hi;have hb:((i:Int) == -1)=false:=σ;rw [if_neg e];simp only [π];clear h e hz
  go_enter Tryz.func258,Tryz.ntmps258
  go_wp2;go_ret;exact ⟨rfl,rfl⟩
theorem pV (rk:Nat→Nat) (z:Int):0≤fe rk z:=by unfold fe;split<;>omega
theorem AL (h:jh w B F gt ct A st S rk ah) (x:Nat) (hx:x<A.cs.length) (hl:S.l x=-1∨(0≤S.l x∧S.l x<A.cs.length)) (hr:S.r x=-1∨(0≤S.r x∧S.r x<A.cs.length)) (hba:fe rk (S.l x)≤65536) (hbb:fe rk (S.r x)≤65536) (hab:fe rk (S.l x)<fe rk (S.r x)) :
  Calls Tryz.prog 255 #[.pointer (some ⟨B.n0,0,none⟩),.int .i64 (x:Int)] w fun e w'=>e=.returned (.tuple #[])∧aa [B.ba,B.br] w w'∧jh w' B F gt ct A st (gX S x) (fun y=>if y=x then (fe rk (S.l x)).toNat + 1 else rk y) ah:=by
 have kl:=fun d=>wh B.bt B.ba A.cs.length S (x:Int) (w.drewN d) (h.trees.drewN d)
 have kr:=fun d=>mJ B.bt B.ba A.cs.length S (x:Int) (w.drewN d) (h.trees.drewN d)
 rw [show eY A.cs.length S (x:Int) false=S.l x by unfold eY TS.kid;rw [if_pos ω];simp] at kl
 rw [show eY A.cs.length S (x:Int) true=S.r x by unfold eY TS.kid;rw [if_pos ω];simp] at kr
 have q1:∀d,(w.drewN d).cell? ⟨B.n0,1,none⟩=some (.pointer (some ⟨B.bt,0,none⟩)):=fun d=>h.h1
 have H:=χ h;have rl:=fun d=>iR (h.aj ((aa.refl [] w).drewN d)) (S.l x) hl
 have rr:=fun d=>iR (h.aj ((aa.refl [] w).drewN d)) (S.r x) hr
 have ba1:0≤fe rk (S.l x)∧fe rk (S.l x)≤65536:=⟨pV _ _,hba⟩;have bb1:0≤fe rk (S.r x)∧fe rk (S.r x)≤65536:=⟨pV _ _,hbb⟩;clear hba hbb;have HL:=χ (ψ hl hr);generalize hzl:S.l x=zl at *
 generalize hzr:S.r x=zr at *
 generalize hra:fe rk zl=a at *
 generalize hrb:fe rk zr=b at *
 have HZ:=χ (ψ hzl (ψ hzr (ψ hra hrb)));have hn0:=h.lt B.n0 (by simp [LB.blk])
 have hbr:=h.lt B.br (by simp [LB.blk])
 have hs:=h.sep;have hA:=h.cells.ok.c1;clear h hzl hzr hra hrb hl hr
 go_enter Tryz.func255,Tryz.ntmps255
 go_wp2
 go_quiet ((first
  | (go_at_call 248;exact Calls.quiet_of (kl _))
  | (go_at_call 249;exact Calls.quiet_of (kr _))
  | (go_at_call 247;exact Calls.quiet_of_same (kZ _ _))))
 have H2:=χ (H.out.aj ((aa.refl [] w).drewN nq));have rln:=rl nq;have rrn:=rr nq;have h1:=q1 nq;clear kl kr q1 rl rr;have kt:=wu B.bt B.ba A.cs.length S x (w.drewN nq) H2.out.trees hx
 go_wp2_with (first
  | (go_at_call 258;(with_reducible refine (rln).mono ?_);rintro e w9 ⟨rfl,hw9⟩;rw [hw9];clear hw9 w9)
  | (go_at_call 258;(with_reducible refine (rrn).mono ?_);rintro e w9 ⟨rfl,hw9⟩;rw [hw9];clear hw9 w9)
  | (go_at_call 259;(with_reducible refine (kt).mono ?_);rintro e w2 ⟨rfl,hT,hu2⟩))
 have h3:=χ (H2.out.fM hu2 hT);have hw2:aa [B.ba,B.br] w w2:=((aa.refl _ w).drewN nq).trans (hu2.mono σ);have kq:=fun W (hW:aa [] w2 W)=>iR (h3.out.aj hW) zl HL.out.1
 rw [HZ.out.2.2.1] at kq;have r0:∀W,aa [B.br] w2 W→W.cell? ⟨B.n0,2,none⟩=some (.slice (some ⟨B.br,0,none⟩) A.cs.length A.cs.length):=fun W hW=>hW.kept h3.out.h2 ζ
 have d0:=h3.out.ranks.cell x hx;have d1:=h3.out.ranks.free x;have hwr:IntKind.i64.wrap (a+1)=a+1:=IntWalk.i64_in _ ω
 go_region_held3 (aa [B.br] w2) (repeat (first|assumption|exact aa.refl _ _|refine aa.drew ?_|refine aa.alloc ?_ _|refine aa.setCell ?_ ?_ _|focus (left;simp;done)|focus (right;simp;done)|focus (right;simp;omega)|(apply aa.trans;rotate_left;assumption))) ((go_at_call 258;(with_reducible refine ((kq _ β)).mono ?_);rintro e w9 ⟨rfl,hw9⟩;rw [hw9];clear hw9 w9))
 go_wp2;go_end0;clear hwr;obtain ⟨an,rfl⟩:∃an:Nat,a=an:=⟨a.toNat,ω⟩
 have hR:=h3.out.bJ x (an+1);rw [show ((an+1:Nat):Int)=(an:Int)+1 by omega] at hR
 exact ⟨rfl,((hw2.setCell (Or.inl σ) _)).drew,hR.aj ((aa.refl _ _).drew)⟩
theorem zK (h:jh w B F gt ct A st S rk ah) (x:Nat) (hx:x<A.cs.length) (hl:S.l x=-1∨(0≤S.l x∧S.l x<A.cs.length)) (hr:S.r x=-1∨(0≤S.r x∧S.r x<A.cs.length)) (hba:fe rk (S.l x)≤65536) (hbb:fe rk (S.r x)≤65536) (hab:¬fe rk (S.l x)<fe rk (S.r x)) :
  Calls Tryz.prog 255 #[.pointer (some ⟨B.n0,0,none⟩),.int .i64 (x:Int)] w fun e w'=>e=.returned (.tuple #[])∧aa [B.ba,B.br] w w'∧jh w' B F gt ct A st S (fun y=>if y=x then (fe rk (S.r x)).toNat + 1 else rk y) ah:=by
 have kl:=fun d=>wh B.bt B.ba A.cs.length S (x:Int) (w.drewN d) (h.trees.drewN d)
 have kr:=fun d=>mJ B.bt B.ba A.cs.length S (x:Int) (w.drewN d) (h.trees.drewN d)
 rw [show eY A.cs.length S (x:Int) false=S.l x by unfold eY TS.kid;rw [if_pos ω];simp] at kl
 rw [show eY A.cs.length S (x:Int) true=S.r x by unfold eY TS.kid;rw [if_pos ω];simp] at kr
 have q1:∀d,(w.drewN d).cell? ⟨B.n0,1,none⟩=some (.pointer (some ⟨B.bt,0,none⟩)):=fun d=>h.h1
 have H:=χ h;have rl:=fun d=>iR (h.aj ((aa.refl [] w).drewN d)) (S.l x) hl
 have rr:=fun d=>iR (h.aj ((aa.refl [] w).drewN d)) (S.r x) hr
 have ba1:0≤fe rk (S.l x)∧fe rk (S.l x)≤65536:=⟨pV _ _,hba⟩;have bb1:0≤fe rk (S.r x)∧fe rk (S.r x)≤65536:=⟨pV _ _,hbb⟩;clear hba hbb;have HL:=χ (ψ hl hr);generalize hzl:S.l x=zl at *
 generalize hzr:S.r x=zr at *
 generalize hra:fe rk zl=a at *
 generalize hrb:fe rk zr=b at *
 have HZ:=χ (ψ hzl (ψ hzr (ψ hra hrb)));have hn0:=h.lt B.n0 (by simp [LB.blk])
 have hbr:=h.lt B.br (by simp [LB.blk])
 have hs:=h.sep;have hA:=h.cells.ok.c1;clear h hzl hzr hra hrb hl hr
 go_enter Tryz.func255,Tryz.ntmps255
 go_wp2
 go_quiet ((first
  | (go_at_call 248;exact Calls.quiet_of (kl _))
  | (go_at_call 249;exact Calls.quiet_of (kr _))
  | (go_at_call 247;exact Calls.quiet_of_same (kZ _ _))))
 have H2:=χ (H.out.aj ((aa.refl [] w).drewN nq));have rln:=rl nq;have rrn:=rr nq;have h1:=q1 nq;clear kl kr q1 rl rr
 go_wp2_with (first
  | (go_at_call 258;(with_reducible refine (rln).mono ?_);rintro e w9 ⟨rfl,hw9⟩;rw [hw9];clear hw9 w9)
  | (go_at_call 258;(with_reducible refine (rrn).mono ?_);rintro e w9 ⟨rfl,hw9⟩;rw [hw9];clear hw9 w9))
 obtain ⟨w2,hw2⟩:∃w2,w2=w.drewN nq:=⟨_,rfl⟩
 have hu2:aa [B.ba,B.br] w w2:=by rw [hw2];exact (aa.refl _ w).drewN nq
 rw [←hw2] at H2 ⊢;clear hw2 h1 rln rrn;have kq:=fun W (hW:aa [] w2 W)=>iR (H2.out.aj hW) zr HL.out.2
 rw [HZ.out.2.2.2] at kq;have r0:∀W,aa [B.br] w2 W→W.cell? ⟨B.n0,2,none⟩=some (.slice (some ⟨B.br,0,none⟩) A.cs.length A.cs.length):=fun W hW=>hW.kept H2.out.h2 ζ
 have d0:=H2.out.ranks.cell x hx;have d1:=H2.out.ranks.free x;have hwr:IntKind.i64.wrap (b+1)=b+1:=IntWalk.i64_in _ ω
 go_region_held3 (aa [B.br] w2) (repeat (first|assumption|exact aa.refl _ _|refine aa.drew ?_|refine aa.alloc ?_ _|refine aa.setCell ?_ ?_ _|focus (left;simp;done)|focus (right;simp;done)|focus (right;simp;omega)|(apply aa.trans;rotate_left;assumption))) ((go_at_call 258;(with_reducible refine ((kq _ β)).mono ?_);rintro e w9 ⟨rfl,hw9⟩;rw [hw9];clear hw9 w9))
 go_wp2;go_end0;clear hwr;obtain ⟨bn,rfl⟩:∃bn:Nat,b=bn:=⟨b.toNat,ω⟩
 have hR:=H2.out.bJ x (bn+1);rw [show ((bn+1:Nat):Int)=(bn:Int)+1 by omega] at hR
 exact ⟨rfl,((hu2.setCell (Or.inl σ) _)).drew,hR.aj ((aa.refl _ _).drew)⟩
end
theorem zQ:∀t:BT,t.rank≤t.size
 | .nil=>Nat.le_refl _
 | .node x l r=>by have:=zQ r;simp only [BT.rank,BT.size];omega
theorem j6 {n:Nat} {l:List Nat} (hn:l.Nodup) (hl:∀x,x∈l→x<n):l.length≤n:=by
 have:=nodup_range n (l.map fun (x:Nat)=>(x:Int)) (by
  unfold List.Nodup;rw [List.pairwise_map];exact hn.imp (fun {a b} h e=>h ω)) (fun y hy=>by
  obtain ⟨x,hx,rfl⟩:=List.mem_map.1 hy;have:=hl x hx
  exact ⟨ω,ω⟩)
 simpa using this
theorem wV {rk:Nat→Nat} {t:BT} (h:dV rk t):fe rk t.root=t.rank:=by
 unfold fe
 by_cases e:t=.nil
 ·subst e;simp [BT.root,BT.rank]
 ·have:=bg e;rw [if_neg ω];rw [h.root e]
theorem sS {n:Nat} {t:BT} (h:∀x,x∈t.nodes→x<n):t.root=-1∨(0≤t.root∧t.root<n):=by
 by_cases e:t=.nil
 ·subst e;exact Or.inl rfl
 ·have h1:=bg e;have:=h _ h1.1;exact Or.inr ⟨ω,ω⟩
theorem Kw {S:TS} {p:Int} {x:Nat} {l r:BT} (hu:S.u x=p) (hl:bG S x (S.l x) l) (hr:bG S x (S.r x) r):bG S p x (.node x l r):=⟨rfl,hu,hl,hr⟩
section
variable {w:World} {B:LB} {F:List Nat} {gt ct:Nat} {A:NS} {st:Nat} {S:TS} {rk:Nat→Nat} {ah:List Int}
theorem nX (h:jh w B F gt ct A st S rk ah) {p:Int} {x:Nat} {l r:BT} (hT:bG S p x (.node x l r)) (hl:dV rk l) (hr:dV rk r) (hn:(BT.node x l r).nodes.Nodup) (hlt:∀y,y∈(BT.node x l r).nodes→y<A.cs.length) :
  Calls Tryz.prog 255 #[.pointer (some ⟨B.n0,0,none⟩),.int .i64 (x:Int)] w fun e w'=>e=.returned (.tuple #[])∧aa [B.ba,B.br] w w'∧
   ∃S' rk',jh w' B F gt ct A st S' rk' ah∧bG S' p x (au x l r)∧dV rk' (au x l r)∧(∀y,y≠x→S.at S' y)∧S'.u x=S.u x∧(∀y,y≠x→rk' y=rk y):=by
 obtain ⟨_,hu,hTl,hTr⟩:=hT;have hx:=hlt x (by simp [BT.nodes])
 have hll:∀y,y∈l.nodes→y<A.cs.length:=fun y hy=>hlt y (by simp [BT.nodes,hy])
 have hlr:∀y,y∈r.nodes→y<A.cs.length:=fun y hy=>hlt y (by simp [BT.nodes,hy])
 have hA:=h.cells.ok.c1;have hn2:=hn;simp only [BT.nodes,List.nodup_cons,List.mem_append,not_or,List.nodup_append] at hn2;have sl:=j6 hn2.2.1 hll;have sr:=j6 hn2.2.2.1 hlr;rw [BT.jA] at sl sr;have rl:=zQ l;have rr:=zQ r;have el:=hTl.root;have er:=hTr.root;have fr:∀ {S':TS},(∀y,y≠x→S.at S' y)→(∀z,bG S x z l→bG S' x z l)∧(∀z,bG S x z r→bG S' x z r):=fun hS=>
  ⟨fun z hz=>hz.frame (fun y hy=>hS y (fun e=>hn2.1.1 (by rw [←e];exact hy))),fun z hz=>hz.frame (fun y hy=>hS y (fun e=>hn2.1.2 (by rw [←e];exact hy)))⟩
 have zl:fe rk (S.l x)=l.rank:=by rw [el];exact wV hl
 have zr:fe rk (S.r x)=r.rank:=by rw [er];exact wV hr
 by_cases hab:l.rank<r.rank
 ·refine (AL h x hx (by rw [el];exact sS hll) (by rw [er];exact sS hlr) (by rw [zl];omega) (by rw [zr];omega) (by rw [zl,zr];omega)).mono ?_
  rintro e w' ⟨rfl,hU,hM⟩;have hat:∀y,y≠x→S.at (gX S x) y:=fun y hy=>⟨by unfold gX TS.aD;simp [hy],by unfold gX TS.aD;simp [hy],by unfold gX TS.aD;simp⟩
  have e1:(gX S x).l x=S.r x:=by unfold gX TS.aD;simp
  have e2:(gX S x).r x=S.l x:=by unfold gX TS.aD;simp
  have e3:(gX S x).u x=S.u x:=by unfold gX TS.aD;simp
  refine ⟨rfl,hU,_,_,hM,?_,?_,hat,e3,fun y hy=>by rw [if_neg hy]⟩
  ·unfold au;rw [if_pos hab];exact ⟨rfl,by rw [e3];exact hu,by rw [e1];exact (fr hat).2 _ hTr,by rw [e2];exact (fr hat).1 _ hTl⟩
  ·unfold au;rw [if_pos hab];refine ⟨by simp [zl],hr.frame (fun y hy=>by rw [if_neg (fun e=>hn2.1.2 (by rw [←e];exact hy))]),hl.frame (fun y hy=>by rw [if_neg (fun e=>hn2.1.1 (by rw [←e];exact hy))])⟩
 ·refine (zK h x hx (by rw [el];exact sS hll) (by rw [er];exact sS hlr) (by rw [zl];omega) (by rw [zr];omega) (by rw [zl,zr];omega)).mono ?_
  rintro e w' ⟨rfl,hU,hM⟩;refine ⟨rfl,hU,_,_,hM,?_,?_,fun y _=>⟨rfl,rfl,rfl⟩,rfl,fun y hy=>by rw [if_neg hy]⟩
  ·unfold au;rw [if_neg hab];exact ⟨rfl,hu,hTl,hTr⟩
  ·unfold au;rw [if_neg hab];refine ⟨by simp [zr],hl.frame (fun y hy=>by rw [if_neg (fun e=>hn2.1.1 (by rw [←e];exact hy))]),hr.frame (fun y hy=>by rw [if_neg (fun e=>hn2.1.2 (by rw [←e];exact hy))])⟩
end
theorem BT.uA {t:BT} (h:t≠.nil):t.root=(t.root.toNat:Int):=(bg h).2
def xx (S:TS) (x:Nat) (r:BT):TS:=match r with | .nil=>S | .node y _ _=>jQ S x y
theorem IX {S:TS} {p:Int} {x:Nat} {l r:BT} (h:bG S p x (.node x l r)) (hn:(BT.node x l r).nodes.Nodup) :
  bG (xx S x r) p x (.node x l .nil)∧bG (xx S x r) (-1) r.root r∧∀y,y≠x→y∉r.nodes→S.at (xx S x r) y:=by
 obtain ⟨_,hu,hl,hr⟩:=h;simp only [BT.nodes,List.nodup_cons,List.mem_append,not_or,List.nodup_append] at hn;cases r with
 | nil=>exact ⟨⟨rfl,hu,hl,hr⟩,rfl,fun y _ _=>⟨rfl,rfl,rfl⟩⟩
 | node y a b=>
  have hxy:x≠y:=fun e=>hn.1.2 (by rw [e];simp [BT.nodes])
  have hry:S.r x=y:=hr.1;have e:xx S x (.node y a b)=jQ S x y:=rfl;rw [e];have hl':∀z,(jQ S x y).l z=S.l z:=fun z=>by unfold jQ TS.aD TS.bA;rw [decide_eq_true hry];rfl
  have hr':∀z,(jQ S x y).r z=if z=x then -1 else S.r z:=fun z=>by unfold jQ TS.aD TS.bA;rw [decide_eq_true hry];rfl
  have hu':∀z,(jQ S x y).u z=if z=y then -1 else S.u z:=fun z=>by unfold jQ TS.aD TS.bA;rw [decide_eq_true hry];rfl
  refine ⟨⟨rfl,by rw [hu',if_neg hxy];exact hu,?_,by rw [hr',if_pos rfl];rfl⟩,?_,fun z h1 h2=>⟨hl' z,by rw [hr',if_neg h1],by rw [hu',if_neg (fun e=>h2 (by rw [e];simp [BT.nodes]))]⟩⟩
  ·rw [hl'];refine hl.frame (fun z hz=>⟨hl' z,by rw [hr',if_neg (fun e=>hn.1.1 (by rw [←e];exact hz))],by rw [hu',if_neg (fun e=>hn.2.2.2 z hz y (by simp [BT.nodes]) e)]⟩)
  ·have h0:bG S x ((BT.node y a b).root) (.node y a b):=by rw [←hr.root];exact hr
   refine h0.GX (p':=-1) hn.2.2.1 (fun z hz=>⟨hl' z,by rw [hr',if_neg (fun e=>hn.1.2 (by rw [←e];exact hz))],fun hzr=>by rw [hu',if_neg (fun e=>hzr (by rw [e];simp [BT.root]))]⟩) (fun _=>by rw [hu'];simp [BT.root])
theorem zn {S:TS} {p:Int} {x:Nat} {l m:BT} (h:bG S p x (.node x l .nil)) (hm:bG S (-1) m.root m) (hne:m≠.nil) (hn:(BT.node x l m).nodes.Nodup) :
  bG (iZ S x m.root true) p x (.node x l m)∧∀y,y≠x→y∉m.nodes→S.at (iZ S x m.root true) y:=by
 obtain ⟨_,hu,hl,_⟩:=h;simp only [BT.nodes,List.nodup_cons,List.mem_append,not_or,List.nodup_append] at hn;obtain ⟨r1,r2⟩:=bg hne;have hl':∀z,(iZ S x m.root true).l z=S.l z:=fun z=>by unfold iZ TS.aD TS.bA;rfl
 have hr':∀z,(iZ S x m.root true).r z=if z=x then m.root else S.r z:=fun z=>by unfold iZ TS.aD TS.bA;simp
 have hu':∀z,(iZ S x m.root true).u z=if z=m.root.toNat then (x:Int) else S.u z:=fun z=>by unfold iZ TS.aD TS.bA;simp
 have hxm:x≠m.root.toNat:=fun e=>hn.1.2 (by rw [e];exact r1)
 refine ⟨⟨rfl,by rw [hu',if_neg hxm];exact hu,?_,?_⟩,fun z h1 h2=>⟨hl' z,by rw [hr',if_neg h1],by rw [hu',if_neg (fun e=>h2 (by rw [e];exact r1))]⟩⟩
 ·rw [hl'];exact hl.frame (fun z hz=>⟨hl' z,by rw [hr',if_neg (fun e=>hn.1.1 (by rw [←e];exact hz))],by rw [hu',if_neg (fun e=>hn.2.2.2 z hz _ r1 e)]⟩)
 ·rw [hr',if_pos rfl];exact hm.GX (p':=(x:Int)) hn.2.2.1 (fun z hz=>⟨hl' z,by rw [hr',if_neg (fun e=>hn.1.2 (by rw [←e];exact hz))],fun hzr=>by rw [hu',if_neg hzr]⟩) (fun _=>by rw [hu',if_pos rfl])
structure Down (up:Nat→BT→BT→BT) (A:NS) (S0:TS) (ta tb:BT) (S:TS) (W:List (Nat×BT)) (a b:BT):Prop where
 PD:bG S (-1) a.root a
 PG:bG S (-1) b.root b
 way:∀p,p∈W→bG S (-1) (p.1:Int) (.node p.1 p.2 .nil)
 far:∀y,y∉ta.nodes++tb.nodes→S0.at S y
 perm:(qN W++(a.nodes++b.nodes)).Perm (ta.nodes++tb.nodes)
 res:aF up A ta tb=(qV up W (aF up A a b).1,W.length+(aF up A a b).2)
theorem Down.start (up:Nat→BT→BT→BT) (A:NS) {S0:TS} {ta tb:BT} (ha:bG S0 (-1) ta.root ta) (hb:bG S0 (-1) tb.root tb):Down up A S0 ta tb S0 [] ta tb:=
 ⟨ha,hb,fun p hp=>(by cases hp),fun y _=>⟨rfl,rfl,rfl⟩,by simp [qN],by simp [qV]⟩
theorem mK (W:List (Nat×BT)) (x:Nat) (l:BT):qN (W++[(x,l)])=qN W++(x::l.nodes):=by unfold qN;simp
theorem AZ {W:List (Nat×BT)} {p:Nat×BT} (hp:p∈W):p.1∈qN W∧∀y,y∈p.2.nodes→y∈qN W:=by
 unfold qN;exact ⟨List.mem_flatMap.2 ⟨p,hp,σ⟩,fun y hy=>List.mem_flatMap.2 ⟨p,hp,by simp [hy]⟩⟩
theorem Down.take {up:Nat→BT→BT→BT} {A:NS} {S0 S:TS} {ta tb b l r:BT} {x:Nat} {W:List (Nat×BT)} (hX:(ta.nodes++tb.nodes).Nodup)
  (h1:bG S (-1) (x:Int) (.node x l r)) (h2:bG S (-1) b.root b) (h3:∀p,p∈W→bG S (-1) (p.1:Int) (.node p.1 p.2 .nil)) (h4:∀y,y∉ta.nodes++tb.nodes→S0.at S y)
  (h5:(qN W++((BT.node x l r).nodes++b.nodes)).Perm (ta.nodes++tb.nodes)) (h6:aF up A ta tb=(qV up W (up x l (aF up A r b).1),W.length+((aF up A r b).2+1))) :
  Down up A S0 ta tb (xx S x r) (W++[(x,l)]) r b:=by
 have hnd:=h5.nodup_iff.2 hX;rw [List.nodup_append] at hnd;obtain ⟨n1,n2,n3⟩:=hnd;rw [List.nodup_append] at n2;obtain ⟨n4,n5,n6⟩:=n2;obtain ⟨c1,c2,c3⟩:=IX h1 n4;have hout:∀y,y∉ta.nodes++tb.nodes→y≠x∧y∉r.nodes:=fun y hy=>
  ⟨fun e=>hy (h5.mem_iff.1 (by rw [e];simp [BT.nodes])),fun hm=>hy (h5.mem_iff.1 (by simp [BT.nodes,hm]))⟩
 refine ⟨c2,h2.frame (fun y hy=>c3 y (fun e=>n6 x (by simp [BT.nodes]) y hy e.symm) (fun hm=>n6 y (by simp [BT.nodes,hm]) y hy rfl)),fun p hp=>?_,fun y hy=>?_,?_,?_⟩
 ·rcases List.mem_append.1 hp with hp|hp
  ·have hw:=AZ hp;refine (h3 p hp).frame (fun y hy=>?_)
   have hyw:y∈qN W:=by
    simp only [BT.nodes,List.append_nil,List.mem_cons] at hy;rcases hy with rfl|hy
    ·exact hw.1
    ·exact hw.2 y hy
   exact c3 y (fun e=>n3 y hyw x (by simp [BT.nodes]) e) (fun hm=>n3 y hyw y (by simp [BT.nodes,hm]) rfl)
  ·simp only [List.mem_singleton] at hp;subst hp;exact c1
 ·obtain ⟨k1,k2⟩:=hout y hy;have a1:=h4 y hy;have a2:=c3 y k1 k2;exact ⟨a2.1.trans a1.1,a2.2.1.trans a1.2.1,a2.2.2.trans a1.2.2⟩
 ·rw [mK];refine List.Perm.trans ?_ h5;simp only [BT.nodes,List.append_assoc,List.cons_append];exact List.Perm.refl _
 ·rw [h6,wM];simp only [List.length_append,List.length_cons,List.length_nil];exact Prod.ext rfl (by simp only;omega)
theorem Down.takeA {up:Nat→BT→BT→BT} {A:NS} {S0 S:TS} {ta tb l r l' r':BT} {x y:Nat} {W:List (Nat×BT)} (h:Down up A S0 ta tb S W (.node x l r) (.node y l' r')) (hX:(ta.nodes++tb.nodes).Nodup) (hlt:¬bH A y x) :
  Down up A S0 ta tb (xx S x r) (W++[(x,l)]) r (.node y l' r'):=by
 refine Down.take hX h.PD h.PG h.way h.far h.perm ?_;rw [h.res,l9,if_neg hlt]
theorem Down.takeB {up:Nat→BT→BT→BT} {A:NS} {S0 S:TS} {ta tb l r l' r':BT} {x y:Nat} {W:List (Nat×BT)} (h:Down up A S0 ta tb S W (.node x l r) (.node y l' r')) (hX:(ta.nodes++tb.nodes).Nodup) (hlt:bH A y x) :
  Down up A S0 ta tb (xx S y r') (W++[(y,l')]) r' (.node x l r):=by
 refine Down.take hX h.PG h.PD h.way h.far ?_ ?_
 ·refine List.Perm.trans ?_ h.perm;exact List.Perm.append_left _ List.perm_append_comm
 ·rw [h.res,l9,if_pos hlt]
structure Nj (up:Nat→BT→BT→BT) (S0:TS) (X:List Nat) (t:BT) (S:TS) (W:List (Nat×BT)) (m:BT):Prop where
 PK:bG S (-1) m.root m
 way:∀p,p∈W→bG S (-1) (p.1:Int) (.node p.1 p.2 .nil)
 far:∀y,y∉X→S0.at S y
 perm:(qN W++m.nodes).Perm X
 res:t=qV up W m
theorem Down.turn {up:Nat→BT→BT→BT} {A:NS} {S0 S:TS} {ta tb a b:BT} {W:List (Nat×BT)} (h:Down up A S0 ta tb S W a b) (he:a=.nil∨b=.nil) :
  ∃m,m.root=(if a.root=-1 then b.root else a.root)∧Nj up S0 (ta.nodes++tb.nodes) (aF up A ta tb).1 S W m∧(aF up A ta tb).2=W.length∧(m=a∨m=b):=by
 rcases he with rfl|rfl
 ·refine ⟨b,by simp [BT.root],⟨h.PG,h.way,h.far,by simpa [BT.nodes] using h.perm,by rw [h.res,jr]⟩,by rw [h.res,jr];simp,Or.inr rfl⟩
 ·refine ⟨a,?_,⟨h.PD,h.way,h.far,by simpa [BT.nodes] using h.perm,by rw [h.res,lZ]⟩,by rw [h.res,lZ];simp,Or.inl rfl⟩
  split
  ·rename_i e;rw [e];rfl
  ·rfl
end Go.Proofs.YtklibcncmbofpaaGreat
