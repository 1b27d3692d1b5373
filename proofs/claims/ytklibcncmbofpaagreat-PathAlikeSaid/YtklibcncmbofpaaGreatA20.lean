/-
  Lemmas for PathAlike: Pal. Conditions: those of each lemma.
-/
import Derived.Test.YtklibcncmbofpaaGreatA12
import Derived.Test.YtklibcncmbofpaaGreatA19
set_option linter.all false
set_option maxHeartbeats 8000000
set_option maxRecDepth 10000
namespace Go.Proofs.YtklibcncmbofpaaGreat
open Go Go.RowKit
def Zw:List Ed:=[⟨0,1,5⟩,⟨0,2,1⟩,⟨2,1,3⟩]
theorem len3 {l:List Int} (h:l.length=3):l=[l.getD 0 0,l.getD 1 0,l.getD 2 0]:=by
 match l,h with
 | [a,b,c],_=>rfl
theorem Q3 {D B:List Int} (h:K9 (eN Zw) 3 0 (passes (eN Zw) 0 3) D B):D=[0,4,1]/\B=[-1,2,1]:=by
 have YE:D.length=3:=h.1;have hlB:B.length=3:=h.2.1;have d0:D.getD 0 0=0:=(h.2.2 0 ω).1.trans (by decide +kernel);have d1:D.getD 1 0=4:=(h.2.2 1 ω).1.trans (by decide +kernel);have d2:D.getD 2 0=1:=(h.2.2 2 ω).1.trans (by decide +kernel);have eD:D=[0,4,1]:=by rw [len3 YE,d0,d1,d2]
 have hP:=(Pz (N:=3) (s:=0) (E:=Zw) (D:=D) (B:=B) (by decide +kernel) ω (fun x hx=>by rw [eD] at hx;simp at hx;omega)).2 h;have b0:=hP.b0;have o1:=(hP.ok 1 ω).2 ⟨δ,by rw [d1];decide⟩;have o2:=(hP.ok 2 ω).2 ⟨δ,by rw [d2];decide⟩;rw [eD] at o1 o2;have hl:(Zw.length:Int)=3:=rfl;rw [hl] at o1 o2;have b1:B.getD 1 0=2:=by
  generalize B.getD 1 0=b at *;obtain ⟨x1,x2,x3,x4⟩:=o1;rcases (ω:b=0\/b=1\/b=2) with rfl|rfl|rfl
  ·revert x3;decide +kernel
  ·revert x4;decide +kernel
  ·rfl
 have b2:B.getD 2 0=1:=by
  generalize B.getD 2 0=b at *;obtain ⟨x1,x2,x3,x4⟩:=o2;rcases (ω:b=0\/b=1\/b=2) with rfl|rfl|rfl
  ·revert x4;decide +kernel
  ·rfl
  ·revert x4;decide +kernel
 exact ⟨eD,by rw [len3 hlB,b0,b1,b2]⟩
theorem sle3 {W:World} {g:Nat} {x y z x' y' z' x2 y2 z2:Int} (h0:W.cell? ⟨g,0,none⟩=some (.int .i64 x)) (h1:W.cell? ⟨g,1,none⟩=some (.int .i64 y)) (h2:W.cell? ⟨g,2,none⟩=some (.int .i64 z))
  (h3:W.cell? ⟨g,3,none⟩=some (.int .i64 x')) (h4:W.cell? ⟨g,4,none⟩=some (.int .i64 y')) (h5:W.cell? ⟨g,5,none⟩=some (.int .i64 z'))
  (h6:W.cell? ⟨g,6,none⟩=some (.int .i64 x2)) (h7:W.cell? ⟨g,7,none⟩=some (.int .i64 y2)) (h8:W.cell? ⟨g,8,none⟩=some (.int .i64 z2)):vB W (.slice (some ⟨g,0,none⟩) 3 3) [⟨x,y,z⟩,⟨x',y',z'⟩,⟨x2,y2,z2⟩]:=by
 refine ⟨some ⟨g,0,none⟩,3,rfl,ω,σ,fun j u hj=>⟨g,0,rfl,Ε W _ h0,?_⟩⟩
 match j,hj with
 | 0,hj=>simp at hj;subst hj;exact ⟨h0,h1,h2⟩
 | 1,hj=>simp at hj;subst hj;exact ⟨h3,h4,h5⟩
 | 2,hj=>simp at hj;subst hj;exact ⟨h6,h7,h8⟩
 | j+3,hj=>simp at hj
theorem sli3 {W:World} {g:Nat} {x y z:Int} (h0:W.cell? ⟨g,0,none⟩=some (.int .i64 x)) (h1:W.cell? ⟨g,1,none⟩=some (.int .i64 y)) (h2:W.cell? ⟨g,2,none⟩=some (.int .i64 z)):iC W [] (.slice (some ⟨g,0,none⟩) 3 3) [x,y,z]:=by
 refine ⟨some ⟨g,0,none⟩,3,rfl,σ,ω,fun j u hj=>⟨g,0,rfl,Ε W _ h0,σ,?_⟩⟩
 match j,hj with
 | 0,hj=>simp at hj;subst hj;exact h0
 | 1,hj=>simp at hj;subst hj;exact h1
 | 2,hj=>simp at hj;subst hj;exact h2
 | j+3,hj=>simp at hj
theorem Zo {W:World} {va:Value} (hE:vB W va Zw) :
  Calls Tryz.prog 29 #[.agg #[.int .i64 7,.int .i64 0],.agg #[.int .i64 3,va],.int .i64 0] W fun e w'=>∃gd od cd ab cb,e=.returned (.tuple #[.agg #[.slice (some ⟨gd,od,none⟩) 3 cd,.slice ab 3 cb],.int .i64 0])/\w'.cell? ⟨gd,od,none⟩=some (.int .i64 0)/\w'.cell? ⟨gd,od+1,none⟩=some (.int .i64 4)/\w'.cell? ⟨gd,od+2,none⟩=some (.int .i64 1)/\iC w' [] (.slice ab 3 cb) [-1,2,1]/\aa [] W w':=by
 refine (He (K:=wh) (kd:=7) (dd:=0) W 3 0 va Zw hE (by decide +kernel) ω (by decide +kernel) (Gt 3 ω)).mono ?_;rintro e w' ⟨vd,vb,D,B,rfl,hD,hB,hT,hu⟩;obtain ⟨rfl,rfl⟩:=Q3 hT;obtain ⟨a,c,rfl,h1,h2,h3⟩:=hD;obtain ⟨gd,od,rfl,_,_,c0⟩:=h3 0 0 rfl;obtain ⟨_,_,e1,_,_,c1⟩:=h3 1 4 rfl;obtain ⟨_,_,e2,_,_,c2⟩:=h3 2 1 rfl;cases e1;cases e2;have hB':=hB;obtain ⟨ab,cb,rfl,_,_,_⟩:=hB';exact ⟨gd,od,c,ab,cb,rfl,c0,c1,c2,hB,hu⟩
theorem xX (w:World):Calls Tryz.prog 27 #[] w fun r w'=>r=.returned (.bool true)/\aa [] w w':=by
 go_enter Tryz.func27,Tryz.ntmps27
 go_upto_region 3 with (first
  | ((go_at_call 29;(with_reducible refine (Zo (sle3 γ γ γ γ γ γ γ γ γ)).mono ?_));rintro e w1 ⟨gd,od,cd,ab,cb,rfl,c0,c1,c2,hB,hu1⟩;(have hw1:aa [] w w1:=aa.trans β hu1))
  | fail)
 have hgd:=Ε w1 _ c0;dsimp only at hgd;have hne:¬gd=w1.heap.size:=ω
 go_wp2_with (first
  | ((go_at_call 20;(with_reducible refine (Tk _ [] [] _ _ [-1,2,1] (hB.fresh β (fun g hg=>Α hg)) (sli3 γ γ γ)).mono ?_));rintro e w3 ⟨rfl,kk,rfl⟩)
  | fail)
 go_ret;exact ⟨rfl,β⟩
end Go.Proofs.YtklibcncmbofpaaGreat
