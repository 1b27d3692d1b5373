/-
  Lemmas for PqSorts: PqR. Conditions: those of each lemma.
-/
import Derived.Test.YtnpdakpagnpanaaGreatA03
set_option linter.all false
set_option maxHeartbeats 8000000
set_option maxRecDepth 10000
namespace Go.Proofs.YtnpdakpagnpanaaGreat
open Go Go.RowKit
theorem IA {A:NS} {a b:Int} (hj:fQ A a b=true) (y:Nat):bR (ah A a b) (y:Int)=bR A (y:Int):=by
 have h1:=(cO _ _ _).1 hj;have ha:=(aA _ _).1 h1.1;have hb:=(aA _ _).1 h1.2.1;have e:bR (ah A a b) (y:Int)=true↔bR A (y:Int)=true:=by
  rw [ay,ay,dA,uP hj]
  split
  ·rename_i h
   dsimp only;omega
  ·exact Iff.rfl
 cases h:bR A (y:Int) with
 | true=>exact e.2 h
 | false=>
  cases h2:bR (ah A a b) (y:Int) with
  | false=>rfl
  | true=>rw [e.1 h2] at h;cases h
section
variable {K:uC} {w:World} {p pa pn:Nat} {Fa Fn F:List Nat} {kd d:Int} {R:AR} {A:NS} {q:Nat}
theorem Av.XZ (h:Av K.toNestQ w p pa pn Fa Fn kd d R A q) {w':World} {A':NS} (hg:Goes Fn w w' (λF'=>K.at_ w' pn F' A')) (hl:A'.cs.length=A.cs.length) (hk:∀x:Nat,bR A' (x:Int)=bR A (x:Int)):Goes (p::(Fa++Fn)) w w' (λF'=>fA K.toNestQ w' p F' kd d R A' q):=by
 obtain ⟨F5,Yv,cB,RY⟩:=hg;refine ⟨p::(Fa++F5),⟨pa,pn,Fa,F5,rfl,h.Mt Yv cB RY hl (h.ar.upd cB (λz hz hm=>h.s3 z hm hz)) rfl (λy=>by rw [hk];exact h.link y)⟩,cB.mono (λz hz=>by simp [hz]),λz hz=>?_⟩;simp only [ρ,τ] at hz ⊢;rcases hz with hz|hz|hz
 ·exact Α (Α hz)
 ·exact Α (Β (Α hz))
 ·rcases RY z hz with e|e
  ·exact Α (Β (Β e))
  ·exact Β e
theorem J3 (h:fA K.toNestQ w p F kd d R A q) (a b:Nat) (hB:fQ A a b=true) :
  Calls Tryz.prog 20 #[.pointer (some ⟨p,0,none⟩),.int .i64 (a:Int),.int .i64 (b:Int)] w λe w'=>e=.returned (.int .i64 0)/\Goes F w w' (λF'=>fA K.toNestQ w' p F' kd d R (ah A a b) q):=by
 obtain ⟨pa,pn,Fa,Fn,rfl,hM⟩:=h;have c3:=hM.c3;have hJ:=(cO _ _ _).1 hB;obtain ⟨f,fv,hen,wP⟩:=K.has (a:Int) hM.nest;obtain ⟨f',fv',hen',Uz⟩:=K.has (b:Int) hM.nest;obtain ⟨f2,fv2,Nf,yI⟩:=K.xL a b hB hM.nest;unfold Enters at hen hen' Nf;have hm:=(wP w (aa.refl _ _)).1;have hc:=(wP w (aa.refl _ _)).2;have hm':=(Uz w (aa.refl _ _)).1;have hc':=(Uz w (aa.refl _ _)).2;have hm2:=(yI w (aa.refl _ _)).1;have hc2:=(yI w (aa.refl _ _)).2;rw [hJ.1] at hc;rw [hJ.2.1] at hc';have hab:((a:Int) == (b:Int))=false:=by have:=hJ.2.2;simpa using this
 have HG:=χ (λw' (hg:Goes Fn w w' (λF'=>K.at_ w' pn F' (ah A a b)))=>hM.XZ hg (dA _ _ _) (λx=>IA hB x));clear hM wP Uz yI hJ hB;obtain ⟨rfl,rfl⟩:f=f'/\fv=fv':=by have:=hm.symm.trans hm';simpa using this
 go_enter Tryz.func20,Tryz.ntmps20
 go_wp2_with (first
  | ((with_reducible refine (hc).mono ?_);rintro e w1 ⟨rfl,rfl⟩)
  | ((with_reducible refine (hc').mono ?_);rintro e w1 ⟨rfl,rfl⟩)
  | ((with_reducible refine (hc2).mono ?_);rintro e w1 ⟨rfl,hg⟩)
  | fail)
 go_ret;exact ⟨rfl,HG.out _ hg⟩
end
end Go.Proofs.YtnpdakpagnpanaaGreat
