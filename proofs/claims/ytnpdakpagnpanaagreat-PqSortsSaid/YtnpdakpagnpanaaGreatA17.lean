/-
  Lemmas for PqSorts: PqB. Conditions: those of each lemma.
-/
import Derived.Test.YtnpdakpagnpanaaGreatA16
set_option linter.all false
set_option maxHeartbeats 8000000
set_option maxRecDepth 10000
namespace Go.Proofs.YtnpdakpagnpanaaGreat
open Go Go.RowKit
def Ri:NS:=aI (NS.new 2)
def MB:NS:=aG Ri 1 0 5 1
def JM:NS:=aG MB 1 1 5 2
theorem Nn:bW (NS.new 2)=1/\bA Ri 1=true/\bA MB 1=true/\dM JM 1=some 0/\(JM.c 0).k=5/\∃R1 R2,qp (AR.new 2 9)=some (0,R1)/\qp R1=some (1,R2)/\(AR.new 2 9).g 0=0/\R1.g 1=0/\R2.g 0=1:=by
 refine ⟨by decide +kernel,by decide +kernel,by decide +kernel,by decide +kernel,by decide +kernel,_,_,rfl,rfl,by decide +kernel,by decide +kernel,by decide +kernel⟩
theorem CB (k:Nat) (h:1<=k/\k<=8):zx (k:Int) (if k=2 then 3 else 0)=0:=by
 have:k=1\/k=2\/k=3\/k=4\/k=5\/k=6\/k=7\/k=8:=ω;rcases this with rfl|rfl|rfl|rfl|rfl|rfl|rfl|rfl<;>decide
structure ExK (K:NestQ) (kd d:Int) (R1 R2:AR):Prop where
 o:∀W:World,Calls Tryz.prog 11 #[.agg #[.int .i64 kd,.int .i64 d],.int .i64 2,.int .u32 9] W λe w'=>∃p F,e=.returned (.tuple #[.pointer (some ⟨p,0,none⟩),.int .i64 0])/\fA K w' p F kd d (AR.new 2 9) (NS.new 2) 0/\aa [] W w'/\∀x,x∈F->W.heap.size<=x
 n:∀ (W:World) (p:Nat) (F:List Nat),fA K W p F kd d (AR.new 2 9) (NS.new 2) 0->Calls Tryz.prog 18 #[.pointer (some ⟨p,0,none⟩)] W λe w'=>e=.returned (.tuple #[.int .i64 1,.int .i64 0])/\Goes F W w' (λF'=>fA K w' p F' kd d (AR.new 2 9) Ri 0)
 i1:∀ (W:World) (p:Nat) (F:List Nat),fA K W p F kd d (AR.new 2 9) Ri 0->Calls Tryz.prog 17 #[.pointer (some ⟨p,0,none⟩),.int .i64 1,.int .i64 5] W λe w'=>e=.returned (.tuple #[.agg #[.int .i64 0,.int .u32 1],.int .i64 0])/\Goes F W w' (λF'=>fA K w' p F' kd d R1 MB 1)
 i2:∀ (W:World) (p:Nat) (F:List Nat),fA K W p F kd d R1 MB 1->Calls Tryz.prog 17 #[.pointer (some ⟨p,0,none⟩),.int .i64 1,.int .i64 5] W λe w'=>e=.returned (.tuple #[.agg #[.int .i64 1,.int .u32 1],.int .i64 0])/\Goes F W w' (λF'=>fA K w' p F' kd d R2 JM 2)
 m:∀ (W:World) (p:Nat) (F:List Nat),fA K W p F kd d R2 JM 2->Calls Tryz.prog 19 #[.pointer (some ⟨p,0,none⟩),.int .i64 1] W λe w'=>e=.returned (.tuple #[.agg #[.int .i64 0,.int .u32 1],.int .i64 5,.int .i64 0])/\Goes F W w' (λF'=>fA K w' p F' kd d R2 JM 2)
theorem Om {K:NestQ} (k:Nat) (d:Int) (h:1<=k/\k<=8) (hd:d=if k=2 then 3 else 0) (ko:nW K (k:Int) d 2):∃R1 R2,ExK K (k:Int) d R1 R2:=by
 obtain ⟨e1,e2,e3,e4,e5,R1,R2,e6,e7,e8,e9,e10⟩:=Nn;have hc:zx (k:Int) d=0:=by rw [hd];exact CB k h
 refine ⟨R1,R2,λW=>Aq 2 9 W ω ω hc ko,λW p F hP=>?_,λW p F hP=>?_,λW p F hP=>?_,λW p F hP=>?_⟩
 ·have h1:=tL hP;rw [e1] at h1;exact h1
 ·have h1:=qo hP 1 5 e2 ω ω e6;rw [e8] at h1;exact h1
 ·have h1:=qo hP 1 5 e3 ω ω e7;rw [e9] at h1;exact h1
 ·have h1:=AY hP 1 e4;rw [e10,e5] at h1;exact h1
theorem qx (w:World):Calls Tryz.prog 10 #[] w λe w'=>e=.returned (.bool true)/\aa [] w w':=by
 have HO:Hid (∀k:Nat,1<=k->k<=8->∃ (K:NestQ) (R1 R2:AR),ExK K (k:Int) (if k=2 then 3 else 0) R1 R2):=λk h1 h2=>by
  obtain ⟨K,ko⟩:=Km (k:Int) (if k=2 then 3 else 0) 2 (CB k ⟨h1,h2⟩) ω;obtain ⟨R1,R2,h⟩:=Om k _ ⟨h1,h2⟩ rfl ko;exact ⟨K,R1,R2,h⟩
 go_enter Tryz.func10,Tryz.ntmps10
 go_wp2
 go_loopw [1,2,3,4,5,6,7,8,9,10,11,12,13] (λv1 _ _ _ _ _ _ _ _ _ _ _ _ wr=>∃k:Nat,1<=k/\k<=9/\v1=.int .i64 (k:Int)/\aa [] w wr) (λv1 _ _ _ _ _ _ _ _ _ _ _ _ _=>9-(intOf v1).toNat)
 case atStart=>exact ⟨1,Θ _,ω,rfl,aa.refl _ _⟩
 case round=>
  obtain ⟨k,hk1,hk9,rfl,hu⟩:=hrel;rename World=>wr
  by_cases hk8:k<=8
  ·have XN:(k:Int)<=8:=ω;have hkD:decide ((k:Int)<=8)=true:=ζ;have hwk:IntKind.i64.wrap ((k:Int)+1)=(k:Int)+1:=Μ _ ω;obtain ⟨K,R1,R2,hX⟩:=HO.out k hk1 hk8;have HU:=χ hu;clear hu;obtain ⟨b,hX2,hk2⟩:∃b:Bool,ExK K (k:Int) (if b=true then 3 else 0) R1 R2/\((k:Int) == 2)=b:=by
    by_cases h2:k=2
    ·exact ⟨true,by rw [Δ h2] at hX;rw [Δ rfl];exact hX,by simp [h2]⟩
    ·exact ⟨false,by rw [Γ h2] at hX;rw [Γ σ];exact hX,ζ⟩
   clear hX;have hu:=HU.out;have hs0:=hu.size;cases b
   all_goals
    obtain ⟨kO,kN,kI1,Vb,kM⟩:=hX2;simp only [if_true,ϟ,if_false] at kO kN kI1 Vb kM
    go_upto_region 10 with (first|((go_at_call 11;(with_reducible refine (kO _).mono ?_));rintro e w1 ⟨p,F1,rfl,hP1,hu1,hf1⟩)|fail)
    have hw1:aa [] w w1:=aa.trans β hu1;have hl1:∀x,x∈F1->w.heap.size<=x:=λx hx=>by have:=hf1 x hx;simp at this;omega
    clear kO hu1 hf1
    go_upto_region 11 with (first|((go_at_call 18;(with_reducible refine (kN _ _ _ (hP1.ai β)).mono ?_));rintro e w2 ⟨rfl,F2,hP2,hu2,hf2⟩)|fail)
    have hw2:aa [] w w2:=hw1.joined hu2 (λx hx=>Β (hl1 x hx));have hs1:=hw1.size;have hl2:∀x,x∈F2->w.heap.size<=x:=λx hx=>by rcases hf2 x hx with e|e;exact hl1 x e;omega
    clear kN hP1 hu2 hf2
    go_upto_region 12 with (first|((go_at_call 17;(with_reducible refine (kI1 _ _ _ (hP2.ai β)).mono ?_));rintro e w3 ⟨rfl,F3,hP3,hu3,hf3⟩)|fail)
    have hw3:aa [] w w3:=hw2.joined hu3 (λx hx=>Β (hl2 x hx));have hs2:=hw2.size;have hl3:∀x,x∈F3->w.heap.size<=x:=λx hx=>by rcases hf3 x hx with e|e;exact hl2 x e;omega
    clear kI1 hP2 hu3 hf3;refine iR (λW=>fA K W p F3 _ _ R1 MB 1/\W.cell? ⟨w3.heap.size,0,none⟩=some (.int .i64 0)/\W.cell? ⟨w3.heap.size,1,none⟩=some (.int .u32 1)/\aa [] w W) ⟨hP3.ai β,γ,γ,hw3.trans β⟩ ?_;rintro W3 ⟨hQ3,x0,x1,hW3⟩;have hb3:w3.heap.size∉F3:=λe=>Nat.lt_irrefl _ (hP3.lt _ e);clear hP3 hw3;generalize w3.heap.size=b3 at *
    go_upto_region 13 with (first|((go_at_call 17;(with_reducible refine (Vb _ _ _ (hQ3.ai β)).mono ?_));rintro e w4 ⟨rfl,F4,TN,jJ,XG⟩)|fail)
    have hw4:aa [] w w4:=hW3.joined jJ (λx hx=>Β (hl3 x hx));have hs3:=hW3.size;have hl4:∀x,x∈F4->w.heap.size<=x:=λx hx=>by rcases XG x hx with e|e;exact hl3 x e;omega
    have Yd:b3∉F4:=λe=>by rcases XG _ e with e|e;exact hb3 e;have:=Ε _ _ x0;dsimp only at this;omega
    have y0:=jJ.kept x0 hb3;have y1:=jJ.kept x1 hb3;clear Vb hQ3 jJ XG x0 x1
    refine iR (λW=>fA K W p F4 _ _ R2 JM 2/\W.cell? ⟨b3,0,none⟩=some (.int .i64 0)/\W.cell? ⟨b3,1,none⟩=some (.int .u32 1)/\W.cell? ⟨w4.heap.size,0,none⟩=some (.int .i64 1)/\W.cell? ⟨w4.heap.size,1,none⟩=some (.int .u32 1)/\aa [] w W) ⟨TN.ai β,(show aa [] w4 _ by (repeat (first|assumption|exact aa.refl _ _|refine aa.alloc ?_ _|refine aa.drew ?_|refine aa.drewN ?_ _|refine aa.setCell ?_ ?_ _|focus (left;simp;done)|focus (right;simp;done)|focus (right;simp;omega)))).was y0,(show aa [] w4 _ by (repeat (first|assumption|exact aa.refl _ _|refine aa.alloc ?_ _|refine aa.drew ?_|refine aa.drewN ?_ _|refine aa.setCell ?_ ?_ _|focus (left;simp;done)|focus (right;simp;done)|focus (right;simp;omega)))).was y1,by go_simp,by go_simp,hw4.trans β⟩ ?_
    rintro W4 ⟨hQ4,x0,x1,z0,z1,NF⟩;have hb4:w4.heap.size∉F4:=λe=>Nat.lt_irrefl _ (TN.lt _ e);clear TN hw4 y0 y1;generalize w4.heap.size=b4 at *
    go_upto_region 14 with (first|((go_at_call 19;(with_reducible refine (kM _ _ _ (hQ4.ai β)).mono ?_));rintro e w5 ⟨rfl,F5,L9,cB,hf5⟩)|fail)
    have QH:aa [] w w5:=NF.joined cB (λx hx=>Β (hl4 x hx));have y0:=cB.kept x0 Yd;have y1:=cB.kept x1 Yd;have t0:=cB.kept z0 hb4;have t1:=cB.kept z1 hb4;clear kM hQ4 cB hf5 x0 x1 z0 z1 L9
    refine iR (λW=>W.cell? ⟨b3,0,none⟩=some (.int .i64 0)/\W.cell? ⟨b3,1,none⟩=some (.int .u32 1)/\W.cell? ⟨b4,0,none⟩=some (.int .i64 1)/\W.cell? ⟨b4,1,none⟩=some (.int .u32 1)/\W.cell? ⟨w5.heap.size,0,none⟩=some (.int .i64 0)/\W.cell? ⟨w5.heap.size,1,none⟩=some (.int .u32 1)/\aa [] w W) ⟨(show aa [] w5 _ by (repeat (first|assumption|exact aa.refl _ _|refine aa.alloc ?_ _|refine aa.drew ?_|refine aa.drewN ?_ _|refine aa.setCell ?_ ?_ _|focus (left;simp;done)|focus (right;simp;done)|focus (right;simp;omega)))).was y0,(show aa [] w5 _ by (repeat (first|assumption|exact aa.refl _ _|refine aa.alloc ?_ _|refine aa.drew ?_|refine aa.drewN ?_ _|refine aa.setCell ?_ ?_ _|focus (left;simp;done)|focus (right;simp;done)|focus (right;simp;omega)))).was y1,(show aa [] w5 _ by (repeat (first|assumption|exact aa.refl _ _|refine aa.alloc ?_ _|refine aa.drew ?_|refine aa.drewN ?_ _|refine aa.setCell ?_ ?_ _|focus (left;simp;done)|focus (right;simp;done)|focus (right;simp;omega)))).was t0,(show aa [] w5 _ by (repeat (first|assumption|exact aa.refl _ _|refine aa.alloc ?_ _|refine aa.drew ?_|refine aa.drewN ?_ _|refine aa.setCell ?_ ?_ _|focus (left;simp;done)|focus (right;simp;done)|focus (right;simp;omega)))).was t1,by go_simp,by go_simp,QH.trans β⟩ ?_
    rintro W5 ⟨x0,x1,z0,z1,m0,m1,LG⟩;clear QH y0 y1 t0 t1;generalize w5.heap.size=b5 at *;go_wp2
    go_roundw
    case rel=>exact ⟨k+1,ω,ω,by go_num,LG⟩
    case measure=>simp [intOf];omega
  ·obtain rfl:k=9:=ω;have XN:¬ ((9:Nat):Int)<=8:=ω;have hkD:decide (((9:Nat):Int)<=8)=false:=σ;go_wp2;go_ret;exact ⟨rfl,hu⟩
end Go.Proofs.YtnpdakpagnpanaaGreat
