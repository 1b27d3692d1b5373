/-
  Lemmas.
-/
import Derived.Test.YtnpdakpagnpanaaGreatE21
set_option linter.all false
set_option maxHeartbeats 8000000
set_option maxRecDepth 10000
namespace Go.Proofs.YtnpdakpagnpanaaGreat
open Tryz
open Go Go.RowKit
def ZB:NS:=aO (NS.new 2)
def Vp:NS:=aN ZB 1 0 5 1
def QH:NS:=aN Vp 1 1 5 2
def TW:dF (NS.new 2)=1/\aW ZB 1=true/\aW Vp 1=true/\dB QH 1=some 0/\(QH.c 0).k=5/\∃a b,jF (AR.new 2 9)=some (0,a)/\jF a=some (1,b)/\(AR.new 2 9).g 0=0/\a.g 1=0/\b.g 0=1:=by
 refine⟨by decide +kernel,by decide +kernel,by decide +kernel,by decide +kernel,by decide +kernel,_,_,rfl,rfl,by decide +kernel,by decide +kernel,by decide +kernel⟩
def IY(k:Nat)(h:1<=k/\k<=8):xe (k:Int) (if k=2 then 3 else 0)=0:=by
 have:k=1\/k=2\/k=3\/k=4\/k=5\/k=6\/k=7\/k=8:=ω;rcases this with rfl|rfl|rfl|rfl|rfl|rfl|rfl|rfl<;>decide
structure ExK(K:NestQ)(kd d:Int)(R1 R2:AR):Prop where
 o:∀W:World,Calls prog 11 #[.agg #[.int .i64 kd,.int .i64 d],.int .i64 2,.int .u32 9] W λe w'=>∃p F,e=.returned (.tuple #[.pointer (some ⟨p,0,none⟩),.int .i64 0])/\bR K w' p F kd d (AR.new 2 9) (NS.new 2) 0/\ae [] W w'/\∀x,x∈F->W.heap.size<=x
 n:∀(W:World) (p:Nat) (F:List Nat),bR K W p F kd d (AR.new 2 9) (NS.new 2) 0->Calls prog 18 #[.pointer (some ⟨p,0,none⟩)] W λe w'=>e=.returned (.tuple #[.int .i64 1,.int .i64 0])/\Goes F W w' (λF'=>bR K w' p F' kd d (AR.new 2 9) ZB 0)
 i1:∀(W:World) (p:Nat) (F:List Nat),bR K W p F kd d (AR.new 2 9) ZB 0->Calls prog 17 #[.pointer (some ⟨p,0,none⟩),.int .i64 1,.int .i64 5] W λe w'=>e=.returned (.tuple #[.agg #[.int .i64 0,.int .u32 1],.int .i64 0])/\Goes F W w' (λF'=>bR K w' p F' kd d R1 Vp 1)
 i2:∀(W:World) (p:Nat) (F:List Nat),bR K W p F kd d R1 Vp 1->Calls prog 17 #[.pointer (some ⟨p,0,none⟩),.int .i64 1,.int .i64 5] W λe w'=>e=.returned (.tuple #[.agg #[.int .i64 1,.int .u32 1],.int .i64 0])/\Goes F W w' (λF'=>bR K w' p F' kd d R2 QH 2)
 m:∀(W:World) (p:Nat) (F:List Nat),bR K W p F kd d R2 QH 2->Calls prog 19 #[.pointer (some ⟨p,0,none⟩),.int .i64 1] W λe w'=>e=.returned (.tuple #[.agg #[.int .i64 0,.int .u32 1],.int .i64 5,.int .i64 0])/\Goes F W w' (λF'=>bR K w' p F' kd d R2 QH 2)
def UN{K:NestQ}(k:Nat)(d:Int)(h:1<=k/\k<=8)(hd:d=if k=2 then 3 else 0)(ko:qG K (k:Int) d 2):∃R1 R2,ExK K (k:Int) d R1 R2:=by
 obtain⟨e1,e2,e3,e4,e5,R1,R2,e6,e7,e8,e9,e10⟩:=TW;have hc:xe (k:Int) d=0:=by rw[hd];exact IY k h
 refine⟨R1,R2,λW=>EP 2 9 W ω ω hc ko,λW p F hP=>?_,λW p F hP=>?_,λW p F hP=>?_,λW p F hP=>?_⟩
 .have h1:=yC hP;rw[e1] at h1;exact h1
 .have h1:=uO hP 1 5 e2 ω ω e6;rw[e8] at h1;exact h1
 .have h1:=uO hP 1 5 e3 ω ω e7;rw[e9] at h1;exact h1
 .have h1:=zU hP 1 e4
  grind
def Af(w:World):Calls prog 10 #[] w λe w'=>e=.returned true/\ae [] w w':=by
 have HO:Hid (∀k:Nat,1<=k->k<=8->∃(K:NestQ) (R1 R2:AR),ExK K (k:Int) (if k=2 then 3 else 0) R1 R2):=λk h1 h2=>by
  obtain⟨K,ko⟩:=Qp (k:Int) (if k=2 then 3 else 0) 2 (IY k ⟨h1,h2⟩) ω;obtain⟨R1,R2,h⟩:=UN k _ ⟨h1,h2⟩ rfl ko;exact⟨K,R1,R2,h⟩
 go_enter func10,ntmps10
 go_wp2
 go_loopw [1,2,3,4,5,6,7,8,9,10,11,12,13] (λv1 _ _ _ _ _ _ _ _ _ _ _ _ wr=>∃k:Nat,1<=k/\k<=9/\v1=.int .i64 (k:Int)/\ae [] w wr) (λv1 _ _ _ _ _ _ _ _ _ _ _ _ _=>9-(intOf v1).toNat)
 case atStart=>exact⟨1,Θ _,ω,rfl,ae.refl _ _⟩
 case round=>
  obtain⟨k,hk1,hk9,rfl,hu⟩:=hrel;rename World=>wr
  by_cases hk8:k<=8
  .have hkI:(k:Int)<=8:=ω;have hwk:IntKind.i64.wrap ((k:Int)+1)=(k:Int)+1:=Μ _ ω;obtain⟨K,R1,R2,hX⟩:=HO.out k hk1 hk8;have HU:=χ hu;clear hu;obtain⟨b,hX2,hk2⟩:∃b:Bool,ExK K (k:Int) (if b=true then 3 else 0) R1 R2/\((k:Int) == 2)=b:=by
    by_cases h2:k=2
    .exact⟨true,by rw[Δ h2] at hX;rw[Δ rfl];exact hX,by simp[h2]⟩
    .exact⟨false,by rw[Γ h2] at hX;rw[Γ σ];exact hX,ζ⟩
   clear hX;have hu:=HU.out;have hs0:=hu.size;cases b
   all_goals
    obtain⟨kO,kN,kI1,kI2,kM⟩:=hX2;simp only[if_true,Ϟ,if_false] at kO kN kI1 kI2 kM
    go_upto_region 10 with(first|(((with_reducible refine(kO _).mono ?_));rintro e w1 ⟨p,F1,rfl,hP1,hu1,hf1⟩)|fail)
    have hw1:ae [] w w1:=ae.trans β hu1;have hl1:∀x,x∈F1->w.heap.size<=x:=λx hx=>by have:=hf1 x hx;simp at this;omega
    clear kO hu1 hf1
    go_upto_region 11 with(first|(((with_reducible refine(kN _ _ _ (hP1.ag β)).mono ?_));rintro e w2 ⟨rfl,F2,hP2,hu2,hf2⟩)|fail)
    have hw2:ae [] w w2:=hw1.joined hu2 (λx hx=>Β (hl1 x hx));have hs1:=hw1.size;have hl2:∀x,x∈F2->w.heap.size<=x:=λx hx=>by rcases hf2 x hx with e|e;exact hl1 x e;omega
    clear kN hP1 hu2 hf2
    go_upto_region 12 with(first|(((with_reducible refine(kI1 _ _ _ (hP2.ag β)).mono ?_));rintro e w3 ⟨rfl,F3,hP3,hu3,hf3⟩)|fail)
    have hw3:ae [] w w3:=hw2.joined hu3 (λx hx=>Β (hl2 x hx));have hs2:=hw2.size;have hl3:∀x,x∈F3->w.heap.size<=x:=λx hx=>by rcases hf3 x hx with e|e;exact hl2 x e;omega
    clear kI1 hP2 hu3 hf3;refine aU (λW=>bR K W p F3 _ _ R1 Vp 1/\W.cell? w3.heap.size=some (.int .i64 0)/\W.cell? ⟨w3.heap.size,1,none⟩=some (.int .u32 1)/\ae [] w W) ⟨hP3.ag β,γ,γ,hw3.trans β⟩ ?_;rintro W3 ⟨hQ3,x0,x1,hW3⟩;have hb3:w3.heap.size∉F3:=λe=>Nat.lt_irrefl _ (hP3.lt _ e);clear hP3 hw3;generalize w3.heap.size=b3 at *
    go_upto_region 13 with(first|(((with_reducible refine(kI2 _ _ _ (hQ3.ag β)).mono ?_));rintro e w4 ⟨rfl,F4,hP4,iK,hf4⟩)|fail)
    have hw4:ae [] w w4:=hW3.joined iK (λx hx=>Β (hl3 x hx));have hs3:=hW3.size;have hl4:∀x,x∈F4->w.heap.size<=x:=λx hx=>by rcases hf4 x hx with e|e;exact hl3 x e;omega
    have hb34:b3∉F4:=λe=>by rcases hf4 _ e with e|e;exact hb3 e;have:=Ε _ _ x0;dsimp only at this;omega
    have y0:=iK.kept x0 hb3;have y1:=iK.kept x1 hb3;clear kI2 hQ3 iK hf4 x0 x1
    refine aU (λW=>bR K W p F4 _ _ R2 QH 2/\W.cell? (b3:Nat)=some (.int .i64 0)/\W.cell? ⟨b3,1,none⟩=some (.int .u32 1)/\W.cell? w4.heap.size=some (.int .i64 1)/\W.cell? ⟨w4.heap.size,1,none⟩=some (.int .u32 1)/\ae [] w W) ⟨hP4.ag β,(show ae [] w4 _ by(repeat(first|assumption|exact ae.refl _ _|refine ae.alloc ?_ _|refine ae.drew ?_|refine ae.drewN ?_ _|refine ae.setCell ?_ ?_ _|focus(left;simp;done)|focus(right;simp;done)|focus(right;simp;omega)))).was y0,(show ae [] w4 _ by(repeat(first|assumption|exact ae.refl _ _|refine ae.alloc ?_ _|refine ae.drew ?_|refine ae.drewN ?_ _|refine ae.setCell ?_ ?_ _|focus(left;simp;done)|focus(right;simp;done)|focus(right;simp;omega)))).was y1,by go_simp,by go_simp,hw4.trans β⟩ ?_
    rintro W4 ⟨hQ4,x0,x1,z0,z1,Qa⟩;have hb4:w4.heap.size∉F4:=λe=>Nat.lt_irrefl _ (hP4.lt _ e);clear hP4 hw4 y0 y1;generalize w4.heap.size=b4 at *
    go_upto_region 14 with(first|(((with_reducible refine(kM _ _ _ (hQ4.ag β)).mono ?_));rintro e w5 ⟨rfl,F5,NV,dD,hf5⟩)|fail)
    have YT:ae [] w w5:=Qa.joined dD (λx hx=>Β (hl4 x hx));have y0:=dD.kept x0 hb34;have y1:=dD.kept x1 hb34;have t0:=dD.kept z0 hb4;have t1:=dD.kept z1 hb4;clear kM hQ4 dD hf5 x0 x1 z0 z1 NV
    refine aU (λW=>W.cell? (b3:Nat)=some (.int .i64 0)/\W.cell? ⟨b3,1,none⟩=some (.int .u32 1)/\W.cell? (b4:Nat)=some (.int .i64 1)/\W.cell? ⟨b4,1,none⟩=some (.int .u32 1)/\W.cell? w5.heap.size=some (.int .i64 0)/\W.cell? ⟨w5.heap.size,1,none⟩=some (.int .u32 1)/\ae [] w W) ⟨(show ae [] w5 _ by(repeat(first|assumption|exact ae.refl _ _|refine ae.alloc ?_ _|refine ae.drew ?_|refine ae.drewN ?_ _|refine ae.setCell ?_ ?_ _|focus(left;simp;done)|focus(right;simp;done)|focus(right;simp;omega)))).was y0,(show ae [] w5 _ by(repeat(first|assumption|exact ae.refl _ _|refine ae.alloc ?_ _|refine ae.drew ?_|refine ae.drewN ?_ _|refine ae.setCell ?_ ?_ _|focus(left;simp;done)|focus(right;simp;done)|focus(right;simp;omega)))).was y1,(show ae [] w5 _ by(repeat(first|assumption|exact ae.refl _ _|refine ae.alloc ?_ _|refine ae.drew ?_|refine ae.drewN ?_ _|refine ae.setCell ?_ ?_ _|focus(left;simp;done)|focus(right;simp;done)|focus(right;simp;omega)))).was t0,(show ae [] w5 _ by(repeat(first|assumption|exact ae.refl _ _|refine ae.alloc ?_ _|refine ae.drew ?_|refine ae.drewN ?_ _|refine ae.setCell ?_ ?_ _|focus(left;simp;done)|focus(right;simp;done)|focus(right;simp;omega)))).was t1,by go_simp,by go_simp,YT.trans β⟩ ?_
    rintro W5 ⟨x0,x1,z0,z1,m0,m1,SV⟩;clear YT y0 y1 t0 t1;generalize w5.heap.size=b5 at *;go_wp2
    go_roundw
    case rel=>exact⟨k+1,ω,ω,by go_num,SV⟩
    case measure=>simp[intOf];omega
  .obtain rfl:k=9:=ω;have hkI:¬((9:Nat):Int)<=8:=ω;go_wp2;go_ret;exact⟨rfl,hu⟩
