/-
  Lemmas for PqOpens: PqB, PqE, PqL. Conditions: those of each lemma.
-/
import Derived.Test.YtnpdakpagnpanaaGreatD11
set_option linter.all false
set_option maxHeartbeats 8000000
set_option maxRecDepth 10000
namespace Go.Proofs.YtnpdakpagnpanaaGreat
open Go Go.RowKit
def Co:NS:=ag (NS.new 2)
def yZ:NS:=af Co 1 0 5 1
def xD:NS:=af yZ 1 1 5 2
theorem Ah:aT (NS.new 2)=1/\aR Co 1=true/\aR yZ 1=true/\bQ xD 1=some 0/\(xD.c 0).k=5/\∃R1 R2,iH (AR.new 2 9)=some (0,R1)/\iH R1=some (1,R2)/\(AR.new 2 9).g 0=0/\R1.g 1=0/\R2.g 0=1:=by
 refine ⟨by decide +kernel,by decide +kernel,by decide +kernel,by decide +kernel,by decide +kernel,_,_,rfl,rfl,by decide +kernel,by decide +kernel,by decide +kernel⟩
theorem tO (k:Nat) (h:1<=k/\k<=8):jE (k:Int) (if k=2 then 3 else 0)=0:=by
 have:k=1\/k=2\/k=3\/k=4\/k=5\/k=6\/k=7\/k=8:=ω;rcases this with rfl|rfl|rfl|rfl|rfl|rfl|rfl|rfl<;>decide
structure JQ (K:bV) (kd d:Int) (R1 R2:AR):Prop where
 o:∀W:World,Calls Tryz.prog 11 #[.agg #[.int .i64 kd,.int .i64 d],.int .i64 2,.int .u32 9] W λe w'=>∃p F,e=.returned (.tuple #[.pointer (some ⟨p,0,none⟩),.int .i64 0])/\bA K w' p F kd d (AR.new 2 9) (NS.new 2) 0/\aa [] W w'/\∀x,x∈F->W.heap.size<=x
 n:∀ (W:World) (p:Nat) (F:List Nat),bA K W p F kd d (AR.new 2 9) (NS.new 2) 0->Calls Tryz.prog 18 #[.pointer (some ⟨p,0,none⟩)] W λe w'=>e=.returned (.tuple #[.int .i64 1,.int .i64 0])/\Goes F W w' (λF'=>bA K w' p F' kd d (AR.new 2 9) Co 0)
 i1:∀ (W:World) (p:Nat) (F:List Nat),bA K W p F kd d (AR.new 2 9) Co 0->Calls Tryz.prog 17 #[.pointer (some ⟨p,0,none⟩),.int .i64 1,.int .i64 5] W λe w'=>e=.returned (.tuple #[.agg #[.int .i64 0,.int .u32 1],.int .i64 0])/\Goes F W w' (λF'=>bA K w' p F' kd d R1 yZ 1)
 i2:∀ (W:World) (p:Nat) (F:List Nat),bA K W p F kd d R1 yZ 1->Calls Tryz.prog 17 #[.pointer (some ⟨p,0,none⟩),.int .i64 1,.int .i64 5] W λe w'=>e=.returned (.tuple #[.agg #[.int .i64 1,.int .u32 1],.int .i64 0])/\Goes F W w' (λF'=>bA K w' p F' kd d R2 xD 2)
 m:∀ (W:World) (p:Nat) (F:List Nat),bA K W p F kd d R2 xD 2->Calls Tryz.prog 19 #[.pointer (some ⟨p,0,none⟩),.int .i64 1] W λe w'=>e=.returned (.tuple #[.agg #[.int .i64 0,.int .u32 1],.int .i64 5,.int .i64 0])/\Goes F W w' (λF'=>bA K w' p F' kd d R2 xD 2)
theorem zk {K:bV} (k:Nat) (d:Int) (h:1<=k/\k<=8) (hd:d=if k=2 then 3 else 0) (ko:fP K (k:Int) d 2):∃R1 R2,JQ K (k:Int) d R1 R2:=by
 obtain ⟨e1,e2,e3,e4,e5,R1,R2,e6,e7,e8,e9,e10⟩:=Ah;have hc:jE (k:Int) d=0:=by rw [hd];exact tO k h
 refine ⟨R1,R2,λW=>o5 2 9 W ω ω hc ko,λW p F hP=>?_,λW p F hP=>?_,λW p F hP=>?_,λW p F hP=>?_⟩
 ·have h1:=jR hP;rw [e1] at h1;exact h1
 ·have h1:=lT hP 1 5 e2 ω ω e6;rw [e8] at h1;exact h1
 ·have h1:=lT hP 1 5 e3 ω ω e7;rw [e9] at h1;exact h1
 ·have h1:=yx hP 1 e4;rw [e10,e5] at h1;exact h1
theorem gG (w:World):Calls Tryz.prog 10 #[] w λe w'=>e=.returned (.bool true)/\aa [] w w':=by
 have HO:Hid (∀k:Nat,1<=k->k<=8->∃ (K:bV) (R1 R2:AR),JQ K (k:Int) (if k=2 then 3 else 0) R1 R2):=λk h1 h2=>by
  obtain ⟨K,ko⟩:=oW (k:Int) (if k=2 then 3 else 0) 2 (tO k ⟨h1,h2⟩) ω;obtain ⟨R1,R2,h⟩:=zk k _ ⟨h1,h2⟩ rfl ko;exact ⟨K,R1,R2,h⟩
 go_enter Tryz.func10,Tryz.ntmps10
 go_wp2
 go_loopw [1,2,3,4,5,6,7,8,9,10,11,12,13] (λv1 _ _ _ _ _ _ _ _ _ _ _ _ wr=>∃k:Nat,1<=k/\k<=9/\v1=.int .i64 (k:Int)/\aa [] w wr) (λv1 _ _ _ _ _ _ _ _ _ _ _ _ _=>9-(intOf v1).toNat)
 case atStart=>exact ⟨1,Θ _,ω,rfl,aa.refl _ _⟩
 case round=>
  obtain ⟨k,hk1,hk9,rfl,hu⟩:=hrel;rename World=>wr
  by_cases hk8:k<=8
  ·have Gl:(k:Int)<=8:=ω;have hkD:decide ((k:Int)<=8)=true:=ζ;have hwk:IntKind.i64.wrap ((k:Int)+1)=(k:Int)+1:=Μ _ ω;obtain ⟨K,R1,R2,hX⟩:=HO.out k hk1 hk8;have HU:=χ hu;clear hu;obtain ⟨b,hX2,hk2⟩:∃b:Bool,JQ K (k:Int) (if b=true then 3 else 0) R1 R2/\((k:Int) == 2)=b:=by
    by_cases h2:k=2
    ·exact ⟨true,by rw [Δ h2] at hX;rw [Δ rfl];exact hX,by simp [h2]⟩
    ·exact ⟨false,by rw [Γ h2] at hX;rw [Γ σ];exact hX,ζ⟩
   clear hX;have hu:=HU.out;have hs0:=hu.size;cases b
   all_goals
    obtain ⟨kO,kN,Gn,Iu,kM⟩:=hX2;simp only [if_true,ϗ,if_false] at kO kN Gn Iu kM
    go_upto_region 10 with (first|((go_at_call 11;(with_reducible refine (kO _).mono ?_));rintro e w1 ⟨p,F1,rfl,hP1,hu1,hf1⟩)|fail)
    have hw1:aa [] w w1:=aa.trans β hu1;have hl1:∀x,x∈F1->w.heap.size<=x:=λx hx=>by have:=hf1 x hx;simp at this;omega
    clear kO hu1 hf1
    go_upto_region 11 with (first|((go_at_call 18;(with_reducible refine (kN _ _ _ (hP1.ah β)).mono ?_));rintro e w2 ⟨rfl,F2,hP2,hu2,hf2⟩)|fail)
    have hw2:aa [] w w2:=hw1.joined hu2 (λx hx=>Β (hl1 x hx));have hs1:=hw1.size;have hl2:∀x,x∈F2->w.heap.size<=x:=λx hx=>by rcases hf2 x hx with e|e;exact hl1 x e;omega
    clear kN hP1 hu2 hf2
    go_upto_region 12 with (first|((go_at_call 17;(with_reducible refine (Gn _ _ _ (hP2.ah β)).mono ?_));rintro e w3 ⟨rfl,F3,hP3,hu3,hf3⟩)|fail)
    have hw3:aa [] w w3:=hw2.joined hu3 (λx hx=>Β (hl2 x hx));have hs2:=hw2.size;have hl3:∀x,x∈F3->w.heap.size<=x:=λx hx=>by rcases hf3 x hx with e|e;exact hl2 x e;omega
    clear Gn hP2 hu3 hf3;refine dW (λW=>bA K W p F3 _ _ R1 yZ 1/\W.cell? ⟨w3.heap.size,0,none⟩=some (.int .i64 0)/\W.cell? ⟨w3.heap.size,1,none⟩=some (.int .u32 1)/\aa [] w W) ⟨hP3.ah β,γ,γ,hw3.trans β⟩ ?_;rintro W3 ⟨hQ3,x0,x1,hW3⟩;have hb3:w3.heap.size∉F3:=λe=>Nat.lt_irrefl _ (hP3.lt _ e);clear hP3 hw3;generalize w3.heap.size=b3 at *
    go_upto_region 13 with (first|((go_at_call 17;(with_reducible refine (Iu _ _ _ (hQ3.ah β)).mono ?_));rintro e w4 ⟨rfl,F4,yG,lC,H9⟩)|fail)
    have hw4:aa [] w w4:=hW3.joined lC (λx hx=>Β (hl3 x hx));have hs3:=hW3.size;have hl4:∀x,x∈F4->w.heap.size<=x:=λx hx=>by rcases H9 x hx with e|e;exact hl3 x e;omega
    have Hl:b3∉F4:=λe=>by rcases H9 _ e with e|e;exact hb3 e;have:=Ε _ _ x0;dsimp only at this;omega
    have y0:=lC.kept x0 hb3;have y1:=lC.kept x1 hb3;clear Iu hQ3 lC H9 x0 x1
    refine dW (λW=>bA K W p F4 _ _ R2 xD 2/\W.cell? ⟨b3,0,none⟩=some (.int .i64 0)/\W.cell? ⟨b3,1,none⟩=some (.int .u32 1)/\W.cell? ⟨w4.heap.size,0,none⟩=some (.int .i64 1)/\W.cell? ⟨w4.heap.size,1,none⟩=some (.int .u32 1)/\aa [] w W) ⟨yG.ah β,(show aa [] w4 _ by (repeat (first|assumption|exact aa.refl _ _|refine aa.alloc ?_ _|refine aa.drew ?_|refine aa.drewN ?_ _|refine aa.setCell ?_ ?_ _|focus (left;simp;done)|focus (right;simp;done)|focus (right;simp;omega)))).was y0,(show aa [] w4 _ by (repeat (first|assumption|exact aa.refl _ _|refine aa.alloc ?_ _|refine aa.drew ?_|refine aa.drewN ?_ _|refine aa.setCell ?_ ?_ _|focus (left;simp;done)|focus (right;simp;done)|focus (right;simp;omega)))).was y1,by go_simp,by go_simp,hw4.trans β⟩ ?_
    rintro W4 ⟨hQ4,x0,x1,z0,z1,wS⟩;have hb4:w4.heap.size∉F4:=λe=>Nat.lt_irrefl _ (yG.lt _ e);clear yG hw4 y0 y1;generalize w4.heap.size=b4 at *
    go_upto_region 14 with (first|((go_at_call 19;(with_reducible refine (kM _ _ _ (hQ4.ah β)).mono ?_));rintro e w5 ⟨rfl,F5,Gt,dV,hf5⟩)|fail)
    have GU:aa [] w w5:=wS.joined dV (λx hx=>Β (hl4 x hx));have y0:=dV.kept x0 Hl;have y1:=dV.kept x1 Hl;have t0:=dV.kept z0 hb4;have t1:=dV.kept z1 hb4;clear kM hQ4 dV hf5 x0 x1 z0 z1 Gt
    refine dW (λW=>W.cell? ⟨b3,0,none⟩=some (.int .i64 0)/\W.cell? ⟨b3,1,none⟩=some (.int .u32 1)/\W.cell? ⟨b4,0,none⟩=some (.int .i64 1)/\W.cell? ⟨b4,1,none⟩=some (.int .u32 1)/\W.cell? ⟨w5.heap.size,0,none⟩=some (.int .i64 0)/\W.cell? ⟨w5.heap.size,1,none⟩=some (.int .u32 1)/\aa [] w W) ⟨(show aa [] w5 _ by (repeat (first|assumption|exact aa.refl _ _|refine aa.alloc ?_ _|refine aa.drew ?_|refine aa.drewN ?_ _|refine aa.setCell ?_ ?_ _|focus (left;simp;done)|focus (right;simp;done)|focus (right;simp;omega)))).was y0,(show aa [] w5 _ by (repeat (first|assumption|exact aa.refl _ _|refine aa.alloc ?_ _|refine aa.drew ?_|refine aa.drewN ?_ _|refine aa.setCell ?_ ?_ _|focus (left;simp;done)|focus (right;simp;done)|focus (right;simp;omega)))).was y1,(show aa [] w5 _ by (repeat (first|assumption|exact aa.refl _ _|refine aa.alloc ?_ _|refine aa.drew ?_|refine aa.drewN ?_ _|refine aa.setCell ?_ ?_ _|focus (left;simp;done)|focus (right;simp;done)|focus (right;simp;omega)))).was t0,(show aa [] w5 _ by (repeat (first|assumption|exact aa.refl _ _|refine aa.alloc ?_ _|refine aa.drew ?_|refine aa.drewN ?_ _|refine aa.setCell ?_ ?_ _|focus (left;simp;done)|focus (right;simp;done)|focus (right;simp;omega)))).was t1,by go_simp,by go_simp,GU.trans β⟩ ?_
    rintro W5 ⟨x0,x1,z0,z1,m0,m1,hW5⟩;clear GU y0 y1 t0 t1;generalize w5.heap.size=b5 at *;go_wp2
    go_roundw
    case rel=>exact ⟨k+1,ω,ω,by go_num,hW5⟩
    case measure=>simp [intOf];omega
  ·obtain rfl:k=9:=ω;have Gl:¬ ((9:Nat):Int)<=8:=ω;have hkD:decide (((9:Nat):Int)<=8)=false:=σ;go_wp2;go_ret;exact ⟨rfl,hu⟩
def dw (kd d n m:Int):Int:=if jE kd d≠0 then jE kd d else if n<0\/65536<n\/m=0 then 31 else 0
theorem xx (kd d n m:Int) (w:World) (hm:0<=m/\m<=4294967295) (hE:dw kd d n m≠0) :
  Calls Tryz.prog 11 #[.agg #[.int .i64 kd,.int .i64 d],.int .i64 n,.int .u32 m] w λe w'=>e=.returned (.tuple #[.pointer none,.int .i64 (dw kd d n m)])/\aa [] w w':=by
 have kc:=λW=>jq kd d W
 by_cases hc:jE kd d=0
 ·have hb:n<0\/65536<n\/m=0:=by
   unfold dw at hE;rw [Γ (by simp [hc])] at hE
   by_cases h:n<0\/65536<n\/m=0
   ·exact h
   ·rw [Γ h] at hE;exact absurd rfl hE
  have e:dw kd d n m=31:=by unfold dw;rw [Γ (by simp [hc]),Δ hb]
  rw [e];rw [hc] at kc;have ka:=λW=>zQ n m W hb hm;clear hE e hb hc
  go_enter Tryz.func11,Tryz.ntmps11
  go_wp2_with (first
   | ((go_at_call 33;(with_reducible refine (kc _).mono ?_));rintro e w1 ⟨rfl,hu1⟩;(have q0:w1.cell? ⟨w.heap.size,0,none⟩=some (.int .i64 kd):=hu1.was γ);(have q1:w1.cell? ⟨w.heap.size,1,none⟩=some (.int .i64 d):=hu1.was γ);(have hw1:aa [] w w1:=aa.trans β hu1))
   | ((go_at_call 34;(with_reducible refine (ka _).mono ?_));rintro e w2 ⟨rfl,rfl⟩)
   | fail)
  go_ret2;exact ⟨rfl,ν⟩
 ·have e:dw kd d n m=jE kd d:=by unfold dw;rw [Δ hc]
  rw [e];have hcb:(jE kd d != 0)=true:=by simpa using hc
  clear hE e hc;generalize jE kd d=v at *
  go_enter Tryz.func11,Tryz.ntmps11
  go_wp2_with (first
   | ((go_at_call 33;(with_reducible refine (kc _).mono ?_));rintro e w1 ⟨rfl,hu1⟩;(have q0:w1.cell? ⟨w.heap.size,0,none⟩=some (.int .i64 kd):=hu1.was γ);(have q1:w1.cell? ⟨w.heap.size,1,none⟩=some (.int .i64 d):=hu1.was γ);(have hw1:aa [] w w1:=aa.trans β hu1))
   | fail)
  go_ret2;exact ⟨rfl,hw1⟩
theorem Bp (n m:Int) (w:World) (h:n<0\/65536<n\/m=0) (hm:0<=m/\m<=4294967295) :
  Calls Tryz.prog 36 #[.int .i64 n,.int .u32 m] w λe w'=>e=.returned (.tuple #[.agg #[.int .i64 0,.int .u32 0,.slice none 0 0,.slice none 0 0],.int .i64 31])/\aa [] w w':=by
 by_cases h1:n<0
 ·go_enter Tryz.func36,Tryz.ntmps36
  go_wp2;exact bodyPost_ret (v:=.tuple #[.agg #[.int .i64 0,.int .u32 0,.slice none 0 0,.slice none 0 0],.int .i64 31]) (by simp [results,Tryz.results36,go_sem]) rfl ⟨rfl,β⟩
 ·by_cases h2:65536<n
  ·go_enter Tryz.func36,Tryz.ntmps36
   go_wp2;exact bodyPost_ret (v:=.tuple #[.agg #[.int .i64 0,.int .u32 0,.slice none 0 0,.slice none 0 0],.int .i64 31]) (by simp [results,Tryz.results36,go_sem]) rfl ⟨rfl,β⟩
  ·obtain rfl:m=0:=ω
   go_enter Tryz.func36,Tryz.ntmps36
   go_wp2;exact bodyPost_ret (v:=.tuple #[.agg #[.int .i64 0,.int .u32 0,.slice none 0 0,.slice none 0 0],.int .i64 31]) (by simp [results,Tryz.results36,go_sem]) rfl ⟨rfl,β⟩
theorem yt (n m:Int) (w:World) (h:0<=n/\n<=65536) (hm:1<=m/\m<=4294967295) :
  Calls Tryz.prog 36 #[.int .i64 n,.int .u32 m] w λe w'=>e=.returned (.tuple #[.agg #[.int .i64 n,.int .u32 m,.slice none 0 0,.slice none 0 0],.int .i64 0])/\aa [] w w':=by
 have h1:¬n<0:=ω;have h2:¬n > 65536:=ω;have h3:(m == 0)=false:=ζ;have h4:decide (n<0)=false:=ζ;have h5:decide (n > 65536)=false:=ζ;clear h hm
 go_enter Tryz.func36,Tryz.ntmps36
 go_wp2;exact bodyPost_ret (v:=.tuple #[.agg #[.int .i64 n,.int .u32 m,.slice none 0 0,.slice none 0 0],.int .i64 0]) (by simp [results,Tryz.results36,go_sem]) rfl ⟨rfl,β⟩
theorem wX (kd d n m:Int) (w:World) (hm:0<=m/\m<=4294967295) :
  Calls Tryz.prog 12 #[.agg #[.int .i64 kd,.int .i64 d],.int .i64 n,.int .u32 m] w λe w'=>∃ (x0 x1 x6:Int) (a2:Option Addr) (n2 k2:Nat) (a3:Option Addr) (n3 k3:Nat) (a4:Option Addr) (n4 k4:Nat) (a5:Option Addr) (n5 k5:Nat),e=.returned (.tuple #[.agg #[.int .i64 x0,.int .u32 x1,.slice a2 n2 k2,.slice a3 n3 k3,.slice a4 n4 k4,.slice a5 n5 k5,.int .u64 x6],.int .i64 (dw kd d n m)])/\aa [] w w':=by
 have kc:=λW=>uA kd d W
 by_cases hc:jE kd d=0
 ·rw [hc] at kc
  by_cases hb:n<0\/65536<n\/m=0
  ·have e:dw kd d n m=31:=by unfold dw;rw [Γ (by simp [hc]),Δ hb]
   rw [e];have ka:=λW=>Bp n m W hb hm;clear e hb hc
   go_enter Tryz.func12,Tryz.ntmps12
   (go_upto_region 1 with (fail);refine dW (λW=>eY W (w.heap.size+1) 39 7/\W.cell? ⟨w.heap.size,0,none⟩=some (.int .i64 kd)/\W.cell? ⟨w.heap.size,1,none⟩=some (.int .i64 d)/\aa [] w W) ⟨(by have h:=jJ (w.alloc (.cells #[.int .i64 kd,.int .i64 d] 23)) [Value.int .i64 0,.int .u32 0,.slice none 0 0,.slice none 0 0,.slice none 0 0,.slice none 0 0,.int .u64 0] 39;rw [Κ] at h;exact h),γ,γ,β⟩ ?_;rintro W ⟨hR,q0,q1,hW⟩)
   go_upto_region 5 with (first
    | ((go_at_call 21;(with_reducible refine (kc _).mono ?_));rintro e w1 ⟨rfl,hu1⟩;(have hw1:aa [] w w1:=hW.trans hu1);(have l8:=hR.upd hu1 σ))
    | ((go_at_call 36;(with_reducible refine (ka _).mono ?_));rintro e w2 ⟨rfl,hu2⟩)
    | fail)
   refine dW (λX=>eY X (w.heap.size+1) 39 7/\aa [] w X) ⟨(l8.upd hu2 σ).upd (S:=[]) β σ,(hw1.trans hu2).trans β⟩ ?_;rintro X ⟨oK,hX⟩
   ((have t0:=(oK).cell 0 ω);(have t1:=(oK).cell 1 ω);(have t2:=(oK).cell 2 ω);(have t3:=(oK).cell 3 ω);(have t4:=(oK).cell 4 ω);(have t5:=(oK).cell 5 ω);(have t6:=(oK).cell 6 ω);(have s0:=(oK).free 0);(have s1:=(oK).free 1);(have s2:=(oK).free 2);(have s3:=(oK).free 3);(have s4:=(oK).free 4);(have s5:=(oK).free 5);(have s6:=(oK).free 6);(have hBl:=Ε _ _ t0))
   clear hR l8 oK hu1 hu2 hw1 hW q0 q1 kc ka;go_wp2;exact bodyPost_ret (v:=.tuple #[.agg #[.int .i64 0,.int .u32 0,.slice none 0 0,.slice none 0 0,.slice none 0 0,.slice none 0 0,.int .u64 0],.int .i64 31]) (by simp [results,Tryz.results12,go_sem,t0,t1,t2,t3,t4,t5,t6]) rfl ⟨⟨_,_,_,_,_,_,_,_,_,_,_,_,_,_,_,rfl⟩,by (repeat (refine aa.setCell ?_ (Β (Nat.le_succ _)) _));exact hX⟩
  ·have e:dw kd d n m=0:=by unfold dw;rw [Γ (by simp [hc]),Γ hb]
   rw [e];obtain ⟨k,rfl⟩:∃k:Nat,n=k:=⟨n.toNat,ω⟩;have ka:=λW=>yt (k:Int) m W ω ω;have kn:=λW=>zO k W [] σ ω;clear e hb hc
   go_enter Tryz.func12,Tryz.ntmps12
   (go_upto_region 1 with (fail);refine dW (λW=>eY W (w.heap.size+1) 39 7/\W.cell? ⟨w.heap.size,0,none⟩=some (.int .i64 kd)/\W.cell? ⟨w.heap.size,1,none⟩=some (.int .i64 d)/\aa [] w W) ⟨(by have h:=jJ (w.alloc (.cells #[.int .i64 kd,.int .i64 d] 23)) [Value.int .i64 0,.int .u32 0,.slice none 0 0,.slice none 0 0,.slice none 0 0,.slice none 0 0,.int .u64 0] 39;rw [Κ] at h;exact h),γ,γ,β⟩ ?_;rintro W ⟨hR,q0,q1,hW⟩)
   go_upto_region 7 with (first
    | ((go_at_call 21;(with_reducible refine (kc _).mono ?_));rintro e w1 ⟨rfl,hu1⟩;(have hw1:aa [] w w1:=hW.trans hu1);(have l8:=hR.upd hu1 σ))
    | ((go_at_call 36;(with_reducible refine (ka _).mono ?_));rintro e w2 ⟨rfl,hu2⟩)
    | fail)
   refine dW (λX=>eY X (w.heap.size+1) 39 7/\X.cell? ⟨w2.heap.size,0,none⟩=some (.int .i64 (k:Int))/\X.cell? ⟨w2.heap.size,1,none⟩=some (.int .u32 m)/\X.cell? ⟨w2.heap.size,2,none⟩=some (.slice none 0 0)/\X.cell? ⟨w2.heap.size,3,none⟩=some (.slice none 0 0)/\aa [] w X) ⟨(l8.upd hu2 σ).upd (S:=[]) β σ,γ,γ,γ,γ,(hw1.trans hu2).trans β⟩ ?_;rintro X ⟨oK,z0,z1,z2,z3,hX⟩;have kn5:=kn X.drew;have HX:=χ (ψ oK hX);clear hR l8 oK hu1 hu2 hw1 hW q0 q1 kc ka hX kn
   go_region_law
    (first
     | ((first|go_at_call 37|(go_simp;go_at_call 37));(with_reducible refine (kn5).mono ?_);rintro e w3 ⟨v3,rfl,⟨gh,oh,ch,gc,oc,cc,rfl, -⟩,hu3⟩;(unfold Et);(have y0:=hu3.was z0);(have y1:=hu3.was z1);(have y2:=hu3.was z2);(have y3:=hu3.was z3);(obtain ⟨oK,hX⟩:=HX.out);(have lC:aa [] X w3:=((aa.refl [] X).drew).trans hu3);(have rU:=oK.upd lC σ);((have t0:=(rU).cell 0 ω);(have t1:=(rU).cell 1 ω);(have t2:=(rU).cell 2 ω);(have t3:=(rU).cell 3 ω);(have t4:=(rU).cell 4 ω);(have t5:=(rU).cell 5 ω);(have t6:=(rU).cell 6 ω);(have s0:=(rU).free 0);(have s1:=(rU).free 1);(have s2:=(rU).free 2);(have s3:=(rU).free 3);(have s4:=(rU).free 4);(have s5:=(rU).free 5);(have s6:=(rU).free 6);(have hBl:=Ε _ _ t0))))
   all_goals
    clear y0 y1 y2 y3 rU kn5;go_wp2;exact bodyPost_ret (v:=.tuple #[.agg #[.int .i64 (k:Int),.int .u32 m,.slice none 0 0,.slice none 0 0,.slice (some ⟨gh,oh,none⟩) (NS.new k).hs.length ch,.slice (some ⟨gc,oc,none⟩) (NS.new k).cs.length cc,.int .u64 0],.int .i64 0]) (by simp [results,Tryz.results12,go_sem,t0,t1,t2,t3,t4,t5,t6]) rfl ⟨⟨_,_,_,_,_,_,_,_,_,_,_,_,_,_,_,rfl⟩,by (repeat (refine aa.setCell ?_ (Β (Nat.le_succ _)) _));exact hX.trans lC⟩
 ·have e:dw kd d n m=jE kd d:=by unfold dw;rw [Δ hc]
  rw [e];have hcb:(jE kd d != 0)=true:=by simpa using hc
  clear e hc;generalize jE kd d=v at *
  go_enter Tryz.func12,Tryz.ntmps12
  (go_upto_region 1 with (fail);refine dW (λW=>eY W (w.heap.size+1) 39 7/\W.cell? ⟨w.heap.size,0,none⟩=some (.int .i64 kd)/\W.cell? ⟨w.heap.size,1,none⟩=some (.int .i64 d)/\aa [] w W) ⟨(by have h:=jJ (w.alloc (.cells #[.int .i64 kd,.int .i64 d] 23)) [Value.int .i64 0,.int .u32 0,.slice none 0 0,.slice none 0 0,.slice none 0 0,.slice none 0 0,.int .u64 0] 39;rw [Κ] at h;exact h),γ,γ,β⟩ ?_;rintro W ⟨hR,q0,q1,hW⟩)
  go_upto_region 2 with (first
   | ((go_at_call 21;(with_reducible refine (kc _).mono ?_));rintro e w1 ⟨rfl,hu1⟩;(have hw1:aa [] w w1:=hW.trans hu1);(have l8:=hR.upd hu1 σ))
   | fail)
  ((have t0:=(l8).cell 0 ω);(have t1:=(l8).cell 1 ω);(have t2:=(l8).cell 2 ω);(have t3:=(l8).cell 3 ω);(have t4:=(l8).cell 4 ω);(have t5:=(l8).cell 5 ω);(have t6:=(l8).cell 6 ω);(have s0:=(l8).free 0);(have s1:=(l8).free 1);(have s2:=(l8).free 2);(have s3:=(l8).free 3);(have s4:=(l8).free 4);(have s5:=(l8).free 5);(have s6:=(l8).free 6);(have hBl:=Ε _ _ t0))
  clear hR l8 hu1 hW q0 q1 kc;go_wp2;exact bodyPost_ret (v:=.tuple #[.agg #[.int .i64 0,.int .u32 0,.slice none 0 0,.slice none 0 0,.slice none 0 0,.slice none 0 0,.int .u64 0],.int .i64 v]) (by simp [results,Tryz.results12,go_sem,t0,t1,t2,t3,t4,t5,t6]) rfl ⟨⟨_,_,_,_,_,_,_,_,_,_,_,_,_,_,_,rfl⟩,by (repeat (refine aa.setCell ?_ (Β (Nat.le_succ _)) _));exact hw1⟩
theorem xm (kd d n m:Int):dw kd d (min n 65537) m=dw kd d n m:=by
 unfold dw;have:(min n 65537<0\/65536<min n 65537\/m=0)↔(n<0\/65536<n\/m=0):=ω
 by_cases h:jE kd d≠0
 ·rw [Δ h,Δ h]
 ·rw [Γ h,Γ h]
  by_cases h2:n<0\/65536<n\/m=0
  ·rw [Δ h2,Δ (this.2 h2)]
  ·rw [Γ h2,Γ (λe=>h2 (this.1 e))]
theorem qY (w:World) (kd d n m:Int) (hn:-9223372036854775808<=n/\n<=9223372036854775807) (hm:0<=m/\m<=4294967295) :
  Calls Tryz.prog 3 #[.agg #[.int .i64 kd,.int .i64 d],.int .i64 n,.int .u32 m] w λr w'=>r=.returned (.bool true)/\aa [] w w':=by
 obtain ⟨n',hn'⟩:∃n',min n 65537=n':=⟨_,rfl⟩;have kR:=λW=>wX kd d n' m W hm;rw [←hn',xm,hn'] at kR
 by_cases hE:dw kd d n m=0
 ·rw [hE] at kR;have hc:jE kd d=0:=by
   unfold dw at hE
   by_cases h:jE kd d≠0
   ·rw [Δ h] at hE;exact hE
   ·exact ϔ λe=>h e
  have hb:¬ (n<0\/65536<n\/m=0):=λh=>by
   unfold dw at hE;rw [Γ (by simp [hc]),Δ h] at hE;cases hE
  obtain ⟨k,rfl⟩:∃k:Nat,n=k:=⟨n.toNat,ω⟩;obtain ⟨g,rfl⟩:∃g:Nat,m=g:=⟨m.toNat,ω⟩;obtain rfl:n'=(k:Int):=ω;obtain ⟨K,ko,hV⟩:=uG kd d k hc ω;have kO:=λW=>ug k g W ω ω hc ko;have hRl:(AR.new k g).sl.length=k:=by simp [AR.new]
  have kC:∀W p F,bA K W p F kd d (AR.new k g) (NS.new k) 0->_:=λW p F h=>Bl h;rw [hRl] at kC;have kL:∀W p F,bA K W p F kd d (AR.new k g) (NS.new k) 0->_:=λW p F h=>xc h;rw [AR.wm] at kL;have kF:∀W p F,bA K W p F kd d (AR.new k g) (NS.new k) 0->_:=λW p F h=>qU h;have kS:∀W p,EX K W p k->_:=λW p h=>sM hV h;clear ko hV hc hE hb hRl
  by_cases h2:k > 2000
  ·have h2I:(k:Int) > 2000:=ω
   go_enter Tryz.func3,Tryz.ntmps3
   go_upto_region 6 with (first
    | ((go_at_call 10;(with_reducible refine (gG _).mono ?_));rintro e w1 ⟨rfl,hu1⟩;(have DV:w1.cell? ⟨w.heap.size,0,none⟩=some (.int .i64 kd):=hu1.was γ);(have DL:w1.cell? ⟨w.heap.size,1,none⟩=some (.int .i64 d):=hu1.was γ);(have hw1:aa [] w w1:=aa.trans β hu1))
    | ((go_at_call 11;(with_reducible refine (kO _).mono ?_));rintro e w2 ⟨p,F,rfl,hP,hZ,hu2,hf2⟩;(have Ec:=hu2.was DV);(have Ej:=hu2.was DL))
    | ((go_at_call 12;(with_reducible refine (kR _).mono ?_));rintro e w3 ⟨x0,x1,x6,a2,n2,k2,a3,n3,k3,a4,n4,k4,a5,n5,k5,rfl,hu3⟩;(have FZ:=hu3.was Ec);(have FP:=hu3.was Ej))
    | fail)
   have hw3:aa [] w w3:=(hw1.trans hu2).trans hu3;refine dW (λW=>bA K W p F kd d (AR.new k g) (NS.new k) 0/\aa [] w W) ⟨(hP.ah hu3).ah β,hw3.trans β⟩ ?_;rintro W4 ⟨yG,wS⟩;have hkk:((k:Int) == (k:Int))=true:=σ;clear hP hZ hu3 hu2 hu1 hw1 hw3 kO kR kL kF kS DV DL Ec Ej FZ FP
   go_wp2_with (first|((go_at_call 13;(with_reducible refine (kC _ _ _ (yG.ah β)).mono ?_));rintro e w5 ⟨rfl,rfl⟩)|fail)
   go_ret;exact ⟨rfl,wS⟩
  ·have h2I:¬ (k:Int) > 2000:=ω;have h2D:decide ((k:Int) > 2000)=false:=ζ
   go_enter Tryz.func3,Tryz.ntmps3
   go_upto_region 9 with (first
    | ((go_at_call 10;(with_reducible refine (gG _).mono ?_));rintro e w1 ⟨rfl,hu1⟩;(have DV:w1.cell? ⟨w.heap.size,0,none⟩=some (.int .i64 kd):=hu1.was γ);(have DL:w1.cell? ⟨w.heap.size,1,none⟩=some (.int .i64 d):=hu1.was γ);(have hw1:aa [] w w1:=aa.trans β hu1))
    | ((go_at_call 11;(with_reducible refine (kO _).mono ?_));rintro e w2 ⟨p,F,rfl,hP,hZ,hu2,hf2⟩;(have Ec:=hu2.was DV);(have Ej:=hu2.was DL))
    | ((go_at_call 12;(with_reducible refine (kR _).mono ?_));rintro e w3 ⟨x0,x1,x6,a2,n2,k2,a3,n3,k3,a4,n4,k4,a5,n5,k5,rfl,hu3⟩;(have FZ:=hu3.was Ec);(have FP:=hu3.was Ej))
    | fail)
   have hw3:aa [] w w3:=(hw1.trans hu2).trans hu3
   refine dW (λW=>bA K W p F kd d (AR.new k g) (NS.new k) 0/\EX K W p k/\W.cell? ⟨w.heap.size,0,none⟩=some (.int .i64 kd)/\W.cell? ⟨w.heap.size,1,none⟩=some (.int .i64 d)/\aa [] w W) ⟨(hP.ah hu3).ah β,(hZ.ah hu3).ah β,(show aa [] w3 _ by (repeat (first|assumption|exact aa.refl _ _|refine aa.alloc ?_ _|refine aa.drew ?_|refine aa.drewN ?_ _|refine aa.setCell ?_ ?_ _|focus (left;simp;done)|focus (right;simp;done)|focus (right;simp;omega)))).was FZ,(show aa [] w3 _ by (repeat (first|assumption|exact aa.refl _ _|refine aa.alloc ?_ _|refine aa.drew ?_|refine aa.drewN ?_ _|refine aa.setCell ?_ ?_ _|focus (left;simp;done)|focus (right;simp;done)|focus (right;simp;omega)))).was FP,hw3.trans β⟩ ?_
   rintro W4 ⟨yG,hZ4,c40,c41,wS⟩;have kC4:=λX (hX:aa [] W4 X)=>kC X p F (yG.ah hX);have kL4:=λX (hX:aa [] W4 X)=>kL X p F (yG.ah hX);have kF4:=λX (hX:aa [] W4 X)=>kF X p F (yG.ah hX);have kS4:=λX (hX:aa [] W4 X)=>kS X p (hZ4.ah hX);have e0:∀X,aa [] W4 X->X.cell? ⟨w.heap.size,0,none⟩=some (.int .i64 kd):=λX h=>h.was c40;have e1:∀X,aa [] W4 X->X.cell? ⟨w.heap.size,1,none⟩=some (.int .i64 d):=λX h=>h.was c41;have hkk:((k:Int) == (k:Int))=true:=σ;have hHW:=χ wS;clear hP hZ hu3 hu2 hu1 hw1 hw3 kO kR kL kF kS kC DV DL Ec Ej FZ FP yG hZ4 c40 c41 wS hf2
   go_region_held3 (aa [] W4) (exact ν)
    (first
     | ((go_at_call 14;(with_reducible refine (kF4 _ ν).mono ?_));rintro e w5 ⟨rfl,dV⟩;(have hv5:aa [] W4 w5:=aa.trans ν dV))
     | ((go_at_call 13;(with_reducible refine (kC4 _ ν).mono ?_));rintro e w6 ⟨rfl,rfl⟩)
     | ((go_at_call 15;(with_reducible refine (kL4 _ ν).mono ?_));rintro e w7 ⟨rfl,rfl⟩)
     | ((go_at_call 16;(with_reducible refine (kS4 _ ν).mono ?_));rintro e w8 ⟨rfl,rfl⟩))
   all_goals
    go_wp2;go_ret;exact ⟨rfl,hHW.out.trans ν⟩
 ·have kO:=λW=>xx kd d n m W hm hE;have hEb:(dw kd d n m == 0)=false:=by simpa using hE
  have hEn:(dw kd d n m != 0)=true:=by simpa using hE
  have hEe:(dw kd d n m != dw kd d n m)=false:=σ;generalize dw kd d n m=E at *;have hn2:n'=n\/n'=65537:=ω;have hsp:(n > 2000/\n<=65537/\n'=n)\/(n > 65537/\n'=65537)\/(¬n > 2000/\n'=n):=ω;rcases hsp with ⟨h2,h3,rfl⟩|⟨h3,rfl⟩|⟨h2,rfl⟩
  all_goals
   (try have h2:n > 2000:=ω)
   (try have h2D:decide (n > 2000)=false:=by simpa using h2)
   go_enter Tryz.func3,Tryz.ntmps3
   go_upto_region 9 with (first
    | ((go_at_call 10;(with_reducible refine (gG _).mono ?_));rintro e w1 ⟨rfl,hu1⟩;(have DV:w1.cell? ⟨w.heap.size,0,none⟩=some (.int .i64 kd):=hu1.was γ);(have DL:w1.cell? ⟨w.heap.size,1,none⟩=some (.int .i64 d):=hu1.was γ);(have hw1:aa [] w w1:=aa.trans β hu1))
    | ((go_at_call 11;(with_reducible refine (kO _).mono ?_));rintro e w2 ⟨rfl,hu2⟩;(have Ec:=hu2.was DV);(have Ej:=hu2.was DL))
    | ((go_at_call 12;(with_reducible refine (kR _).mono ?_));rintro e w3 ⟨x0,x1,x6,a2,n2,k2,a3,n3,k3,a4,n4,k4,a5,n5,k5,rfl,hu3⟩;(have FZ:=hu3.was Ec);(have FP:=hu3.was Ej))
    | fail)
   have hw3:aa [] w w3:=(hw1.trans hu2).trans hu3;refine dW (λW=>aa [] w W) (hw3.trans β) ?_;intro W4 wS;clear hu3 hu2 hu1 hw1 hw3 kO kR DV DL Ec Ej FZ FP
   go_quiet (fail)
   go_wp2;go_ret;exact ⟨rfl,wS.drewN _⟩
theorem rY (w:World):Calls Tryz.prog 4 #[] w λe w'=>e=.returned (.bool true)/\aa [] w w':=by
 have hc:jE 7 0=0:=δ;obtain ⟨K,ko⟩:=oW 7 0 0 hc ω;have e1:aR (NS.new 0) 1=false:=by decide +kernel
 have e2:aT (NS.new 0)=1:=by decide +kernel
 have e3:aR (ag (NS.new 0)) 1=true:=by decide +kernel
 have e4:iH (AR.new 0 1)=none:=by decide +kernel
 have e5:bQ (ag (NS.new 0)) 1=none:=by decide +kernel
 have e6:lM (ag (NS.new 0)) 1=172:=by unfold lM;rw [e5,e3];rfl
 have kO:∀W:World,Calls Tryz.prog 11 #[.agg #[.int .i64 7,.int .i64 0],.int .i64 0,.int .u32 1] W λe w'=>∃p F,e=.returned (.tuple #[.pointer (some ⟨p,0,none⟩),.int .i64 0])/\bA K w' p F 7 0 (AR.new 0 1) (NS.new 0) 0/\aa [] W w'/\∀x,x∈F->W.heap.size<=x:=λW=>o5 0 1 W ω ω hc ko;have Gn:∀ (W:World) (p:Nat) (F:List Nat),bA K W p F 7 0 (AR.new 0 1) (NS.new 0) 0->_:=λW p F h=>oC h 1 0 e1
 have kN:∀ (W:World) (p:Nat) (F:List Nat),bA K W p F 7 0 (AR.new 0 1) (NS.new 0) 0->Calls Tryz.prog 18 #[.pointer (some ⟨p,0,none⟩)] W λe w'=>e=.returned (.tuple #[.int .i64 1,.int .i64 0])/\Goes F W w' (λF'=>bA K w' p F' 7 0 (AR.new 0 1) (ag (NS.new 0)) 0):=λW p F h=>by
  have h1:=jR h;rw [e2] at h1;exact h1
 have Iu:∀ (W:World) (p:Nat) (F:List Nat),bA K W p F 7 0 (AR.new 0 1) (ag (NS.new 0)) 0->_:=λW p F h=>pR h 1 0 e3 e4;have kM:∀ (W:World) (p:Nat) (F:List Nat),bA K W p F 7 0 (AR.new 0 1) (ag (NS.new 0)) 0->_:=λW p F h=>Bi h 1 ω e5;rw [e6] at kM;have kE:∀ (W:World) (p:Nat) (F:List Nat),bA K W p F 7 0 (AR.new 0 1) (ag (NS.new 0)) 0->_:=λW p F h=>xu h 1 1 (Β (Β rfl));rw [Γ (by rw [e3];simp)] at kE;clear e1 e2 e3 e4 e5 e6 ko hc
 go_enter Tryz.func4,Tryz.ntmps4
 go_upto_region 5 with (first
  | ((go_at_call 11;(with_reducible refine (kO _).mono ?_));rintro e w1 ⟨p,F1,rfl,hP1,hu1,hf1⟩)
  | ((go_at_call 10;(with_reducible refine (gG _).mono ?_));rintro e w2 ⟨rfl,hu2⟩)
  | ((go_at_call 17;(with_reducible refine (Gn _ _ _ (hP1.ah hu2)).mono ?_));rintro e w3 ⟨rfl,hu3⟩)
  | fail)
 have hP3:=(hP1.ah hu2).ah hu3;have hw3:aa [] w w3:=(hu1.trans hu2).trans hu3;have hs2:=hw3.size
 go_upto_region 6 with (first
  | ((go_at_call 18;(with_reducible refine (kN _ _ _ (hP3.ah β)).mono ?_));rintro e w4 ⟨rfl,F4,yG,lC,H9⟩)
  | fail)
 have hw4:aa [] w w4:=(hw3.trans β).joined lC (λx hx=>Β (hf1 x hx));have hl4:∀x,x∈F4->w.heap.size<=x:=λx hx=>by rcases H9 x hx with e|e;exact hf1 x e;simp at e;omega
 go_upto_region 7 with (first
  | ((go_at_call 17;(with_reducible refine (Iu _ _ _ (yG.ah β)).mono ?_));rintro e w5 ⟨rfl,dV⟩)
  | fail)
 have Gt:=yG.ah dV;have GU:=hw4.trans dV;have hs5:=GU.size
 go_upto_region 8 with (first
  | ((go_at_call 19;(with_reducible refine (kM _ _ _ (Gt.ah β)).mono ?_));rintro e w6 ⟨rfl,F6,hP6,xO,hf6⟩)
  | fail)
 have hw6:aa [] w w6:=(GU.trans β).joined xO (λx hx=>Β (hl4 x hx))
 go_wp2_with (first
  | ((go_at_call 20;(with_reducible refine (kE _ _ _ (hP6.ah β)).mono ?_));rintro e w7 ⟨rfl,rfl⟩)
  | fail)
 go_ret;exact ⟨rfl,hw6.trans β⟩
end Go.Proofs.YtnpdakpagnpanaaGreat
