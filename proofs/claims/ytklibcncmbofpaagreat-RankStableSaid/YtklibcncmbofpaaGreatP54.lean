/-
  Lemmas for RankSorts: RkSo, RkMo, RkSt. Conditions: those of each lemma.
-/
import Derived.Test.YtklibcncmbofpaaGreatP53
set_option maxHeartbeats 8000000
set_option maxRecDepth 10000
set_option linter.unusedVariables false
set_option linter.unusedSimpArgs false
namespace Go.Proofs.YtklibcncmbofpaaGreat
open Go Go.RowKit
theorem mG {W:World} {base n cap:Nat} {a:Option Addr} {xs:List Int} (h:W.ownsRow base 3 1 (.slice a n cap) n (aH xs)):fI W [] (.slice a n cap) xs:=by
 have hl:xs.length=n:=by have:=h.1;rw [dX] at this;omega
 subst hl;exact fI.gJ h (fun g hg=>by cases hg)
theorem Cu (w:World) (vk:Value) (kd d k:Int) (ks:List Int) (hS:fI w [] vk ks) (hb:∀x,x∈ks→-9223372036854775808≤x∧x≤9223372036854775807) (hkb:-9223372036854775808≤k∧k≤9223372036854775807) :
  Calls Tryz.prog 3 #[.agg #[.int .i64 kd,.int .i64 d],vk,.int .i64 k] w fun r w'=>r=.returned (.bool true)∧aa [] w w':=by
 have hS0:=hS;obtain ⟨a,cap,rfl,hcap,hcap2, -⟩:=hS0;have kc:=fun W=>nM kd d W
 by_cases hn:ks.length > 100
 ·have hnI:(ks.length:Int) > 100:=ω;clear hS hb kc;generalize ks.length=n at *
  go_enter Tryz.func3,Tryz.ntmps3
  go_wp2_with (first|((go_at_call 15;(with_reducible refine (dE _).mono ?_));rintro e w1 ⟨rfl,hu1⟩;(have q10:w1.cell? ⟨w.heap.size,0,none⟩=some (.int .i64 kd):=hu1.was γ);(have q11:w1.cell? ⟨w.heap.size,1,none⟩=some (.int .i64 d):=hu1.was γ);(have hw1:aa [] w w1:=aa.trans β hu1))|fail)
  go_ret;exact ⟨rfl,hw1⟩
 ·have hnI:¬ (ks.length:Int) > 100:=ω
  by_cases hc:kX kd d=0
  ·obtain ⟨K,ko⟩:=pY kd d ks.length hc ω;have k1:=fun W (hW:aa [] w W)=>ql (K:=K) kd d (.slice a ks.length cap) ks W (hS.fresh hW (fun g hg=>Or.inl hg)) hb hc ω ko
   have k3:=fun W (hW:aa [] w W)=>uP (.slice a ks.length cap) ks W (hS.fresh hW (fun g hg=>Or.inl hg)) ω
   rw [hc] at kc
   by_cases hk:k<0∨(ks.length:Int)<k
   ·have k2:=fun W=>I1 (K:=K) kd d a ks.length cap k W hc ω hk ko
    clear hS hb hc ko;generalize vw (aU (fun i=>ks.getD i 0) ks.length)=L at *
    generalize ks.length=n at *
    rcases hk with hk|hk
    ·have hk0:decide (k<0)=true:=by simpa using hk
     go_enter Tryz.func3,Tryz.ntmps3
     go_wp2_with (first
      | ((go_at_call 15;(with_reducible refine (dE _).mono ?_));rintro e w1 ⟨rfl,hu1⟩;(have q10:w1.cell? ⟨w.heap.size,0,none⟩=some (.int .i64 kd):=hu1.was γ);(have q11:w1.cell? ⟨w.heap.size,1,none⟩=some (.int .i64 d):=hu1.was γ);(have hw1:aa [] w w1:=aa.trans β hu1))
      | ((go_at_call 16;(with_reducible refine (k1 _ hw1).mono ?_));rintro e w2 ⟨ao,co,rfl,ho2,hu2⟩;(have q20:=hu2.was q10);(have q21:=hu2.was q11);(have hw2:=hw1.trans hu2))
      | ((go_at_call 17;(with_reducible refine (k2 _).mono ?_));rintro e w3 ⟨rfl,hu3⟩;(have q30:=hu3.was q20);(have q31:=hu3.was q21);(have hw3:=hw2.trans hu3))
      | ((go_at_call 18;(with_reducible refine (kc _).mono ?_));rintro e w4 ⟨rfl,hu4⟩)
      | ((go_at_call 19;(with_reducible refine (k3 _ (hw3.trans hu4)).mono ?_));rintro e w5 ⟨ar,cr,rfl,ho5,hu5⟩)
      | ((go_at_call 20;(with_reducible refine (lh _ [] [] _ _ L ((mG ho2).fresh ((hu3.trans hu4).trans hu5) (fun g hg=>Or.inl hg)) (mG ho5)).mono ?_));rintro e w6 ⟨rfl,kk,rfl⟩)
      | fail)
     go_ret;exact ⟨rfl,((hw3.trans hu4).trans hu5).drewN _⟩
    ·have hk0:decide (k<0)=false:=ζ;have hk1:k > (n:Int):=hk
     go_enter Tryz.func3,Tryz.ntmps3
     go_wp2_with (first
      | ((go_at_call 15;(with_reducible refine (dE _).mono ?_));rintro e w1 ⟨rfl,hu1⟩;(have q10:w1.cell? ⟨w.heap.size,0,none⟩=some (.int .i64 kd):=hu1.was γ);(have q11:w1.cell? ⟨w.heap.size,1,none⟩=some (.int .i64 d):=hu1.was γ);(have hw1:aa [] w w1:=aa.trans β hu1))
      | ((go_at_call 16;(with_reducible refine (k1 _ hw1).mono ?_));rintro e w2 ⟨ao,co,rfl,ho2,hu2⟩;(have q20:=hu2.was q10);(have q21:=hu2.was q11);(have hw2:=hw1.trans hu2))
      | ((go_at_call 17;(with_reducible refine (k2 _).mono ?_));rintro e w3 ⟨rfl,hu3⟩;(have q30:=hu3.was q20);(have q31:=hu3.was q21);(have hw3:=hw2.trans hu3))
      | ((go_at_call 18;(with_reducible refine (kc _).mono ?_));rintro e w4 ⟨rfl,hu4⟩)
      | ((go_at_call 19;(with_reducible refine (k3 _ (hw3.trans hu4)).mono ?_));rintro e w5 ⟨ar,cr,rfl,ho5,hu5⟩)
      | ((go_at_call 20;(with_reducible refine (lh _ [] [] _ _ L ((mG ho2).fresh ((hu3.trans hu4).trans hu5) (fun g hg=>Or.inl hg)) (mG ho5)).mono ?_));rintro e w6 ⟨rfl,kk,rfl⟩)
      | fail)
     go_ret;exact ⟨rfl,((hw3.trans hu4).trans hu5).drewN _⟩
   ·obtain ⟨k,rfl⟩:∃q:Nat,k=q:=⟨k.toNat,ω⟩
    have k2:=fun W (hW:aa [] w W)=>yM (K:=K) kd d (.slice a ks.length cap) ks k W (hS.fresh hW (fun g hg=>Or.inl hg)) hb hc ω ω ko
    have hkn:k≤ks.length:=ω;have hTL:vw ((aU (fun i=>ks.getD i 0) ks.length).take k)=(vw (aU (fun i=>ks.getD i 0) ks.length)).take k:=by unfold vw;rw [List.map_take]
    rw [hTL] at k2;clear hS hb hc ko hTL;generalize vw (aU (fun i=>ks.getD i 0) ks.length)=L at *
    generalize ks.length=n at *
    have hk0:decide ((k:Int)<0)=false:=σ;have hk1:¬ (k:Int) > (n:Int):=ω;have hk2:decide ((k:Int) > (n:Int))=false:=ζ;clear hk
    go_enter Tryz.func3,Tryz.ntmps3
    go_upto_region 15 with (first
      | ((go_at_call 15;(with_reducible refine (dE _).mono ?_));rintro e w1 ⟨rfl,hu1⟩;(have q10:w1.cell? ⟨w.heap.size,0,none⟩=some (.int .i64 kd):=hu1.was γ);(have q11:w1.cell? ⟨w.heap.size,1,none⟩=some (.int .i64 d):=hu1.was γ);(have hw1:aa [] w w1:=aa.trans β hu1))
      | ((go_at_call 16;(with_reducible refine (k1 _ hw1).mono ?_));rintro e w2 ⟨ao,co,rfl,ho2,hu2⟩;(have q20:=hu2.was q10);(have q21:=hu2.was q11);(have hw2:=hw1.trans hu2))
      | ((go_at_call 17;(with_reducible refine (k2 _ hw2).mono ?_));rintro e w3 ⟨al,cl,rfl,ho3,hu3⟩;(have q30:=hu3.was q20);(have q31:=hu3.was q21);(have hw3:=hw2.trans hu3))
      | ((go_at_call 18;(with_reducible refine (kc _).mono ?_));rintro e w4 ⟨rfl,hu4⟩)
      | ((go_at_call 19;(with_reducible refine (k3 _ (hw3.trans hu4)).mono ?_));rintro e w5 ⟨ar,cr,rfl,ho5,hu5⟩)
      | ((go_at_call 20;(with_reducible refine (lh _ [] [] _ _ L ((mG ho2).fresh ((hu3.trans hu4).trans hu5) (fun g hg=>Or.inl hg)) (mG ho5)).mono ?_));rintro e w6 ⟨rfl,kk,rfl⟩)
      | fail)
    have hwE:aa [] w (w5.drewN kk):=((hw3.trans hu4).trans hu5).drewN _;have hS3:=(mG ho3).fresh (hu4.trans (hu5.drewN kk)) (F':=[]) (fun g hg=>Or.inl hg)
    have ho6:=ay ho5 ((aa.refl [] w5).drewN kk) σ;clear k1 k2 k3 kc ho2 ho3 ho5 hu1 hu2 hu3 hu4 hu5 q10 q11 hw1 hw2 hw3;generalize w5.drewN kk=W at *
    have hlL:(aH L).length=n:=by have:=ho6.1;omega
    rcases ho6.2 with ⟨he,h0⟩|⟨g,c,cur,he, -, -,hnc,hcm, -⟩
    ·cases he;obtain rfl:k=0:=ω;have hS5:fI W [] (.slice none 0 0) (L.take 0):=⟨none,0,rfl,σ,ω,fun j u hj=>by simp at hj⟩
     go_wp2_with (first
      | ((go_at_call 20;(with_reducible refine (lh _ [] [] _ _ (L.take 0) hS3 hS5).mono ?_));rintro e w6 ⟨rfl,kk,rfl⟩)
      | fail)
     go_ret;exact ⟨rfl,hwE.drewN _⟩
    ·cases he;unfold maxLen at hcm;have hS5:=xK ho6 (k:=k) hkn;rw [rG] at hS5;have hS6:=mG hS5;have hkc:(k:Int)≤(cr:Int):=ω
     go_wp2_with (first
      | ((go_at_call 20;(with_reducible refine (lh _ [] [] _ _ (L.take k) hS3 hS6).mono ?_));rintro e w6 ⟨rfl,kk,rfl⟩)
      | fail)
     go_ret;exact ⟨rfl,hwE.drewN _⟩
  ·have k1:=fun W=>Ip kd d a ks.length cap W hc
   have k2:=fun W=>zz kd d a ks.length cap k W hc
   have hv:(kX kd d != 0)=true:=by simpa using hc
   clear hS hb hc;generalize kX kd d=v at *
   generalize ks.length=n at *
   go_enter Tryz.func3,Tryz.ntmps3
   go_wp2_with (first
    | ((go_at_call 15;(with_reducible refine (dE _).mono ?_));rintro e w1 ⟨rfl,hu1⟩;(have q10:w1.cell? ⟨w.heap.size,0,none⟩=some (.int .i64 kd):=hu1.was γ);(have q11:w1.cell? ⟨w.heap.size,1,none⟩=some (.int .i64 d):=hu1.was γ);(have hw1:aa [] w w1:=aa.trans β hu1))
    | ((go_at_call 16;(with_reducible refine (k1 _).mono ?_));rintro e w2 ⟨rfl,hu2⟩;(have q20:=hu2.was q10);(have q21:=hu2.was q11))
    | ((go_at_call 17;(with_reducible refine (k2 _).mono ?_));rintro e w3 ⟨rfl,hu3⟩;(have q30:=hu3.was q20);(have q31:=hu3.was q21))
    | ((go_at_call 18;(with_reducible refine (kc _).mono ?_));rintro e w4 ⟨rfl,hu4⟩)
    | fail)
   go_ret;exact ⟨aV σ,((hw1.trans hu2).trans hu3).trans hu4⟩
theorem LY (kf:Nat→Int) (n:Nat):(lV kf n).length=n:=by unfold lV;simp
theorem Et (w:World) (vk:Value) (kd d:Int) (ks:List Int) (hS:fI w [] vk ks) (hb:∀x,x∈ks→-9223372036854775808≤x∧x≤9223372036854775807) :
  Calls Tryz.prog 4 #[.agg #[.int .i64 kd,.int .i64 d],vk] w fun r w'=>r=.returned (.bool true)∧aa [] w w':=by
 have hS0:=hS;obtain ⟨a,cap,rfl,hcap,hcap2, -⟩:=hS0;have kc:=fun W=>nM kd d W
 by_cases hn:ks.length > 60
 ·have hnI:(ks.length:Int) > 60:=ω;clear hS hb kc;generalize ks.length=n at *
  go_enter Tryz.func4,Tryz.ntmps4
  go_wp2_with (first|((go_at_call 15;(with_reducible refine (dE _).mono ?_));rintro e w1 ⟨rfl,hu1⟩;(have q10:w1.cell? ⟨w.heap.size,0,none⟩=some (.int .i64 kd):=hu1.was γ);(have q11:w1.cell? ⟨w.heap.size,1,none⟩=some (.int .i64 d):=hu1.was γ);(have hw1:aa [] w w1:=aa.trans β hu1))|fail)
  go_ret;exact ⟨rfl,hw1⟩
 ·have hnI:¬ (ks.length:Int) > 60:=ω
  by_cases hc:kX kd d=0
  ·obtain ⟨K,ko⟩:=pY kd d ks.length hc ω;have k1:=fun W (hW:aa [] w W)=>Ca (K:=K) kd d (.slice a ks.length cap) ks W (hS.fresh hW (fun g hg=>Or.inl hg)) hb hc ω ko
   have k3:=fun W (hW:aa [] w W)=>DC (.slice a ks.length cap) ks W (hS.fresh hW (fun g hg=>Or.inl hg)) ω
   rw [hc] at kc;have hml:=LY (fun i=>ks.getD i 0) ks.length
   clear hS hb hc ko;generalize lV (fun i=>ks.getD i 0) ks.length=L at *
   generalize ks.length=n at *
   have HL:=χ hml;clear hml
   go_enter Tryz.func4,Tryz.ntmps4
   go_upto_region 12 with (first
    | ((go_at_call 15;(with_reducible refine (dE _).mono ?_));rintro e w1 ⟨rfl,hu1⟩;(have q10:w1.cell? ⟨w.heap.size,0,none⟩=some (.int .i64 kd):=hu1.was γ);(have q11:w1.cell? ⟨w.heap.size,1,none⟩=some (.int .i64 d):=hu1.was γ);(have hw1:aa [] w w1:=aa.trans β hu1))
    | ((go_at_call 21;(with_reducible refine (k1 _ hw1).mono ?_));rintro e w2 ⟨ao,co,rfl,ho2,hu2⟩;(have q20:=hu2.was q10);(have q21:=hu2.was q11);(have hw2:=hw1.trans hu2))
    | ((go_at_call 18;(with_reducible refine (kc _).mono ?_));rintro e w4 ⟨rfl,hu4⟩)
    | ((go_at_call 22;(with_reducible refine (k3 _ (hw2.trans hu4)).mono ?_));rintro e w5 ⟨ar,cr,rfl,ho5,hu5⟩)
    | fail)
   have hwE:aa [] w w5:=(hw2.trans hu4).trans hu5;have ho6:=ay ho2 (hu4.trans hu5) σ;have HO:=χ (ψ ho6 (ψ ho5 hwE));clear k1 k3 kc ho2 ho5 ho6 hu1 hu2 hu4 hu5 q10 q11 q20 q21 hw1 hw2 hwE;go_wp2
   go_loopw [9,46] (fun _ v46 wr=>∃i:Nat,i≤n∧v46=.int .i64 (i:Int)∧aa [] w5 wr) (fun _ v46 _=>n-(intOf v46).toNat)
   case atStart=>exact ⟨0,Nat.zero_le _,rfl,aa.refl _ _⟩
   case round=>
    obtain ⟨i,hi,rfl,hu⟩:=hrel;rename World=>wr
    by_cases hin:i<n
    ·have hiI:(i:Int)<(n:Int):=ω;obtain ⟨h1,h2, -⟩:=HO.out;obtain ⟨g1,c1,e1, -, -, -, -,hc1, -⟩:=bY h1 ω;obtain ⟨g2,c2,e2, -, -, -, -,hc2, -⟩:=bY h2 ω;cases e1;cases e2;have hx:(aH L)[i]?=some (.int .i64 (L.getD i 0)):=kS (by rw [HL.out];exact hin)
     have d1:=hu.was (hc1 i _ hx);have d2:=hu.was (hc2 i _ hx);clear h1 h2 hc1 hc2 hx;generalize L.getD i 0=x at *
     have hxx:(x != x)=false:=σ;have hwr:IntKind.i64.wrap ((i:Int)+1)=(i:Int)+1:=IntWalk.i64_in _ ω
     go_wp2_with (fail)
     go_quiet (fail)
     go_wp2_with (fail)
     go_roundw
     case rel=>exact ⟨i+1,ω,by go_num,hu.drewN _⟩
     case measure=>simp [intOf];omega
    ·obtain rfl:i=n:=ω;have hiI:¬ (i:Int)<(i:Int):=ω;have hiD:decide ((i:Int)<(i:Int))=false:=σ;go_wp2;go_ret;exact ⟨rfl,HO.out.2.2.trans hu⟩
  ·have k1:=fun W=>JK kd d a ks.length cap W hc
   have hv:(kX kd d != 0)=true:=by simpa using hc
   clear hS hb hc;generalize kX kd d=v at *
   generalize ks.length=n at *
   go_enter Tryz.func4,Tryz.ntmps4
   go_wp2_with (first
    | ((go_at_call 15;(with_reducible refine (dE _).mono ?_));rintro e w1 ⟨rfl,hu1⟩;(have q10:w1.cell? ⟨w.heap.size,0,none⟩=some (.int .i64 kd):=hu1.was γ);(have q11:w1.cell? ⟨w.heap.size,1,none⟩=some (.int .i64 d):=hu1.was γ);(have hw1:aa [] w w1:=aa.trans β hu1))
    | ((go_at_call 21;(with_reducible refine (k1 _).mono ?_));rintro e w2 ⟨rfl,hu2⟩;(have q20:=hu2.was q10);(have q21:=hu2.was q11))
    | ((go_at_call 18;(with_reducible refine (kc _).mono ?_));rintro e w4 ⟨rfl,hu4⟩)
    | fail)
   go_ret;exact ⟨aV σ,(hw1.trans hu2).trans hu4⟩
theorem JO:(Tryz.prog.info? 4).map (fun i=>(i.zero,i.size,i.bytes))=some (some (.bool false),1,1):=by kernel_rfl
theorem D8 {ks:Nat→Int} {n i:Nat} (hi:i+1<n):Je ks ((aU ks n).getD i 0) ((aU ks n).getD (i+1) 0):=by
 have h1:i+1<(aU ks n).length:=by rw [jq];exact hi
 have:=List.pairwise_iff_getElem.1 (jZ ks n) i (i+1) ω h1 ω;rw [φ,φ,List.getElem?_eq_getElem h1,List.getElem?_eq_getElem ω];exact this
theorem Hq {ks:Nat→Int} {n i:Nat} (hi:i<n):(aU ks n).getD i 0∉(aU ks n).take i:=by
 have h1:i<(aU ks n).length:=by rw [jq];exact hi
 rw [φ,List.getElem?_eq_getElem h1];intro hm;obtain ⟨j,hj,e⟩:=List.mem_iff_getElem.1 hm;rw [List.getElem_take] at e;have hj':j<i:=by simp at hj;omega
 have:=(List.getElem_inj (ve ks n)).1 e;omega
theorem yw {S:List Nat} {i j:Nat} (hi:i<S.length):j∈S.take (i+1)↔j∈S.take i∨j=S.getD i 0:=by
 rw [List.take_add_one,List.getElem?_eq_getElem hi,φ,List.getElem?_eq_getElem hi,List.mem_append];simp
theorem ES (w:World) (vk:Value) (k1 d1 k2 d2:Int) (ks:List Int) (hS:fI w [] vk ks) (hb:∀x,x∈ks→-9223372036854775808≤x∧x≤9223372036854775807) :
  Calls Tryz.prog 5 #[.agg #[.int .i64 k1,.int .i64 d1,.int .i64 k2,.int .i64 d2],vk] w fun r w'=>r=.returned (.bool true)∧aa [] w w':=by
 have hS0:=hS;obtain ⟨a,cap,rfl,hcap,hcap2, -⟩:=hS0;have kc1:=fun W=>nM k1 d1 W
 have kc2:=fun W=>nM k2 d2 W
 by_cases hn:ks.length > 200
 ·have hnI:(ks.length:Int) > 200:=ω;clear hS hb kc1 kc2;generalize ks.length=n at *
  go_enter Tryz.func5,Tryz.ntmps5
  go_wp2_with (first|((go_at_call 15;(with_reducible refine (dE _).mono ?_));rintro e w1 ⟨rfl,hu1⟩;(have q10:w1.cell? ⟨w.heap.size,0,none⟩=some (.int .i64 k1):=hu1.was γ);(have q11:w1.cell? ⟨w.heap.size,1,none⟩=some (.int .i64 d1):=hu1.was γ);(have q12:w1.cell? ⟨w.heap.size,2,none⟩=some (.int .i64 k2):=hu1.was γ);(have q13:w1.cell? ⟨w.heap.size,3,none⟩=some (.int .i64 d2):=hu1.was γ);(have hw1:aa [] w w1:=aa.trans β hu1))|fail)
  go_ret;exact ⟨rfl,hw1⟩
 have hnI:¬ (ks.length:Int) > 200:=ω
 by_cases hc1:kX k1 d1=0
 ·by_cases hc2:kX k2 d2=0
  ·obtain ⟨K1,ko1⟩:=pY k1 d1 ks.length hc1 ω;obtain ⟨K2,ko2⟩:=pY k2 d2 ks.length hc2 ω;have s1:=fun W (hW:aa [] w W)=>ql (K:=K1) k1 d1 (.slice a ks.length cap) ks W (hS.fresh hW (fun g hg=>Or.inl hg)) hb hc1 ω ko1
   have s2:=fun W (hW:aa [] w W)=>ql (K:=K2) k2 d2 (.slice a ks.length cap) ks W (hS.fresh hW (fun g hg=>Or.inl hg)) hb hc2 ω ko2
   rw [hc1] at kc1;rw [hc2] at kc2;have hrow:∀j,j<ks.length→∃g off,a=some ⟨g,off,none⟩∧g<w.heap.size∧w.cell? ⟨g,off+j,none⟩=some (.int .i64 ((fun i=>ks.getD i 0) j)):=fun j hj=>by
    obtain ⟨a',cap',he,_,_,hcell⟩:=hS;cases he;obtain ⟨g,off,h1,h2,_,h3⟩:=hcell j ks[j] (List.getElem?_eq_getElem hj);exact ⟨g,off,h1,h2,by rw [h3];simp [φ,hj]⟩
   have HR:=χ hrow;clear hS hb hc1 hc2 ko1 ko2 hrow;generalize (fun i=>ks.getD i 0)=kf at *
   generalize ks.length=n at *
   obtain ⟨L,hL⟩:∃L,L=vw (aU kf n):=⟨_,rfl⟩
   rw [←hL] at s1 s2;have HL:=χ hL;clear hL;have hmk:=run_make_row' (P:=Tryz.prog) 40 4 (.bool false) 1 Tryz.underlying40 JO rfl .i64 .i64 n ω ω
   go_enter Tryz.func5,Tryz.ntmps5
   go_upto_region 10 with (first
    | ((go_at_call 15;(with_reducible refine (dE _).mono ?_));rintro e w1 ⟨rfl,hu1⟩;(have q10:w1.cell? ⟨w.heap.size,0,none⟩=some (.int .i64 k1):=hu1.was γ);(have q11:w1.cell? ⟨w.heap.size,1,none⟩=some (.int .i64 d1):=hu1.was γ);(have q12:w1.cell? ⟨w.heap.size,2,none⟩=some (.int .i64 k2):=hu1.was γ);(have q13:w1.cell? ⟨w.heap.size,3,none⟩=some (.int .i64 d2):=hu1.was γ);(have hw1:aa [] w w1:=aa.trans β hu1))|((go_at_call 18;(with_reducible refine (kc1 _).mono ?_));rintro e w2 ⟨rfl,hu2⟩;(have q20:=hu2.was q10);(have q21:=hu2.was q11);(have q22:=hu2.was q12);(have q23:=hu2.was q13))|((go_at_call 18;(with_reducible refine (kc2 _).mono ?_));rintro e w3 ⟨rfl,hu3⟩;(have q30:=hu3.was q20);(have q31:=hu3.was q21);(have q32:=hu3.was q22);(have q33:=hu3.was q23))
    | ((go_at_call 16;(with_reducible refine (s1 _ ((hw1.trans hu2).trans hu3)).mono ?_));rintro e w4 ⟨ao,co,rfl,ho4,hu4⟩;(have q40:=hu4.was q30);(have q41:=hu4.was q31);(have q42:=hu4.was q32);(have q43:=hu4.was q33))
    | ((go_at_call 16;(with_reducible refine (s2 _ (((hw1.trans hu2).trans hu3).trans hu4)).mono ?_));rintro e w5 ⟨ar,cr,rfl,ho5,hu5⟩;(have q50:=hu5.was q40);(have q51:=hu5.was q41);(have q52:=hu5.was q42);(have q53:=hu5.was q43))
    | ((go_at_call 20;(with_reducible refine (lh _ [] [] _ _ L ((mG ho4).fresh hu5 (fun g hg=>Or.inl hg)) (mG ho5)).mono ?_));rintro e w6 ⟨rfl,kk,rfl⟩)
    | fail)
   have hw6:aa [] w (w5.drewN kk):=((((hw1.trans hu2).trans hu3).trans hu4).trans hu5).drewN _;have ho7:=ay (ay ho4 hu5 σ) ((aa.refl [] w5).drewN kk) σ;clear s1 s2 kc1 kc2 ho4 ho5 hu1 hu2 hu3 hu4 hu5 q10 q11 q12 q13 q20 q21 q22 q23 q30 q31 q32 q33 q40 q41 q42 q43 q50 q51 q52 q53 hw1 hmk;have hgs:(w5.drewN kk).heap.size=w5.heap.size:=rfl;generalize w5.drewN kk=W at *
   have hmB:aI (W.alloc (.cells (madeCells #[.bool false] n) 4)) W.heap.size 4 n (fun j=>.bool (decide (j∈(aU kf n).take 0))):=by
    refine ⟨madeCells #[.bool false] n,?_,by simp [madeCells],fun j hj=>?_⟩
    ·show (W.heap.push _)[W.heap.size]?=_;simp
    ·simp [madeCells,hj,Nat.mod_one]
   rw [hgs] at hmB;refine gB (fun X=>aI X w5.heap.size 4 n (fun j=>.bool (decide (j∈(aU kf n).take 0)))∧aa [] W X) ⟨hmB,β⟩ ?_
   rintro X ⟨hB,hX⟩;have HO:=χ (ψ ho7 (ψ hw6 (ψ hX hB)));clear ho7 hw6 hX hmB hB;generalize w5.heap.size=gb at *
   have HG:=χ hgs;clear hgs;go_wp2
   go_loopw [10,11,67] (fun _ _ v67 wr=>∃i:Nat,i≤n∧v67=.int .i64 (i:Int)∧aI wr gb 4 n (fun j=>.bool (decide (j∈(aU kf n).take i)))∧aa [gb] X wr) (fun _ _ v67 _=>n-(intOf v67).toNat)
   case atStart=>exact ⟨0,Nat.zero_le _,rfl,HO.out.2.2.2,aa.refl _ _⟩
   case round=>
    obtain ⟨i,hi,rfl,hB,hu⟩:=hrel;rename World=>wr
    by_cases hin:i<n
    ·have hiI:(i:Int)<(n:Int):=ω;obtain ⟨ho7,hw6,hX, -⟩:=HO.out;obtain ⟨g1,c1,e1, -,hg1, -, -,hcl, -⟩:=bY ho7 ω;cases e1;rw [HG.out] at hg1;have hsl:=jq kf n;have hcx:∀j,j<n→wr.cell? ⟨g1,j,none⟩=some (.int .i64 (((aU kf n).getD j 0:Nat):Int)):=fun j hj=>by
      have h1:(aH L)[j]?=some (.int .i64 (((aU kf n).getD j 0:Nat):Int)):=by
       rw [HL.out];unfold vw aH;simp [φ,hsl,hj]
      exact hu.kept (hX.was (hcl j _ h1)) ζ
     have hkx:∀j,j<n→∃gk ok,a=some ⟨gk,ok,none⟩∧wr.cell? ⟨gk,ok+j,none⟩=some (.int .i64 (kf j)):=fun j hj=>by
      obtain ⟨gk,ok,e,hgl,hck⟩:=HR.out j hj;have hsw:=hw6.size;have hGb:=HG.out;exact ⟨gk,ok,e,hu.kept (hX.was (hw6.was hck)) ζ⟩
     have hmem:∀j,j<n→(aU kf n).getD j 0<n:=fun j hj=>iU.1 (by rw [φ,List.getElem?_eq_getElem ω];exact List.getElem_mem _)
     have hx:=hmem i hin;have dx:=hcx i hin;obtain ⟨gk,ok,rfl,kx⟩:=hkx _ hx;have hnew:decide ((aU kf n).getD i 0∈(aU kf n).take i)=false:=decide_eq_false (Hq hin);have sx:wr.cell? ⟨gb,(aU kf n).getD i 0,none⟩=some (.bool false):=hB.cellAt _ hx (by rw [hnew])
     have fx:=hB.free ((aU kf n).getD i 0);have hB2:aI (wr.setCell ⟨gb,(aU kf n).getD i 0,none⟩ (.bool true)) gb 4 n (fun j=>.bool (decide (j∈(aU kf n).take (i+1)))):=by
      refine (hB.set _ (.bool true)).ext (fun j hj=>?_)
      have hm:=yw (S:=aU kf n) (i:=i) (j:=j) ω
      by_cases e:j=(aU kf n).getD i 0
      ·rw [if_pos e,decide_eq_true (hm.2 (Or.inr e))]
      ·rw [if_neg e]
       congr 1
       rw [decide_eq_decide,hm];exact ⟨Or.inl,fun h=>h.resolve_right e⟩
     have hwr:IntKind.i64.wrap ((i:Int)+1)=(i:Int)+1:=IntWalk.i64_in _ ω;have HB2:=χ (ψ hB2 hu);have hn2:n≤200:=ω
     by_cases hi0:i=0
     ·subst hi0;clear hB hB2 hcx hkx hmem hnew hX hw6 ho7 hcl hsl hu hn hnI;generalize (aU kf n).getD 0 0=x at *
      generalize kf x=k at *
      have hx0:decide ((x:Int)<0)=false:=σ;have hxn:¬ (x:Int)≥(n:Int):=ω;have hxnd:decide ((x:Int)≥(n:Int))=false:=ζ;have hxI:(x:Int)<(n:Int):=ω;have hxn1:decide (n≤x)=false:=ζ;have hxn2:decide ((n:Int)≤(x:Int))=false:=ζ
      go_wp2_with (fail)
      go_quiet (fail)
      go_wp2_with (fail)
      go_roundw
      case rel=>exact ⟨1,ω,by go_num,HB2.out.1.drewN _,by have:=HB2.out.2;(repeat (first|assumption|exact aa.refl _ _|refine aa.alloc ?_ _|refine aa.drew ?_|refine aa.drewN ?_ _|refine aa.setCell ?_ ?_ _|focus (left;simp;done)|focus (right;simp;done)|focus (right;simp;omega)))⟩
      case measure=>simp [intOf];omega
     ·obtain ⟨i1,rfl⟩:∃i1,i=i1+1:=⟨i-1,ω⟩
      have hlt:=D8 (ks:=kf) (n:=n) (i:=i1) hin;have hy:=hmem i1 ω;have dy:=hcx i1 ω;obtain ⟨gk',ok',e,ky⟩:=hkx _ hy;cases e;have hi1:((i1+1:Nat):Int)-1=(i1:Int):=ω;have hi2:((i1+1:Nat):Int)=(i1:Int)+1:=ω;have hi5:i1+1<n:=hin;unfold Je at hlt;clear hB hB2 hcx hkx hmem hnew hX hw6 ho7 hcl hsl hu hn hnI hi0;generalize (aU kf n).getD (i1+1) 0=x at *
      generalize (aU kf n).getD i1 0=y at *
      generalize kf x=kx' at *
      generalize kf y=ky' at *
      have hx0:decide ((x:Int)<0)=false:=σ;have hxn:¬ (x:Int)≥(n:Int):=ω;have hxnd:decide ((x:Int)≥(n:Int))=false:=ζ;have hxI:(x:Int)<(n:Int):=ω;have hxn1:decide (n≤x)=false:=ζ;have hxn2:decide ((n:Int)≤(x:Int))=false:=ζ;have hyI:(y:Int)<(n:Int):=ω;have hi1I:(i1:Int)<(n:Int):=ω;have hwi:IntKind.i64.wrap (i1:Int)=(i1:Int):=IntWalk.i64_in _ ω;generalize i1+1=i at *
      have hi3:(i:Int)-1=(i1:Int):=hi1;have hgt0:(i:Int) > 0:=ω;have hgk:decide (ky' > kx')=false:=ζ;have hgk2:decide (kx'<ky')=false:=ζ;have hi6:decide (0<i)=true:=ζ;have hi7:decide ((i:Int) > 0)=true:=ζ;have hi4:i<n:=ω;clear hi1 hi2 hin
      by_cases heq:ky'=kx'
      ·have heb:(ky' == kx')=true:=by simpa using heq
       have hyx:decide ((y:Int) > (x:Int))=false:=ζ;have hyx2:decide (x<y)=false:=ζ;clear hlt heq
       go_wp2_with (fail)
       go_quiet (fail)
       go_wp2_with (fail)
       go_roundw
       case rel=>exact ⟨i+1,ω,by go_num,HB2.out.1.drewN _,by have:=HB2.out.2;(repeat (first|assumption|exact aa.refl _ _|refine aa.alloc ?_ _|refine aa.drew ?_|refine aa.drewN ?_ _|refine aa.setCell ?_ ?_ _|focus (left;simp;done)|focus (right;simp;done)|focus (right;simp;omega)))⟩
       case measure=>simp [intOf];omega
      ·have heb:(ky' == kx')=false:=by simpa using heq
       clear hlt heq
       go_wp2_with (fail)
       go_quiet (fail)
       go_wp2_with (fail)
       go_roundw
       case rel=>exact ⟨i+1,ω,by go_num,HB2.out.1.drewN _,by have:=HB2.out.2;(repeat (first|assumption|exact aa.refl _ _|refine aa.alloc ?_ _|refine aa.drew ?_|refine aa.drewN ?_ _|refine aa.setCell ?_ ?_ _|focus (left;simp;done)|focus (right;simp;done)|focus (right;simp;omega)))⟩
       case measure=>simp [intOf];omega
    ·obtain rfl:i=n:=ω;have hiI:¬ (i:Int)<(i:Int):=ω;have hiD:decide ((i:Int)<(i:Int))=false:=σ;have hwg:w.heap.size≤gb:=by rw [←HG.out];exact HO.out.2.1.size
     go_wp2;go_ret;exact ⟨rfl,(HO.out.2.1.trans HO.out.2.2.1).joined hu (fun z hz=>Or.inr (by simp at hz;omega))⟩
  ·have hv:(kX k2 d2 != 0)=true:=by simpa using hc2
   rw [hc1] at kc1;clear hS hb hc1 hc2;generalize kX k2 d2=v at *
   generalize ks.length=n at *
   go_enter Tryz.func5,Tryz.ntmps5
   go_wp2_with (first|((go_at_call 15;(with_reducible refine (dE _).mono ?_));rintro e w1 ⟨rfl,hu1⟩;(have q10:w1.cell? ⟨w.heap.size,0,none⟩=some (.int .i64 k1):=hu1.was γ);(have q11:w1.cell? ⟨w.heap.size,1,none⟩=some (.int .i64 d1):=hu1.was γ);(have q12:w1.cell? ⟨w.heap.size,2,none⟩=some (.int .i64 k2):=hu1.was γ);(have q13:w1.cell? ⟨w.heap.size,3,none⟩=some (.int .i64 d2):=hu1.was γ);(have hw1:aa [] w w1:=aa.trans β hu1))|((go_at_call 18;(with_reducible refine (kc1 _).mono ?_));rintro e w2 ⟨rfl,hu2⟩;(have q20:=hu2.was q10);(have q21:=hu2.was q11);(have q22:=hu2.was q12);(have q23:=hu2.was q13))|((go_at_call 18;(with_reducible refine (kc2 _).mono ?_));rintro e w3 ⟨rfl,hu3⟩;(have q30:=hu3.was q20);(have q31:=hu3.was q21);(have q32:=hu3.was q22);(have q33:=hu3.was q23))|fail)
   go_ret;exact ⟨rfl,(hw1.trans hu2).trans hu3⟩
 ·have hv:(kX k1 d1 != 0)=true:=by simpa using hc1
  clear hS hb hc1 kc2;generalize kX k1 d1=v at *
  generalize ks.length=n at *
  go_enter Tryz.func5,Tryz.ntmps5
  go_wp2_with (first|((go_at_call 15;(with_reducible refine (dE _).mono ?_));rintro e w1 ⟨rfl,hu1⟩;(have q10:w1.cell? ⟨w.heap.size,0,none⟩=some (.int .i64 k1):=hu1.was γ);(have q11:w1.cell? ⟨w.heap.size,1,none⟩=some (.int .i64 d1):=hu1.was γ);(have q12:w1.cell? ⟨w.heap.size,2,none⟩=some (.int .i64 k2):=hu1.was γ);(have q13:w1.cell? ⟨w.heap.size,3,none⟩=some (.int .i64 d2):=hu1.was γ);(have hw1:aa [] w w1:=aa.trans β hu1))|((go_at_call 18;(with_reducible refine (kc1 _).mono ?_));rintro e w2 ⟨rfl,hu2⟩;(have q20:=hu2.was q10);(have q21:=hu2.was q11);(have q22:=hu2.was q12);(have q23:=hu2.was q13))|fail)
  go_ret;exact ⟨rfl,hw1.trans hu2⟩
end Go.Proofs.YtklibcncmbofpaaGreat
