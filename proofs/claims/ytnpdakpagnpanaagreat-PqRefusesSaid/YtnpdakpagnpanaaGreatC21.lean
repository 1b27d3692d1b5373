/-
  Lemmas for PqAlike: PqRe. Conditions: those of each lemma.
-/
import Derived.Test.YtnpdakpagnpanaaGreatC19
set_option linter.all false
set_option maxHeartbeats 8000000
set_option maxRecDepth 10000
namespace Go.Proofs.YtnpdakpagnpanaaGreat
open Tryz
open Go Go.RowKit
theorem CG(w:World)(k1 d1 n m:Int)(hn:0<=n/\n<=255)(hm:0<=m/\m<=4294967295)(o:Option Addr)(len cap:Nat)(h:90<len\/nA k1 d1 m=false) :
  Calls prog 8 #[.agg #[.int .i64 k1,.int .i64 d1,.int .u8 n,.int .u32 m],.slice o len cap] w λe w'=>e=.returned (.bool true)/\ae [] w w':=by
 have ka:=λW=>zQ W k1 d1 n m hn hm;have kc:=λW=>FU W k1 d1 n m;generalize nA k1 d1 m=c1 at *;clear hn hm
 go_enter func8,ntmps8
 (go_upto_region 1 with(fail);refine bG (λX=>X.cell? ⟨w.heap.size,0,none⟩=some (.int .i64 k1)/\X.cell? ⟨w.heap.size,1,none⟩=some (.int .i64 d1)/\X.cell? ⟨w.heap.size,2,none⟩=some (.int .u8 n)/\X.cell? ⟨w.heap.size,3,none⟩=some (.int .u32 m)/\w.heap.size<X.heap.size/\ae [] w X) ⟨γ,γ,γ,γ,σ,β⟩ ?_;rintro W ⟨g0,g1,g2,g3,hl0,hW⟩)
 go_upto_region 4 with (first
  |((go_at_call 10;(with_reducible refine(kg _).mono ?_));rintro e w1 ⟨rfl,hu1⟩;((have g0:=(hu1).was g0);(have g1:=(hu1).was g1);(have g2:=(hu1).was g2);(have g3:=(hu1).was g3);(have hl0:=Ψ hl0 (hu1).size));(have hw1:ae [] w w1:=hW.trans hu1))
  |((go_at_call 23;(with_reducible refine(ka _).mono ?_));rintro e w2 ⟨o2,v2,rfl,⟨x0,x1,x6,a2,n2,e2,a3,n3,e3,a4,n4,e4,a5,n5,e5,rfl⟩,hu2⟩;((have g0:=(hu2).was g0);(have g1:=(hu2).was g1);(have g2:=(hu2).was g2);(have g3:=(hu2).was g3);(have hl0:=Ψ hl0 (hu2).size));(have hw2:=hw1.trans hu2))
  | fail)
 (refine bG (λX=>X.cell? ⟨w.heap.size,0,none⟩=some (.int .i64 k1)/\X.cell? ⟨w.heap.size,1,none⟩=some (.int .i64 d1)/\X.cell? ⟨w.heap.size,2,none⟩=some (.int .u8 n)/\X.cell? ⟨w.heap.size,3,none⟩=some (.int .u32 m)/\w.heap.size<X.heap.size/\ae [] (w2) X) ⟨γ,γ,γ,γ,ζ,(ae.refl _ _).alloc _⟩ ?_;clear g0 g1 g2 g3 hl0;rintro X ⟨g0,g1,g2,g3,hl0,hX⟩)
 have hX2:=hw2.trans hX
 go_upto_region 5 with (first
  |((go_at_call 23;(with_reducible refine(ka _).mono ?_));rintro e w3 ⟨o3,v3,rfl,⟨y0,y1,y6,b2,m2,f2,b3,m3,f3,b4,m4,f4,b5,m5,f5,rfl⟩,hu3⟩;((have g0:=(hu3).was g0);(have g1:=(hu3).was g1);(have g2:=(hu3).was g2);(have g3:=(hu3).was g3);(have hl0:=Ψ hl0 (hu3).size));(have hw3:=hX2.trans hu3))
  | fail)
 (refine bG (λX=>X.cell? ⟨w.heap.size,0,none⟩=some (.int .i64 k1)/\X.cell? ⟨w.heap.size,1,none⟩=some (.int .i64 d1)/\X.cell? ⟨w.heap.size,2,none⟩=some (.int .u8 n)/\X.cell? ⟨w.heap.size,3,none⟩=some (.int .u32 m)/\w.heap.size<X.heap.size/\ae [] (w3) X) ⟨γ,γ,γ,γ,ζ,(ae.refl _ _).alloc _⟩ ?_;clear g0 g1 g2 g3 hl0;rintro X ⟨g0,g1,g2,g3,hl0,hX⟩)
 have hX:=hw3.trans hX;clear ka
 by_cases hL:90<len
 ·have hD:decide ((len:Int) > 90)=true:=Ν ω;clear h;go_wp2;go_ret;exact⟨rfl,hX⟩
 ·have hD:decide ((len:Int) > 90)=false:=Ξ ω;obtain rfl:c1=false:=by simpa[hL] using h
  clear h
  go_wp2_with (first
   |((go_at_call 24;(with_reducible refine(kc _).mono ?_));rintro e w5 ⟨rfl,bW⟩)
   | fail)
  go_ret;exact⟨rfl,hX.trans bW⟩
theorem CR(w:World)(k1 d1:Int)(n m:Nat)(hn:n<=255)(hm:1<=m/\m<=4294967295)(hc1:sG k1 d1=0)(v:Value)(len:Nat)(f:Nat->Ac)(hS:AQ w v len f)(hl:len<=90) :
  Calls prog 8 #[.agg #[.int .i64 k1,.int .i64 d1,.int .u8 n,.int .u32 m],v] w λe w'=>e=.returned (.bool true)/\ae [] w w':=by
 obtain⟨o,cap,rfl, -,hok,hcell⟩:=hS;have G7:=Nat.mod_lt n (show 30 > 0 by omega);obtain⟨K1,TJ⟩:=oD k1 d1 (n % 30) hc1 ω;have ka:=λW=>qI W k1 d1 n m hn hm hc1 TJ;have kb:=ka;have hD:decide ((len:Int) > 90)=false:=Ξ ω;have HR:=χ (ψ hok hcell);clear hn hm hc1 TJ hok hcell G7;generalize YD:(⟨AR.new (n % 30) m,NS.new (n % 30),0⟩:St)=S0 at *;have Jd:S0.q=0:=by rw[←YD]
 clear YD;have HQ:=χ Jd;clear Jd
 go_enter func8,ntmps8
 (go_upto_region 1 with(fail);refine bG (λX=>X.cell? ⟨w.heap.size,0,none⟩=some (.int .i64 k1)/\X.cell? ⟨w.heap.size,1,none⟩=some (.int .i64 d1)/\X.cell? ⟨w.heap.size,2,none⟩=some (.int .u8 n)/\X.cell? ⟨w.heap.size,3,none⟩=some (.int .u32 m)/\w.heap.size<X.heap.size/\ae [] w X) ⟨γ,γ,γ,γ,σ,β⟩ ?_;rintro W ⟨g0,g1,g2,g3,hl0,hW⟩)
 go_upto_region 4 with (first
  |((go_at_call 10;(with_reducible refine(kg _).mono ?_));rintro e w1 ⟨rfl,hu1⟩;((have g0:=(hu1).was g0);(have g1:=(hu1).was g1);(have g2:=(hu1).was g2);(have g3:=(hu1).was g3);(have hl0:=Ψ hl0 (hu1).size));(have hw1:ae [] w w1:=hW.trans hu1))
  |((go_at_call 23;(with_reducible refine(ka _).mono ?_));rintro e w2 ⟨pa,Fa,v2,rfl,YK,YS,hu2,hfa⟩;obtain⟨x0,x1,x6,a2,n2,e2,a3,n3,e3,a4,n4,e4,a5,n5,e5,rfl⟩:=YS.agg;((have g0:=(hu2).was g0);(have g1:=(hu2).was g1);(have g2:=(hu2).was g2);(have g3:=(hu2).was g3);(have hl0:=Ψ hl0 (hu2).size));(have hw2:=hw1.trans hu2))
  | fail)
 have Js:∀x,x∈Fa->w.heap.size<=x:=λx hx=>by have:=hfa x hx;have:=hw1.size;omega
 have hA:=χ (ψ YK Js);clear YK YS hfa Js
 (refine bG (λX=>X.cell? ⟨w.heap.size,0,none⟩=some (.int .i64 k1)/\X.cell? ⟨w.heap.size,1,none⟩=some (.int .i64 d1)/\X.cell? ⟨w.heap.size,2,none⟩=some (.int .u8 n)/\X.cell? ⟨w.heap.size,3,none⟩=some (.int .u32 m)/\w.heap.size<X.heap.size/\ae [] (w2) X) ⟨γ,γ,γ,γ,ζ,(ae.refl _ _).alloc _⟩ ?_;clear g0 g1 g2 g3 hl0;rintro X ⟨g0,g1,g2,g3,hl0,hX⟩)
 have yF:=hw2.trans hX;have hA2:=χ (ψ (aP.ag hA.out.1 hX:fw K1 X pa Fa k1 d1 S0) hA.out.2)
 go_upto_region 5 with (first
  |((go_at_call 23;(with_reducible refine(kb _).mono ?_));rintro e w3 ⟨pb,Fb,v3,rfl,hPb,hDb,hu3,VL⟩;obtain⟨y0,y1,y6,b2,m2,f2,b3,m3,f3,b4,m4,f4,b5,m5,f5,rfl⟩:=hDb.agg;((have g0:=(hu3).was g0);(have g1:=(hu3).was g1);(have g2:=(hu3).was g2);(have g3:=(hu3).was g3);(have hl0:=Ψ hl0 (hu3).size));(have hw3:=yF.trans hu3))
  | fail)
 have hB:=χ (ψ hPb (ψ (aP.ag hA2.out.1 hu3:fw K1 w3 pa Fa k1 d1 S0) (ψ hA2.out.2 (ψ hw3 (ψ (show ∀x,x∈Fb->w.heap.size<=x from λx hx=>by have:=VL x hx;have:=yF.size;omega) (show ∀x,x∈Fa->x∉Fb from λx hx hm=>by have h1:=aP.lt hA2.out.1 x hx;have:=VL x hm;omega))))));clear hPb hDb VL hA hA2 hX yF hu3
 (refine bG (λX=>X.cell? ⟨w.heap.size,0,none⟩=some (.int .i64 k1)/\X.cell? ⟨w.heap.size,1,none⟩=some (.int .i64 d1)/\X.cell? ⟨w.heap.size,2,none⟩=some (.int .u8 n)/\X.cell? ⟨w.heap.size,3,none⟩=some (.int .u32 m)/\w.heap.size<X.heap.size/\ae [] (w3) X) ⟨γ,γ,γ,γ,ζ,(ae.refl _ _).alloc _⟩ ?_;clear g0 g1 g2 g3 hl0;rintro X ⟨g0,g1,g2,g3,hl0,hX⟩)
 have yF:=hw3.trans hX;have hsX:=yF.size;have hC:=χ (ψ (aP.ag hB.out.1 hX:fw K1 X pb Fb k1 d1 S0) (ψ (aP.ag hB.out.2.1 hX:fw K1 X pa Fa k1 d1 S0) (ψ yF (ψ hB.out.2.2.1 (ψ hB.out.2.2.2.2.1 hB.out.2.2.2.2.2)))));clear hB hX yF hw3 hw2 hw1 hu1 hu2 ka kb
 go_upto_region 8 with(fail)
 have hsz:w.heap.size<=X.heap.size:=ω;have HA:Hid (∀Y,Y=X.alloc (.cells #[] 46)->Al K1 K1 w Y pa pb Fa Fb k1 d1 k1 d1 S0 (.slice (some ⟨X.heap.size,0,none⟩) 0 0) []):=λY hY=>by
  subst hY;obtain⟨c1,c2,c3,c4,c5,c6⟩:=hC.out;have hu:ae [] X (X.alloc (.cells #[] 46)):=(ae.refl _ _).alloc _;refine⟨aP.ag c2 hu,aP.ag c1 hu,tT hsz,c3.trans hu,c4,c5,c6,λk hk=>?_,λp hp=>(by cases hp)⟩;cases hk;exact⟨λhm=>absurd (aP.lt c2 _ hm) (Ϝ _),λhm=>absurd (aP.lt c1 _ hm) (Ϝ _)⟩
 go_wp2
 go_loopw [11,13,14,15,58] (λv13 _ _ _ v64 wr=>∃(i:Nat) (l:List Hd) (Fa Fb:List Nat) (S:St),i<=len/\v64=.int .i64 (i:Int)/\Al K1 K1 w wr pa pb Fa Fb k1 d1 k1 d1 S v13 l/\S.q<=i/\l.length<=i) (λ_ _ _ _ v64 _=>len-(intOf v64).toNat)
 case atStart=>exact⟨0,[],Fa,Fb,S0,Nat.zero_le _,rfl,HA.out _ rfl,by rw[HQ.out];exact Θ _,Θ _⟩
 case round=>
  clear HA hC;clear Fa Fb;obtain⟨i,l,Fa,Fb,S,hi,rfl,hW,hq,hll⟩:=hrel;rename World=>wr
  by_cases hil:i<len
  ·skip
   have V5:(i:Int)<(len:Int):=ω;have hwi:IntKind.i64.wrap ((i:Int)+1)=(i:Int)+1:=Μ _ ω;obtain⟨b,off,rfl,hbl,hc⟩:=HR.out.2 i hil;have vK:=HR.out.1 i hil;have hcw:=hc.kept hW.upd σ;generalize f i=A at *;clear hc;obtain⟨op,aa,bb,ss,gg,oo,kk⟩:=A;obtain⟨q0,q1,q2,q3,q4,q5,q6⟩:=hcw;dsimp only at q0 q1 q2 q3 q4 q5 q6;have kp:=λY (hY:ae [] wr Y)=>Am Y _ l ⟨op,aa,bb,ss,gg,oo,kk⟩ vK.wo (hW.hds.ag hY) ω;have CP:=yP ⟨op,aa,bb,ss,gg,oo,kk⟩ vK l hW.gen;generalize xm ⟨op,aa,bb,ss,gg,oo,kk⟩ l=P at *;obtain⟨P1,P2⟩:=P
   have GQ:=λY (hY:ae [] wr Y)=>tJ (aP.ag hW.a hY:fw K1 Y pa Fa k1 d1 S) ⟨op,aa,bb,ss,gg,oo,kk⟩ vK P1 P2 CP ω;have QT:=λY (hY:fw K1 Y pb Fb k1 d1 S)=>tJ hY ⟨op,aa,bb,ss,gg,oo,kk⟩ vK P1 P2 CP ω;have hrg:=Fj (fw.ok hW.a) ⟨op,aa,bb,ss,gg,oo,kk⟩ P1 P2;have hrq:=Rk (S:=S) ⟨op,aa,bb,ss,gg,oo,kk⟩ P1 P2;have Uh:(Ac.run ⟨op,aa,bb,ss,gg,oo,kk⟩ S P1 P2).2.c≠0->Ac.run ⟨op,aa,bb,ss,gg,oo,kk⟩ S P1 P2=(S,sN (Ac.run ⟨op,aa,bb,ss,gg,oo,kk⟩ S P1 P2).2.c):=NY (fw.ok hW.a) _ P1 P2;generalize (Ac.run ⟨op,aa,bb,ss,gg,oo,kk⟩ S P1 P2)=z at *;obtain⟨S',rc,rh,rs,rg,rk,rn⟩:=z;unfold Ac.v at kp GQ QT
   unfold Rp.v at GQ QT;dsimp only at kp GQ QT hrg hrq;have hla:=aP.lt hW.a;have hlb:=aP.lt hW.b;obtain⟨zP,c13,rfl,KI⟩:=aV hW.own;have HW:=χ hW;have HN:=χ (ψ hrg (ψ hrq (ψ hq hll)));clear hW hrg hrq vK CP hq hll;have hl9:l.length<=1000:=by have:=HN.out.2.2.2;omega
   generalize hln:l.length=ln at HN KI kp ⊢;have Ev:=χ hln;clear hln
   go_upto_region 12 with (first
    |((go_at_call 25;(with_reducible refine(kp _ β).mono ?_));rintro e w3 ⟨rfl,hu3⟩)
    | fail)
   have hs3:=hu3.size;simp at hs3;refine bG (λY=>Q7 Y wr.heap.size op aa bb ss gg oo kk/\Q2 Y w3.heap.size P1 P2/\ae [] wr Y/\w3.heap.size<Y.heap.size) ⟨Q7.kept (S:=[]) (Q7.kept (W:=wr.alloc _) {} hu3 σ) β σ,{},((ae.refl _ _).alloc _).trans (hu3.trans β),σ⟩ ?_;rintro Y ⟨hp,ht,hY,hYl⟩;clear hu3 kp q0 q1 q2 q3 q4 q5 q6;have Lp:wr.heap.size∉Fa:=λhm=>by have:=hla _ hm;omega
   have LZ:w3.heap.size∉Fa:=λhm=>by have:=hla _ hm;omega
   have Fu:=GQ Y hY;clear GQ;obtain⟨p0,p1,p2,p3,p4,p5,p6⟩:=id hp;obtain⟨t0,t1⟩:=id ht
   go_upto_region 13 with (first
    |((go_at_call 26;(with_reducible refine(Fu).mono ?_));rintro e w4 ⟨rfl,F1,hP1,fU,hf1⟩;(have QA:=hp.kept fU Lp);(have YU:=ht.kept fU LZ))
    | fail)
   have hs4:=fU.size;refine bG (λZ=>Q7 Z wr.heap.size op aa bb ss gg oo kk/\Q2 Z w3.heap.size P1 P2/\Q6 Z w4.heap.size rc rh rs rg rk rn/\ae [] w4 Z/\w4.heap.size<Z.heap.size) ⟨QA.kept (S:=[]) β σ,YU.kept (S:=[]) β σ,{},β,σ⟩ ?_;clear p0 p1 p2 p3 p4 p5 p6 t0 t1 hp ht QA YU;rintro Z ⟨hp,ht,hr,hZ,hZl⟩;have GA:=χ Uh;clear Uh
   by_cases hrc:rc=0
   ·subst hrc;obtain⟨r0,r1,r2,r3,r4,r5⟩:=id hr
    go_upto_region 16 with(fail)
    clear r0 r1 r2 r3 r4 r5;have Mw:wr.heap.size∉Fb:=λhm=>by have:=hlb _ hm;omega
    have UB:w3.heap.size∉Fb:=λhm=>by have:=hlb _ hm;omega
    have Ml:w4.heap.size∉Fb:=λhm=>by have:=hlb _ hm;omega
    have hYb:fw K1 Y pb Fb k1 d1 S:=aP.ag HW.out.b hY;have hZb:fw K1 Z pb Fb k1 d1 S:=aP.ag (aP.upd hYb fU (λx hx=>HW.out.ab x hx)) hZ;have SQ:=λX (hX:ae [] Z X)=>QT X (aP.ag hZb hX);have h1b:∀x,x∈Fb->x∉F1:=λx hx hm=>by
     rcases hf1 x hm with h|h
     ·exact HW.out.ab x h hx
     ·have:=hlb x hx;have:=hY.size;omega
    have kla:=λX (hX:ae Fb Z X)=>pY (aP.upd (aP.ag hP1 hZ:fw K1 Z pa F1 k1 d1 S') hX h1b);obtain⟨ep0,ep1,ep2,ep3,ep4,ep5,ep6⟩:=hp.rules Mw;obtain⟨et0,et1⟩:=ht.rules UB;obtain⟨eu0,eu1,Zw,eu3,eu4,eu5⟩:=hr.rules Ml;have HZ:=χ (ψ hP1 (ψ fU (ψ hf1 (ψ hZ hY))));have ZC:ae Fb Z Z:=ae.refl _ _;clear hP1 fU hf1 hZ hY hYb hZb QT Fu h1b
    go_region_held3 (ae Fb Z) (exact ν)
     (first
      |((go_at_call 26;(with_reducible refine(SQ _ ν).mono ?_));rintro e w5 ⟨rfl,F2,hP2,bW,hf2⟩;(have hv5:ae Fb Z w5:=ae.trans ν bW);(have klb:=λX (hX:ae [] w5 X)=>pY (aP.ag hP2 hX)))
      |((go_at_call 15;(with_reducible refine(kla _ ν).mono ?_));rintro e w6 ⟨rfl,rfl⟩)
      | ((go_at_call 15;(with_reducible refine (klb _ ν).mono ?_));rintro e w7 ⟨rfl,rfl⟩))
    go_upto_region 18 with(fail)
    refine bG (λV=>Q7 V wr.heap.size op aa bb ss gg oo kk/\Q6 V w4.heap.size 0 rh rs rg rk rn/\fw K1 V pb F2 k1 d1 S'/\ae Fb Z V) ⟨hp.kept hv5 Mw,hr.kept hv5 Ml,hP2,hv5⟩ ?_;clear hP2 hv5 bW klb kla SQ ep0 ep1 ep2 ep3 ep4 ep5 ep6 et0 et1 eu0 eu1 Zw eu3 eu4 eu5 ZC hp ht hr;rintro V ⟨⟨p0,p1,p2,p3,p4,p5,p6⟩,⟨u0,u1,u2,u3,u4,u5⟩,hP2,hv5⟩;have HV:Hid (Al K1 K1 w V pa pb F1 F2 k1 d1 k1 d1 S' (.slice zP ln c13) l):=by
     obtain⟨hP1,fU,hf1,hZ,hY⟩:=HZ.out;rw[←Ev.out];exact Al.both (HW.out.ag hY) hP1 fU hf1 hZ hP2 hv5 hf2
    obtain⟨hrg,hrq,hq,Rc⟩:=HN.out;have hll:l.length<=i:=by rw[Ev.out];exact Rc
    have hsV:=HV.out.upd.size;have hown:=HV.out.own;clear hP2 hv5 hf2 hla hlb Lp LZ Mw UB Ml
    by_cases hop:op=2
    ·subst hop
     go_wp2_with (first
      |(at_builtin;refine lq rfl _ _ rfl w.heap.size _ _ l rfl (ak hown ((ae.refl [] _).alloc _) σ) _ (rs,rg) rfl γ γ ω ζ ?_;intro v7 w8 JU wD Kb)
      | fail)
     go_roundw
     case rel=>exact⟨i+1,l++[(rs,rg)],F1,F2,S',hil,by go_num,(HV.out.ag ((ae.refl [] _).alloc _)).push JU wD Kb hrg,ω,ζ⟩
     case measure=>simp[intOf];omega
    ·have hopB:(op == 2)=false:=by simpa using hop
     clear hop hown;go_wp2
     go_roundw
     case rel=>exact⟨i+1,l,F1,F2,S',hil,by go_num,HV.out,ω,ω⟩
     case measure=>simp[intOf];omega
   ·have e:=GA.out hrc;unfold sN at e;simp only[Prod.mk.injEq,Rp.mk.injEq] at e;obtain⟨rfl, -,rfl,rfl,rfl,rfl,rfl⟩:=e;have aaL:(rc != 0)=true:=by simpa using hrc
    have HV:Hid (∀V,ae [] Z V->Al K1 K1 w V pa pb F1 Fb k1 d1 k1 d1 S' (.slice zP ln c13) l):=λV hV=>by
     rw[←Ev.out];exact Al.both (HW.out.ag hY) hP1 fU hf1 hZ (aP.ag (aP.ag (aP.upd (aP.ag HW.out.b hY) fU (λx hx=>HW.out.ab x hx)) hZ) hV) (hV.mono σ) (λx hx=>Α hx)
    obtain⟨hrg,hrq,hq,Rc⟩:=HN.out;have hll:l.length<=i:=by rw[Ev.out];exact Rc
    obtain⟨r0,r1,r2,r3,r4,r5⟩:=hr;clear hrc GA hP1 fU hf1 hZ hY QT Fu hp ht;go_wp2
    go_roundw
    case rel=>exact⟨i+1,l,F1,Fb,S',hil,by go_num,HV.out _ β,ω,ω⟩
    case measure=>simp[intOf];omega
  ·obtain rfl:len=i:=ω;have V5:¬(len:Int)<(len:Int):=ω;obtain⟨zP,c13,rfl,KI⟩:=aV hW.own;have HW:=χ hW;have hl9:l.length<=1000:=ω;clear hW;go_wp2
   go_loopw [17,18,19,20,21,101] (λ_ _ _ _ _ v wr=>∃(j:Nat) (Fa Fb:List Nat),j<=l.length/\v=.int .i64 (j:Int)/\Al K1 K1 w wr pa pb Fa Fb k1 d1 k1 d1 S (.slice zP l.length c13) l) (λ_ _ _ _ _ v _=>l.length-(intOf v).toNat)
   case atStart=>exact⟨0,Fa,Fb,Nat.zero_le _,rfl,HW.out⟩
   case round=>
    clear HW;clear Fa Fb;obtain⟨j,Fa,Fb,hj,rfl,hW⟩:=hrel;rename World=>wq
    by_cases hjl:j<l.length
    ·have JX:(j:Int)<(l.length:Int):=ω;have hwj:IntKind.i64.wrap ((j:Int)+1)=(j:Int)+1:=Μ _ ω;obtain⟨a0,cap0,e0, -, -,hcell⟩:=hW.hds;obtain⟨g,off,rfl,hgl, -,c0,c1⟩:=hcell j (l[j]) (by rw[ε hjl]);cases e0;have hg:=hW.gen l[j] (Ϙ hjl);generalize l[j]=P at *;obtain⟨P1,P2⟩:=P;dsimp only at c0 c1 hg;have kka:=λX (hX:ae [] wq X)=>uH (aP.ag hW.a hX:fw K1 X pa Fa k1 d1 S) P1 P2 hg;have kkb:=λX (hX:fw K1 X pb Fb k1 d1 S)=>uH hX P1 P2 hg;have hla:=aP.lt hW.a;have HW:=χ hW;generalize (kV S P1 P2).2.k=ky at *;generalize (kV S P1 P2).2.c=kc at *;clear hW hcell
     go_upto_region 24 with(fail)
     refine bG (λY=>Y.cell? ⟨wq.heap.size,0,none⟩=some (.int .i64 P1)/\Y.cell? ⟨wq.heap.size,1,none⟩=some (.int .u32 P2)/\ae [] wq Y/\wq.heap.size<Y.heap.size) ⟨γ,γ,β,σ⟩ ?_;rintro Y ⟨t0,t1,hY,hYl⟩;have b17a:wq.heap.size∉Fa:=λhm=>by have:=hla _ hm;omega
     have kka':=kka Y hY;clear kka c0 c1
     go_upto_region 25 with (first
      |((go_at_call 30;(with_reducible refine(kka').mono ?_));rintro e w4 ⟨rfl,F1,hP1,fU,hf1⟩;(have t0:=fU.kept t0 b17a);(have t1:=fU.kept t1 b17a))
      | fail)
     have kkb':=kkb w4 (aP.upd (aP.ag HW.out.b hY) fU (λx hx=>HW.out.ab x hx));have HZ:=χ (ψ hP1 (ψ fU (ψ hf1 hY)));clear kkb kka' hP1 fU hf1 hY
     go_wp2_with (first
      |((go_at_call 30;(with_reducible refine(kkb').mono ?_));rintro e w5 ⟨rfl,F2,hP2,bW,hf2⟩)
      | fail)
     go_roundw
     case rel=>
      obtain⟨hP1,fU,hf1,hY⟩:=HZ.out;exact⟨j+1,F1,F2,hjl,by go_num,Al.both (HW.out.ag hY) hP1 fU hf1 (ae.refl _ _) hP2 bW hf2⟩
     case measure=>simp[intOf];omega
    ·obtain rfl:j=l.length:=ω;have JX:¬(l.length:Int)<(l.length:Int):=ω;have hu:=hW.upd;clear hW;go_wp2;go_ret;exact⟨rfl,hu⟩
theorem CU(w:World)(k1 d1:Int)(n m:Int)(hn:0<=n/\n<=255)(hm:0<=m/\m<=4294967295)(v:Value)(len:Nat)(f:Nat->Ac)(hS:AQ w v len f) :
  Calls prog 8 #[.agg #[.int .i64 k1,.int .i64 d1,.int .u8 n,.int .u32 m],v] w λe w'=>e=.returned (.bool true)/\ae [] w w':=by
 by_cases h:90<len\/nA k1 d1 m=false
 ·obtain⟨o,cap,rfl, -, -, -⟩:=hS;exact CG w k1 d1 n m hn hm o len cap h
 ·obtain⟨n,rfl⟩:∃k:Nat,n=k:=⟨n.toNat,ω⟩;obtain⟨m,rfl⟩:∃k:Nat,m=k:=⟨m.toNat,ω⟩;simp only[not_or,Bool.not_eq_false] at h;obtain⟨h1,h2⟩:=h;unfold nA at h2;simp at h2;exact CR w k1 d1 n m ω ω h2.1 v len f hS ω
end Go.Proofs.YtnpdakpagnpanaaGreat
