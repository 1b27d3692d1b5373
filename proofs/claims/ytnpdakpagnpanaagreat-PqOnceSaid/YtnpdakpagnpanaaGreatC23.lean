/-
  Lemmas for PqAlike: PqOn. Conditions: those of each lemma.
-/
import Derived.Test.YtnpdakpagnpanaaGreatC22
set_option linter.all false
set_option maxHeartbeats 8000000
set_option maxRecDepth 10000
namespace Go.Proofs.YtnpdakpagnpanaaGreat
open Tryz
open Go Go.RowKit
theorem K5(w:World)(k1 d1 n m:Int)(hn:0<=n/\n<=255)(hm:0<=m/\m<=4294967295)(o:Option Addr)(len cap:Nat)(h:90<len\/nA k1 d1 m=false) :
  Calls prog 9 #[.agg #[.int .i64 k1,.int .i64 d1,.int .u8 n,.int .u32 m],.slice o len cap] w λe w'=>e=.returned (.bool true)/\ae [] w w':=by
 have ka:=λW=>zQ W k1 d1 n m hn hm;have kc:=λW=>FU W k1 d1 n m;generalize nA k1 d1 m=c1 at *;clear hn hm
 go_enter func9,ntmps9
 (go_upto_region 1 with(fail);refine bG (λX=>X.cell? ⟨w.heap.size,0,none⟩=some (.int .i64 k1)/\X.cell? ⟨w.heap.size,1,none⟩=some (.int .i64 d1)/\X.cell? ⟨w.heap.size,2,none⟩=some (.int .u8 n)/\X.cell? ⟨w.heap.size,3,none⟩=some (.int .u32 m)/\w.heap.size<X.heap.size/\ae [] w X) ⟨γ,γ,γ,γ,σ,β⟩ ?_;rintro W ⟨g0,g1,g2,g3,hl0,hW⟩)
 go_upto_region 4 with (first
  |((go_at_call 10;(with_reducible refine(kg _).mono ?_));rintro e w1 ⟨rfl,hu1⟩;((have g0:=(hu1).was g0);(have g1:=(hu1).was g1);(have g2:=(hu1).was g2);(have g3:=(hu1).was g3);(have hl0:=Ψ hl0 (hu1).size));(have hw1:ae [] w w1:=hW.trans hu1))
  |((go_at_call 23;(with_reducible refine(ka _).mono ?_));rintro e w2 ⟨o2,v2,rfl,⟨x0,x1,x6,a2,n2,e2,a3,n3,e3,a4,n4,e4,a5,n5,e5,rfl⟩,hu2⟩;((have g0:=(hu2).was g0);(have g1:=(hu2).was g1);(have g2:=(hu2).was g2);(have g3:=(hu2).was g3);(have hl0:=Ψ hl0 (hu2).size));(have hw2:=hw1.trans hu2))
  | fail)
 (refine bG (λX=>X.cell? ⟨w.heap.size,0,none⟩=some (.int .i64 k1)/\X.cell? ⟨w.heap.size,1,none⟩=some (.int .i64 d1)/\X.cell? ⟨w.heap.size,2,none⟩=some (.int .u8 n)/\X.cell? ⟨w.heap.size,3,none⟩=some (.int .u32 m)/\w.heap.size<X.heap.size/\ae [] (w2) X) ⟨γ,γ,γ,γ,ζ,(ae.refl _ _).alloc _⟩ ?_;clear g0 g1 g2 g3 hl0;rintro X ⟨g0,g1,g2,g3,hl0,hX⟩)
 have hX:=hw2.trans hX;clear ka
 by_cases hL:90<len
 ·have hD:decide ((len:Int) > 90)=true:=Ν ω;clear h;go_wp2;go_ret;exact⟨rfl,hX⟩
 ·have hD:decide ((len:Int) > 90)=false:=Ξ ω;obtain rfl:c1=false:=by simpa[hL] using h
  clear h
  go_wp2_with (first
   |((go_at_call 24;(with_reducible refine(kc _).mono ?_));rintro e w5 ⟨rfl,bW⟩)
   | fail)
  go_ret;exact⟨rfl,hX.trans bW⟩
theorem Mf(w:World)(k1 d1:Int)(n m:Nat)(hn:n<=255)(hm:1<=m/\m<=4294967295)(hc1:sG k1 d1=0)(v:Value)(len:Nat)(f:Nat->Ac)(hS:AQ w v len f)(hl:len<=90) :
  Calls prog 9 #[.agg #[.int .i64 k1,.int .i64 d1,.int .u8 n,.int .u32 m],v] w λe w'=>e=.returned (.bool true)/\ae [] w w':=by
 obtain⟨o,cap,rfl, -,hok,hcell⟩:=hS;have G7:=Nat.mod_lt n (show 30 > 0 by omega);obtain⟨K1,TJ⟩:=oD k1 d1 (n % 30) hc1 ω;have ka:=λW=>qI W k1 d1 n m hn hm hc1 TJ;have hD:decide ((len:Int) > 90)=false:=Ξ ω;have HR:=χ (ψ hok hcell);have hS00:=Ua (n % 30) m 0 (NS.new (n % 30));clear hn hm hc1 TJ hok hcell G7;generalize YD:(⟨AR.new (n % 30) m,NS.new (n % 30),0⟩:St)=S0 at *;have Jd:S0.q=0:=by rw[←YD]
 clear YD;have HQ:=χ (ψ Jd hS00);clear Jd hS00
 go_enter func9,ntmps9
 (go_upto_region 1 with(fail);refine bG (λX=>X.cell? ⟨w.heap.size,0,none⟩=some (.int .i64 k1)/\X.cell? ⟨w.heap.size,1,none⟩=some (.int .i64 d1)/\X.cell? ⟨w.heap.size,2,none⟩=some (.int .u8 n)/\X.cell? ⟨w.heap.size,3,none⟩=some (.int .u32 m)/\w.heap.size<X.heap.size/\ae [] w X) ⟨γ,γ,γ,γ,σ,β⟩ ?_;rintro W ⟨g0,g1,g2,g3,hl0,hW⟩)
 go_upto_region 4 with (first
  |((go_at_call 10;(with_reducible refine(kg _).mono ?_));rintro e w1 ⟨rfl,hu1⟩;((have g0:=(hu1).was g0);(have g1:=(hu1).was g1);(have g2:=(hu1).was g2);(have g3:=(hu1).was g3);(have hl0:=Ψ hl0 (hu1).size));(have hw1:ae [] w w1:=hW.trans hu1))
  |((go_at_call 23;(with_reducible refine(ka _).mono ?_));rintro e w2 ⟨pa,Fa,v2,rfl,YK,YS,hu2,hfa⟩;obtain⟨x0,x1,x6,a2,n2,e2,a3,n3,e3,a4,n4,e4,a5,n5,e5,rfl⟩:=YS.agg;((have g0:=(hu2).was g0);(have g1:=(hu2).was g1);(have g2:=(hu2).was g2);(have g3:=(hu2).was g3);(have hl0:=Ψ hl0 (hu2).size));(have hw2:=hw1.trans hu2))
  | fail)
 have Js:∀x,x∈Fa->w.heap.size<=x:=λx hx=>by have:=hfa x hx;have:=hw1.size;omega
 have hA:=χ (ψ YK Js);clear YK YS hfa Js
 (refine bG (λX=>X.cell? ⟨w.heap.size,0,none⟩=some (.int .i64 k1)/\X.cell? ⟨w.heap.size,1,none⟩=some (.int .i64 d1)/\X.cell? ⟨w.heap.size,2,none⟩=some (.int .u8 n)/\X.cell? ⟨w.heap.size,3,none⟩=some (.int .u32 m)/\w.heap.size<X.heap.size/\ae [] (w2) X) ⟨γ,γ,γ,γ,ζ,(ae.refl _ _).alloc _⟩ ?_;clear g0 g1 g2 g3 hl0;rintro X ⟨g0,g1,g2,g3,hl0,hX⟩)
 have yF:=hw2.trans hX;have hsX:=yF.size;have hC:=χ (ψ (aP.ag hA.out.1 hX:fw K1 X pa Fa k1 d1 S0) (ψ yF hA.out.2));clear hA hX yF hw2 hw1 hu1 hu2 ka
 go_upto_region 6 with(fail)
 have HA:Hid (∀Y,Y=((X.alloc (.cells #[] 46)).alloc (.cells #[] 46)).alloc (.cells #[] 3)->sO K1 w Y pa Fa k1 d1 S0 (.slice (some ⟨X.heap.size,0,none⟩) 0 0) (.slice (some ⟨X.heap.size+1,0,none⟩) 0 0) (.slice (some ⟨X.heap.size+1+1,0,none⟩) 0 0) [] [] []):=λY hY=>by
  obtain⟨c2,c3,c4⟩:=hC.out;have hu:ae [] X Y:=by rw[hY];exact β
  have hl0:=aP.lt c2;have k1':=tT (w:=X) (e:=46) (base:=w.heap.size) (size:=2) ω;have k2':=tT (w:=X.alloc (.cells #[] 46)) (e:=46) (base:=w.heap.size) (size:=2) ζ;have k3':=tT (w:=(X.alloc (.cells #[] 46)).alloc (.cells #[] 46)) (e:=3) (base:=w.heap.size) (size:=1) ζ;simp only[Κ] at k2' k3';rw[←hY] at k3';refine⟨aP.ag c2 hu,?_,?_,k3',c3.trans hu,c4,λk hk=>?_,λk hk=>?_,λk hk=>?_⟩
  ·rw[hY];exact ak k1' (((ae.refl [] _).alloc _).alloc _) σ
  ·rw[hY];exact ak k2' ((ae.refl [] _).alloc _) σ
  ·cases hk;exact⟨λhm=>absurd (hl0 _ hm) (Ϝ _),λh=>absurd (Option.some.inj h) (by show ¬X.heap.size+1=X.heap.size;omega),λh=>absurd (Option.some.inj h) (by show ¬X.heap.size+1+1=X.heap.size;omega)⟩
  ·cases hk;exact⟨λhm=>absurd (hl0 _ hm) (by show ¬X.heap.size+1<X.heap.size;omega),λh=>absurd (Option.some.inj h) (by show ¬X.heap.size+1+1=X.heap.size+1;omega)⟩
  ·cases hk;exact λhm=>absurd (hl0 _ hm) (by show ¬X.heap.size+1+1<X.heap.size;omega)
 go_wp2
 go_loopw [8,9,10,12,13,14,16,18,19,20,22,23,24,53] (λv8 v9 v10 _ _ _ _ _ _ _ _ _ _ v53 wr=>∃(i:Nat) (l l2:List Hd) (l3:List Int) (Fa:List Nat) (S:St),i<=len/\v53=.int .i64 (i:Int)/\sO K1 w wr pa Fa k1 d1 S v8 v9 v10 l l2 l3/\zF S l l2 l3/\S.q<=i/\l.length<=i/\l2.length<=i/\l3.length<=i) (λ_ _ _ _ _ _ _ _ _ _ _ _ _ v53 _=>len-(intOf v53).toNat)
 case atStart=>exact⟨0,[],[],[],Fa,S0,Nat.zero_le _,rfl,HA.out _ rfl,HQ.out.2,by rw[HQ.out.1];exact Θ _,Θ _,Θ _,Θ _⟩
 case round=>
  clear HA hC;clear Fa;obtain⟨i,l,l2,l3,Fa,S,hi,rfl,hW,hon,hq,hll,hl2,hl3⟩:=hrel;rename World=>wr
  by_cases hil:i<len
  ·skip
   have V5:(i:Int)<(len:Int):=ω;have hwi:IntKind.i64.wrap ((i:Int)+1)=(i:Int)+1:=Μ _ ω;obtain⟨b,off,rfl,hbl,hc⟩:=HR.out.2 i hil;have vK:=HR.out.1 i hil;have hcw:=hc.kept hW.upd σ;generalize f i=A at *;clear hc;obtain⟨op,aa,bb,ss,gg,oo,kk⟩:=A;obtain⟨q0,q1,q2,q3,q4,q5,q6⟩:=hcw;dsimp only at q0 q1 q2 q3 q4 q5 q6;have kp:=λY (hY:ae [] wr Y)=>Am Y _ l ⟨op,aa,bb,ss,gg,oo,kk⟩ vK.wo (hW.hds.ag hY) ω;have CP:=yP ⟨op,aa,bb,ss,gg,oo,kk⟩ vK l (hW.gen hon);generalize xm ⟨op,aa,bb,ss,gg,oo,kk⟩ l=P at *;obtain⟨P1,P2⟩:=P
   have GQ:=λY (hY:ae [] wr Y)=>tJ (aP.ag hW.a hY:fw K1 Y pa Fa k1 d1 S) ⟨op,aa,bb,ss,gg,oo,kk⟩ vK P1 P2 CP ω;have hrg:=Fj (fw.ok hW.a) ⟨op,aa,bb,ss,gg,oo,kk⟩ P1 P2;have hrq:=Rk (S:=S) ⟨op,aa,bb,ss,gg,oo,kk⟩ P1 P2;have Uh:(Ac.run ⟨op,aa,bb,ss,gg,oo,kk⟩ S P1 P2).2.c≠0->Ac.run ⟨op,aa,bb,ss,gg,oo,kk⟩ S P1 P2=(S,sN (Ac.run ⟨op,aa,bb,ss,gg,oo,kk⟩ S P1 P2).2.c):=NY (fw.ok hW.a) _ P1 P2;have hstp:=λhc=>hon.step (fw.ok hW.a) ⟨op,aa,bb,ss,gg,oo,kk⟩ P1 P2 hc;have GA:=χ (ψ Uh (ψ hstp hon));clear Uh hstp hon;dsimp only at GA;generalize (Ac.run ⟨op,aa,bb,ss,gg,oo,kk⟩ S P1 P2)=z at *
   obtain⟨S',rc,rh,rs,rg,rk,rn⟩:=z;unfold Ac.v at kp GQ;unfold Rp.v at GQ;dsimp only at kp GQ hrg hrq;have hlo:=hW.upd.size;have hla:=aP.lt hW.a;obtain⟨zP,c13,rfl,KI⟩:=aV hW.o1;obtain⟨a9,c9,rfl,hc9⟩:=aV hW.o2;obtain⟨JZ,c10,rfl,hc10⟩:=aV hW.o3;have HW:=χ hW;have HN:=χ (ψ hrg (ψ hrq (ψ hq hll)));clear hW hrg hrq vK CP hq hll;have hl9:l.length<=1000:=by have:=HN.out.2.2.2;omega
   have HL23:=χ (ψ hl2 hl3);clear hl2 hl3;generalize hln:l.length=ln at HN KI kp ⊢;generalize hln2:l2.length=zy at hc9 ⊢;generalize hln3:l3.length=AL at hc10 ⊢;have Ev:=χ (ψ hln (ψ hln2 hln3));clear hln hln2 hln3
   go_upto_region 12 with (first
    |((go_at_call 25;(with_reducible refine(kp _ β).mono ?_));rintro e w3 ⟨rfl,hu3⟩)
    | fail)
   have hs3:=hu3.size;simp at hs3;refine bG (λY=>Q7 Y wr.heap.size op aa bb ss gg oo kk/\Q2 Y w3.heap.size P1 P2/\ae [] wr Y/\w3.heap.size<Y.heap.size) ⟨Q7.kept (S:=[]) (Q7.kept (W:=wr.alloc _) {} hu3 σ) β σ,{},((ae.refl _ _).alloc _).trans (hu3.trans β),σ⟩ ?_;rintro Y ⟨hp,ht,hY,hYl⟩;clear hu3 kp q0 q1 q2 q3 q4 q5 q6;have Lp:wr.heap.size∉Fa:=λhm=>by have:=hla _ hm;omega
   have LZ:w3.heap.size∉Fa:=λhm=>by have:=hla _ hm;omega
   have Fu:=GQ Y hY;clear GQ;obtain⟨p0,p1,p2,p3,p4,p5,p6⟩:=id hp;obtain⟨t0,t1⟩:=id ht
   go_upto_region 13 with (first
    |((go_at_call 26;(with_reducible refine(Fu).mono ?_));rintro e w4 ⟨rfl,F1,hP1,fU,hf1⟩;(have QA:=hp.kept fU Lp);(have YU:=ht.kept fU LZ))
    | fail)
   have hs4:=fU.size;refine bG (λZ=>Q7 Z wr.heap.size op aa bb ss gg oo kk/\Q2 Z w3.heap.size P1 P2/\Q6 Z w4.heap.size rc rh rs rg rk rn/\ae [] w4 Z/\w4.heap.size<Z.heap.size) ⟨QA.kept (S:=[]) β σ,YU.kept (S:=[]) β σ,{},β,σ⟩ ?_;clear p0 p1 p2 p3 p4 p5 p6 t0 t1 hp ht QA YU;rintro Z ⟨hp,ht,hr,hZ,hZl⟩;have HV:Hid (∀V,ae [] Z V->sO K1 w V pa F1 k1 d1 S' (.slice zP ln c13) (.slice a9 zy c9) (.slice JZ AL c10) l l2 l3):=λV hV=>by
    rw[←Ev.out.1,←Ev.out.2.1,←Ev.out.2.2];exact((HW.out.ag hY).go hP1 fU hf1).ag (hZ.trans hV)
   clear hP1 fU hf1 hZ hY Fu;obtain⟨p0,p1,p2,p3,p4,p5,p6⟩:=hp;obtain⟨t0,t1⟩:=ht;obtain⟨r0,r1,r2,r3,r4,r5⟩:=hr;have hll:l.length<=i:=by rw[Ev.out.1];exact HN.out.2.2.2
   obtain⟨hl2,hl3⟩:=HL23.out;have hrg:=HN.out.1;have hVZ:=HV.out Z (ae.refl _ _);have hsV:=hVZ.upd.size;have ho1:=hVZ.o1;have ho2:=hVZ.o2;have ho3:=hVZ.o3;have HDS:=χ hVZ.hds;have hls:=ψ hll (ψ hl2 hl3);have Gs:=χ hls;clear hla hVZ hls;obtain⟨h2,hrc⟩|⟨h4,hrc⟩|⟨h6,hrc⟩|⟨h7,hrc⟩|⟨n2,n4,n6,n7,hrc⟩|hrc:(op=2/\rc=0)\/(op=4/\rc=0)\/(op=6/\rc=0)\/(op=7/\rc=0)\/(op≠2/\op≠4/\op≠6/\op≠7/\rc=0)\/rc≠0:=by
    by_cases hrc:rc=0
    ·by_cases h2:op=2
     ·exact Α ⟨h2,hrc⟩
     ·by_cases h4:op=4
      ·exact Β (Α ⟨h4,hrc⟩)
      ·by_cases h6:op=6
       ·exact Β (Β (Α ⟨h6,hrc⟩))
       ·by_cases h7:op=7
        ·exact Β (Β (Β (Α ⟨h7,hrc⟩)))
        ·exact Β (Β (Β (Β (Α ⟨h2,h4,h6,h7,hrc⟩))))
    ·exact Β (Β (Β (Β (Β hrc))))
   case' inl=>
    subst h2 hrc;obtain⟨hne,hon'⟩:=(GA.out.2.1 rfl).1 rfl;have Gl:=χ (ψ hne hon');clear GA hne hon' hl2 hl3 ho2 ho3;have hln9:ln<=1000:=by rw[←Ev.out.1];exact hl9
    go_upto_region 15 with(fail)
    go_wp2
    go_loopw [16,74] (λ_ v74 wl=>∃j:Nat,j<=ln/\v74=.int .i64 (j:Int)/\ae [] Z wl) (λ_ v74 _=>ln-(intOf v74).toNat)
    case atStart=>exact⟨0,Nat.zero_le _,rfl,ae.refl _ _⟩
    case' round=>
     obtain⟨j,hj,rfl,QU⟩:=hrel;rename World=>wl
     by_cases hjl:j<ln
     ·have JX:(j:Int)<(ln:Int):=ω;have hwj:IntKind.i64.wrap ((j:Int)+1)=(j:Int)+1:=Μ _ ω;have Jh:j<l.length:=by rw[Ev.out.1];exact hjl
      obtain⟨a0,cap0,e0, -, -,hcell⟩:=HDS.out;obtain⟨g,off,rfl,hgl, -,c0,c1⟩:=hcell j (l[j]) (by rw[ε Jh]);have hne:=Gl.out.1 l[j] (Ϙ Jh);generalize l[j]=Q at *;obtain⟨Q1,Q2⟩:=Q;have e1:zP=some ⟨g,off,none⟩:=by injection e0
      subst e1;have d0:=QU.was c0;have d1':=QU.was c1;have z2:=QU.was r2;have z3:=QU.was r3;have hzl:=Ε _ _ z2;clear hcell e0 c0 c1
      by_cases h1:Q1=rs
      ·have h2:(Q2 == rg)=false:=by
        simp only[beq_eq_false_iff_ne];intro e;exact hne (by rw[h1,e])
       subst h1;clear hne;go_wp2
       go_roundw
       case rel=>exact⟨j+1,hjl,by go_num,QU.trans β⟩
       case measure=>simp[intOf];omega
      ·have h1B:(Q1 == rs)=false:=by simpa using h1
       clear hne;go_wp2
       go_roundw
       case rel=>exact⟨j+1,hjl,by go_num,QU.trans β⟩
       case measure=>simp[intOf];omega
     obtain rfl:ln=j:=ω;have JX:¬(ln:Int)<(ln:Int):=ω;have z2:=QU.was r2;have z3:=QU.was r3;have hsl:=QU.size;have ho1':=ak ho1 QU σ;clear ho1
     go_upto_region 28 with (first
     |(at_builtin;refine lq rfl _ _ rfl w.heap.size _ _ l rfl (ak ho1' ((ae.refl [] _).alloc _) σ) _ (rs,rg) rfl γ γ ω ζ ?_;intro v7 w8 JU wD Kb)
     | fail)
     refine bG (λV=>sO K1 w V pa F1 k1 d1 S' v7 (.slice a9 zy c9) (.slice JZ AL c10) (l++[(rs,rg)]) l2 l3) ((HV.out _ (QU.alloc _)).ael JU wD Kb) ?_;rintro V zf;obtain⟨zP,c13,rfl, -⟩:=aV zf.o1;have HE:Hid (∃(m1 m2:List Hd) (m3:List Int),sO K1 w V pa F1 k1 d1 S' (.slice zP (l++[(rs,rg)]).length c13) (.slice a9 zy c9) (.slice JZ AL c10) m1 m2 m3/\zF S' m1 m2 m3/\m1.length<=i+1/\m2.length<=i+1/\m3.length<=i+1):=⟨l++[(rs,rg)],l2,l3,zf,Gl.out.2,by simp;have:=Gs.out.1;omega,by have:=Gs.out.2.1;omega,by have:=Gs.out.2.2;omega⟩;clear zf HV HDS Ev Gl JU wD Kb z2 z3 ho1' QU
     generalize (l++[(rs,rg)]).length=ln at *
   case' inr.inl=>
    subst h4 hrc;have Gl:=χ ((GA.out.2.1 rfl).2.1 rfl);clear GA ho1 ho3
    go_upto_region 28 with (first
     |(at_builtin;refine lq rfl _ _ rfl w.heap.size _ _ l2 rfl (ak ho2 ((ae.refl [] _).alloc _) σ) _ (rs,rg) rfl γ γ ω ζ ?_;intro v7 w8 JU wD Kb)
     | fail)
    refine bG (λV=>sO K1 w V pa F1 k1 d1 S' (.slice zP ln c13) v7 (.slice JZ AL c10) l (l2++[(rs,rg)]) l3) ((HV.out _ ((ae.refl [] Z).alloc _)).YI JU wD Kb) ?_;rintro V zf;obtain⟨a9,c9,rfl, -⟩:=aV zf.o2;have HE:Hid (∃(m1 m2:List Hd) (m3:List Int),sO K1 w V pa F1 k1 d1 S' (.slice zP ln c13) (.slice a9 (l2++[(rs,rg)]).length c9) (.slice JZ AL c10) m1 m2 m3/\zF S' m1 m2 m3/\m1.length<=i+1/\m2.length<=i+1/\m3.length<=i+1):=⟨l,l2++[(rs,rg)],l3,zf,Gl.out,by have:=Gs.out.1;omega,by simp;have:=Gs.out.2.1;omega,by have:=Gs.out.2.2;omega⟩;clear zf HV HDS Ev Gl JU wD Kb ho2
    generalize (l2++[(rs,rg)]).length=zy at *
   case' inr.inr.inl=>
    subst h6 hrc;have Gl:=χ ((GA.out.2.1 rfl).2.2.1 rfl);clear GA ho1 ho3
    go_upto_region 28 with (first
     |(at_builtin;refine lq rfl _ _ rfl w.heap.size _ _ l2 rfl (ak ho2 ((ae.refl [] _).alloc _) σ) _ (P1,P2) rfl γ γ ω ζ ?_;intro v7 w8 JU wD Kb)
     | fail)
    refine bG (λV=>sO K1 w V pa F1 k1 d1 S' (.slice zP ln c13) v7 (.slice JZ AL c10) l (l2++[(P1,P2)]) l3) ((HV.out _ ((ae.refl [] Z).alloc _)).YI JU wD Kb) ?_;rintro V zf;obtain⟨a9,c9,rfl, -⟩:=aV zf.o2;have HE:Hid (∃(m1 m2:List Hd) (m3:List Int),sO K1 w V pa F1 k1 d1 S' (.slice zP ln c13) (.slice a9 (l2++[(P1,P2)]).length c9) (.slice JZ AL c10) m1 m2 m3/\zF S' m1 m2 m3/\m1.length<=i+1/\m2.length<=i+1/\m3.length<=i+1):=⟨l,l2++[(P1,P2)],l3,zf,Gl.out,by have:=Gs.out.1;omega,by simp;have:=Gs.out.2.1;omega,by have:=Gs.out.2.2;omega⟩;clear zf HV HDS Ev Gl JU wD Kb ho2
    generalize (l2++[(P1,P2)]).length=zy at *
   case' inr.inr.inr.inl=>
    subst h7 hrc;have Gl:=χ ((GA.out.2.1 rfl).2.2.2.1 rfl);clear GA ho1 ho2
    go_upto_region 28 with (first
     |(at_builtin;refine EU rfl _ _ rfl w.heap.size _ _ l3 rfl (ak ho3 ((ae.refl [] _).alloc _) σ) _ bb rfl γ ω ζ ?_;intro v7 w8 JU wD Kb)
     | fail)
    refine bG (λV=>sO K1 w V pa F1 k1 d1 S' (.slice zP ln c13) (.slice a9 zy c9) v7 l l2 (l3++[bb])) ((HV.out _ ((ae.refl [] Z).alloc _)).acd JU wD Kb) ?_;rintro V zf;obtain⟨JZ,c10,rfl, -⟩:=aV zf.o3;have HE:Hid (∃(m1 m2:List Hd) (m3:List Int),sO K1 w V pa F1 k1 d1 S' (.slice zP ln c13) (.slice a9 zy c9) (.slice JZ (l3++[bb]).length c10) m1 m2 m3/\zF S' m1 m2 m3/\m1.length<=i+1/\m2.length<=i+1/\m3.length<=i+1):=⟨l,l2,l3++[bb],zf,Gl.out,by have:=Gs.out.1;omega,by have:=Gs.out.2.1;omega,by simp;have:=Gs.out.2.2;omega⟩;clear zf HV HDS Ev Gl JU wD Kb ho3
    generalize (l3++[bb]).length=AL at *
   case' inr.inr.inr.inr.inl=>
    subst hrc;have Gl:=χ ((GA.out.2.1 rfl).2.2.2.2 n2 n4 n6 n7);have m2:(op == 2)=false:=by simpa using n2
    have m4:(op == 4)=false:=by simpa using n4
    have m6:(op == 6)=false:=by simpa using n6
    have m7:(op == 7)=false:=by simpa using n7
    clear GA ho1 ho2 ho3 n2 n4 n6 n7
    go_upto_region 28 with(fail)
    refine bG (λV=>sO K1 w V pa F1 k1 d1 S' (.slice zP ln c13) (.slice a9 zy c9) (.slice JZ AL c10) l l2 l3) (HV.out Z (ae.refl _ _)) ?_;rintro V zf;have HE:Hid (∃(m1 m2:List Hd) (m3:List Int),sO K1 w V pa F1 k1 d1 S' (.slice zP ln c13) (.slice a9 zy c9) (.slice JZ AL c10) m1 m2 m3/\zF S' m1 m2 m3/\m1.length<=i+1/\m2.length<=i+1/\m3.length<=i+1):=⟨l,l2,l3,zf,Gl.out,by have:=Gs.out.1;omega,by have:=Gs.out.2.1;omega,by have:=Gs.out.2.2;omega⟩;clear zf HV HDS Ev Gl m2 m4 m6 m7
   case' inr.inr.inr.inr.inr=>
    have e:=GA.out.1 hrc;unfold sN at e;simp only[Prod.mk.injEq,Rp.mk.injEq] at e;obtain⟨rfl, -,rfl,rfl,rfl,rfl,rfl⟩:=e;have aaL:(rc != 0)=true:=by simpa using hrc
    have Gl:=χ GA.out.2.2;clear GA ho1 ho2 ho3 hrc
    go_upto_region 28 with(fail)
    refine bG (λV=>sO K1 w V pa F1 k1 d1 S' (.slice zP ln c13) (.slice a9 zy c9) (.slice JZ AL c10) l l2 l3) (HV.out Z (ae.refl _ _)) ?_;rintro V zf;have HE:Hid (∃(m1 m2:List Hd) (m3:List Int),sO K1 w V pa F1 k1 d1 S' (.slice zP ln c13) (.slice a9 zy c9) (.slice JZ AL c10) m1 m2 m3/\zF S' m1 m2 m3/\m1.length<=i+1/\m2.length<=i+1/\m3.length<=i+1):=⟨l,l2,l3,zf,Gl.out,by have:=Gs.out.1;omega,by have:=Gs.out.2.1;omega,by have:=Gs.out.2.2;omega⟩;clear zf HV HDS Ev Gl aaL
   all_goals
    obtain⟨m1,m2,m3,zf,hon,h1,h2,h3⟩:=HE.out;have hqq:S'.q<=i+1:=by have:=HN.out.2.1;have:=HN.out.2.2.1;omega
    have e2:zy=m2.length:=by obtain⟨_,_,e,_⟩:=aV zf.o2;injection e
    have e3:AL=m3.length:=by obtain⟨_,_,e,_⟩:=aV zf.o3;injection e
    have hl2:zy<=1000:=ω;have hl3:AL<=1000:=ω;have HOV:=χ zf;have HE2:=χ (ψ e2 (ψ e3 (ψ hon (ψ hqq (ψ h1 (ψ h2 h3))))));clear e2 e3 hon h1 h2 h3 zf hqq HE HN HW HL23;go_wp2
    go_loopw [18,19,20,116] (λ_ _ _ Y0 wl=>∃(j:Nat) (F2:List Nat),j<=zy/\Y0=.int .i64 (j:Int)/\sO K1 w wl pa F2 k1 d1 S' (.slice zP ln c13) (.slice a9 zy c9) (.slice JZ AL c10) m1 m2 m3) (λ_ _ _ Y0 _=>zy-(intOf Y0).toNat)
    case atStart=>exact⟨0,F1,Nat.zero_le _,rfl,HOV.out⟩
    case round=>
     clear HOV;obtain⟨j,F2,hj,rfl,hO⟩:=hrel;rename World=>wl
     by_cases hjl:j<zy
     ·have JX:(j:Int)<(zy:Int):=ω;have hwj:IntKind.i64.wrap ((j:Int)+1)=(j:Int)+1:=Μ _ ω;have Jh:j<m2.length:=by rw[←HE2.out.1];exact hjl
      obtain⟨a0,cap0,e0, -, -,hcell⟩:=Dk.iA (F:=[]) hO.o2 σ;obtain⟨g,off,rfl,hgl, -,c0,c1⟩:=hcell j (m2[j]) (by rw[ε Jh]);have hst:=HE2.out.2.2.1.stale (Ϙ Jh);have hgm:=(fw.ok hO.a).2.1.gm m2[j].1.toNat;have hmo:=(fw.ok hO.a).2.1.QQ;generalize m2[j]=Q at *;obtain⟨Q1,Q2⟩:=Q;dsimp only at hst hgm c0 c1;have e1:a9=some ⟨g,off,none⟩:=by injection e0
      subst e1;have ek:kV S' Q1 Q2=(S',sN 33):=by unfold kV;rw[Γ (by rw[hst.1];simp)]
      have ed:mH S' Q1 Q2 (-9223372036854775808)=(S',sN 33):=by unfold mH;rw[Γ (by rw[hst.1];simp)]
      have kk:=λX (hX:ae [] wl X)=>uH (aP.ag hO.a hX:fw K1 X pa F2 k1 d1 S') Q1 Q2 ⟨ω,ω⟩;have kd:=λX F (hX:fw K1 X pa F k1 d1 S')=>Dy hX Q1 Q2 (-9223372036854775808) ⟨ω,ω⟩ (by unfold vH;omega);rw[ek] at kk;rw[ed] at kd;unfold sN at kk kd;dsimp only at kk kd;have hla:=aP.lt hO.a;have HO:=χ hO;clear hO hcell e0 hst hgm hmo ek ed
      go_upto_region 31 with(fail)
      refine bG (λY=>Go.Proofs.YtnpdakpagnpanaaGreat.Q2 Y wl.heap.size Q1 Q2/\ae [] wl Y/\wl.heap.size<Y.heap.size) ⟨{},β,σ⟩ ?_;rintro Y ⟨ht,hY,hYl⟩;have b18:wl.heap.size∉F2:=λhm=>by have:=hla _ hm;omega
      have kk':=kk Y hY;obtain⟨y0,y1⟩:=id ht;clear kk c0 c1 hla
      go_upto_region 32 with (first
       |((go_at_call 30;(with_reducible refine(kk').mono ?_));rintro e w5 ⟨rfl,F3,hP3,bW,Sv⟩;obtain⟨z0,z1⟩:=ht.kept bW b18)
       | fail)
      have kd':=kd w5 F3 hP3;clear kd kk'
      go_wp2_with (first
       |((go_at_call 31;(with_reducible refine(kd').mono ?_));rintro e w6 ⟨rfl,F4,XO,iX,hf6⟩)
       | fail)
      go_roundw
      case rel=>exact⟨j+1,F4,hjl,by go_num,((HO.out.ag hY).go hP3 bW Sv).go XO iX hf6⟩
      case measure=>simp[intOf];omega
     ·obtain rfl:zy=j:=ω;have JX:¬(zy:Int)<(zy:Int):=ω;have HO:=χ hO;clear hO;go_wp2
      go_loopw [22,23,24,137] (λ_ _ _ aas wl=>∃(j:Nat) (F2:List Nat),j<=AL/\aas=.int .i64 (j:Int)/\sO K1 w wl pa F2 k1 d1 S' (.slice zP ln c13) (.slice a9 zy c9) (.slice JZ AL c10) m1 m2 m3) (λ_ _ _ aas _=>AL-(intOf aas).toNat)
      case atStart=>exact⟨0,F2,Nat.zero_le _,rfl,HO.out⟩
      case round=>
       clear HO;clear F2;obtain⟨j,F2,hj3,rfl,hO⟩:=hrel;rename World=>wl
       by_cases hjl:j<AL
       ·have JX:(j:Int)<(AL:Int):=ω;have hwj:IntKind.i64.wrap ((j:Int)+1)=(j:Int)+1:=Μ _ ω;have Jh:j<m3.length:=by rw[←HE2.out.2.1];exact hjl
        obtain⟨a0,cap0,e0, -, -,hcell⟩:=j6.iA (F:=[]) hO.o3 σ;obtain⟨g,off,rfl,hgl, -,c0⟩:=hcell j (m3[j]) (by rw[ε Jh]);have hst:=HE2.out.2.2.1.fh _ (Ϙ Jh);have Cj:=(fw.ok hO.a).1.h1;generalize m3[j]=hx at *;have e1:JZ=some ⟨g,off,none⟩:=by injection e0
        subst e1;have ek:mW S' hx=(S',sN 171):=by unfold mW;rw[Γ (by rw[hst.1];simp)]
        have kk:=λX (hX:ae [] wl X)=>Ew (aP.ag hO.a hX:fw K1 X pa F2 k1 d1 S') hx (by unfold vH;omega);rw[ek] at kk;unfold sN at kk;dsimp only at kk;have HO:=χ hO;clear hO hcell e0 hst Cj ek
        go_wp2_with (first
         |((go_at_call 32;(with_reducible refine(kk _ β).mono ?_));rintro e w5 ⟨rfl,F3,hP3,bW,Sv⟩)
         | fail)
        go_roundw
        case rel=>exact⟨j+1,F3,hjl,by go_num,HO.out.go hP3 bW Sv⟩
        case measure=>simp[intOf];omega
       ·obtain rfl:AL=j:=ω;have JX:¬(AL:Int)<(AL:Int):=ω;have HO:=χ hO;clear hO;go_wp2
        go_roundw
        case rel=>
         obtain⟨e2,e3,hon,hqq,h1,h2,h3⟩:=HE2.out;exact⟨i+1,m1,m2,m3,F2,S',hil,by go_num,HO.out,hon,hqq,h1,h2,h3⟩
        case measure=>simp[intOf];omega
  ·obtain rfl:len=i:=ω;have V5:¬(len:Int)<(len:Int):=ω;have hfc:=hon.fc;obtain⟨zP,c13,rfl,KI⟩:=aV hW.o1;obtain⟨a9,c9,rfl,hc9⟩:=aV hW.o2;have kL:=pY hW.a;have hu:=hW.upd;generalize S.R.cnt=cn at *;generalize l.length=ln at *;generalize l2.length=zy at *;subst hfc;have hws:IntKind.i64.wrap ((zy:Int)+(cn:Int))=(zy:Int)+(cn:Int):=Μ _ ω;clear hW hon
   go_wp2_with (first
    |((go_at_call 15;(with_reducible refine(kL).mono ?_));rintro e w9 ⟨rfl,rfl⟩)
    | fail)
   go_ret;exact⟨σ,hu⟩
theorem Kt(w:World)(k1 d1:Int)(n m:Int)(hn:0<=n/\n<=255)(hm:0<=m/\m<=4294967295)(v:Value)(len:Nat)(f:Nat->Ac)(hS:AQ w v len f) :
  Calls prog 9 #[.agg #[.int .i64 k1,.int .i64 d1,.int .u8 n,.int .u32 m],v] w λe w'=>e=.returned (.bool true)/\ae [] w w':=by
 by_cases h:90<len\/nA k1 d1 m=false
 ·obtain⟨o,cap,rfl, -, -, -⟩:=hS;exact K5 w k1 d1 n m hn hm o len cap h
 ·obtain⟨n,rfl⟩:∃k:Nat,n=k:=⟨n.toNat,ω⟩;obtain⟨m,rfl⟩:∃k:Nat,m=k:=⟨m.toNat,ω⟩;simp only[not_or,Bool.not_eq_false] at h;obtain⟨h1,h2⟩:=h;unfold nA at h2;simp at h2;exact Mf w k1 d1 n m ω ω h2.1 v len f hS ω
end Go.Proofs.YtnpdakpagnpanaaGreat
