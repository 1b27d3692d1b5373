/-
  Lemmas for PathAlike: Pk. Conditions: those of each lemma.
-/
import Derived.Test.YtklibcncmbofpaaGreatA14
import Derived.Test.YtklibcncmbofpaaGreatA20
set_option linter.all false
set_option maxHeartbeats 8000000
set_option maxRecDepth 10000
namespace Go.Proofs.YtklibcncmbofpaaGreat
open Go Go.RowKit
structure PkF (w:World) (gd od N:Nat) (d:Nat->Nat):Prop where
 lt:gd<w.heap.size
 c:∀j,j<N->w.cell? ⟨gd,od+j,none⟩=some (.int .i64 ((d j:Nat):Int))
theorem PkF.upd {w w':World} {gd od N:Nat} {d:Nat->Nat} (h:PkF w gd od N d) (hu:aa [] w w'):PkF w' gd od N d:=⟨Ψ h.lt hu.size,fun j hj=>hu.was (h.c j hj)⟩
theorem ED {K:gD} {kd dd:Int} (W:World) (N:Nat) (va:Value) (E:List Ed) (hE:vB W va E) (Ka:bI (N:Int) E=true) (hN:0<N) (hc:qX kd dd=0) (ko:om K kd dd N) :
  Calls Tryz.prog 29 #[.agg #[.int .i64 kd,.int .i64 dd],.agg #[.int .i64 (N:Int),va],.int .i64 0] W fun e w'=>∃gd od cd ab nb cb,e=.returned (.tuple #[.agg #[.slice (some ⟨gd,od,none⟩) N cd,.slice ab nb cb],.int .i64 0])/\PkF w' gd od N (passes (eN E) 0 N)/\aa [] W w':=by
 refine (He (K:=K) (kd:=kd) (dd:=dd) W N 0 va E hE Ka hN hc ko).mono ?_;rintro e w5 ⟨vd,vb,D,B,rfl,hD,hB,hT,bK⟩;have e1:=hT.1;have hD0:=hD;obtain ⟨ad,cd,rfl, -, -,hdc⟩:=hD;obtain ⟨ab,cb,rfl, -, -, -⟩:=hB;obtain ⟨gd,od,rfl,n1⟩:=gI.ints hD0 ω;rw [e1];have h1:gd<w5.heap.size:=by
  obtain ⟨_,_,h,h',_⟩:=hdc 0 _ (ε ω);cases h;exact h'
 refine ⟨gd,od,cd,ab,_,cb,rfl,⟨h1,fun j hj=>?_⟩,bK⟩;have:=n1.at' j _ (lG (ω:j<D.length));rw [Addr.add_lit,(hT.2.2 j hj).1] at this;exact this
structure CkF (w:World) (ac:Option Addr) (nc N:Nat) (er:Int) (wb:Bool) (d:Nat->Nat):Prop where
 y:wb=true->er=0/\N=nc/\∃g o,ac=some ⟨g,o,none⟩/\PkF w g o N d
 n:wb=false->er=201/\nc=0
theorem CkF.upd {w w':World} {ac:Option Addr} {nc N:Nat} {er:Int} {wb:Bool} {d:Nat->Nat} (h:CkF w ac nc N er wb d) (hu:aa [] w w'):CkF w' ac nc N er wb d:=
 ⟨fun hb=>by obtain ⟨h1,h2,g,o,h3,h4⟩:=h.y hb;exact ⟨h1,h2,g,o,h3,h4.upd hu⟩,h.n⟩
structure AkM (w0 W:World) (b:Nat) (a2:Option Addr) (c2 n:Nat) (N:Int) (E:List Ed) (e:Ed):Prop where
 hb:w0.heap.size<=b
 c0:W.cell? ⟨b,0,none⟩=some (.int .i64 N)
 c1:W.cell? ⟨b,1,none⟩=some (.slice a2 (n+1) c2)
 e:vB W (.slice a2 (n+1) c2) (E++[e])
 u:aa [] w0 W
theorem abU {w0 wF W:World} {b base c3 n:Nat} {a3:Option Addr} {N:Int} {E:List Ed} {e:Ed} (hb:w0.heap.size<=b) (c0:W.cell? ⟨b,0,none⟩=some (.int .i64 N)) (c1:W.cell? ⟨b,1,none⟩=some (.slice a3 (n+1) c3))
  (ho:wF.ownsRow base 67 3 (.slice a3 (n+1) c3) (n+1) (wP (E++[e]))) (hu:aa [b] wF W) (hn:∀k,(Value.slice a3 (n+1) c3).ownBlock=some k->k≠b) (u:aa [] w0 W):AkM w0 W b a3 c3 n N E e:=
 ⟨hb,c0,c1,vB.gW (ay ho hu (fun k hk=>by simp;exact hn k hk)),u⟩
theorem TE (w:World) (v:Value) (k1 d1 k2 d2 N mf mt mw:Int) (E:List Ed) (va:Value) (hG:Lx w v N E va) (hx:mw<=9223372036854775807) :
  Calls Tryz.prog 10 #[.agg #[.int .i64 k1,.int .i64 d1,.int .i64 k2,.int .i64 d2],v,.agg #[.int .i64 mf,.int .i64 mt,.int .i64 mw]] w fun r w'=>r=.returned (.bool true)/\aa [] w w':=by
 obtain ⟨rfl,hE,hwb⟩:=hG;have KY:=fun W=>Au k1 d1 W;have MO:=fun W=>Au k2 d2 W;have kw:=fun W (hW:aa [] w W)=>Ac W N va E (hE.upd hW);have hE0:=hE;obtain ⟨a,cap,rfl,hcap⟩:=hE.shape;have HE:=χ (ψ hE0 hwb);clear hE hE0 hwb;have kg:=fun W=>Ik W N a E.length cap
 by_cases hm:oz N E.length=false/\qX k1 d1=0/\qX k2 d2=0/\bI N E=true/\¬N<1
 ·obtain ⟨hg,hc1,hc2,Ka,hN⟩:=hm;rw [hg] at kg;rw [hc1] at KY;rw [hc2] at MO;rw [Ka] at kw;obtain ⟨N,rfl⟩:∃q:Nat,N=q:=⟨N.toNat,ω⟩;have hbd:=oO (jW Ka);have hNb:decide ((N:Int)<1)=false:=by simpa using hN
  have hN0:0<N:=ω;obtain ⟨K1,Z6⟩:=BP k1 d1 N hc1 ω;obtain ⟨K2,ko2⟩:=BP k2 d2 N hc2 ω;have kA:=fun W (hW:aa [] w W)=>ED (K:=K1) (kd:=k1) (dd:=d1) W N (.slice a E.length cap) E (HE.out.1.upd hW) Ka hN0 hc1 Z6;have kB:=fun W (hW:aa [] w W)=>ED (K:=K2) (kd:=k2) (dd:=d2) W N (.slice a E.length cap) E (HE.out.1.upd hW) Ka hN0 hc2 ko2;have kC1:=χ (fun W va2 (hE2:vB W va2 (E++[⟨mf,mt,mw⟩])) (h2:bI (N:Int) (E++[⟨mf,mt,mw⟩])=true)=>ED (K:=K1) (kd:=k1) (dd:=d1) W N va2 (E++[⟨mf,mt,mw⟩]) hE2 h2 hN0 hc1 Z6)
  have kC2:=χ (fun W va2 (hE2:vB W va2 (E++[⟨mf,mt,mw⟩])) (h2:xE k1 d1 (N:Int) 0 (E++[⟨mf,mt,mw⟩])≠0)=>QR k1 d1 (N:Int) 0 va2 (E++[⟨mf,mt,mw⟩]) W hE2 (fun e he=>by
   rcases τ.1 he with h|h
   ·exact (HE.out.2 e h).2
   ·obtain rfl:e=⟨mf,mt,mw⟩:=by simpa using h
    exact hx) h2)
  have hT0:=χ (ψ Ka (ψ hbd hc1));clear hc1 hc2 Ka hbd Z6 ko2 hg;generalize hn:E.length=n at *;have HN:=χ hn;have hn6:n<=1000000:=by have:=hT0.out.2.1;omega
  clear hn
  go_enter Tryz.func10,Tryz.ntmps10
  go_upto_region 5 with (first|((go_at_call 27;(with_reducible refine (xX _).mono ?_));rintro e w1 ⟨rfl,hu1⟩;(have q10:w1.cell? ⟨w.heap.size,0,none⟩=some (.int .i64 k1):=hu1.was γ);(have q11:w1.cell? ⟨w.heap.size,1,none⟩=some (.int .i64 d1):=hu1.was γ);(have q12:w1.cell? ⟨w.heap.size,2,none⟩=some (.int .i64 k2):=hu1.was γ);(have q13:w1.cell? ⟨w.heap.size,3,none⟩=some (.int .i64 d2):=hu1.was γ);(have q14:w1.cell? ⟨w.heap.size+1,0,none⟩=some (.int .i64 N):=hu1.was γ);(have q15:w1.cell? ⟨w.heap.size+1,1,none⟩=some (.slice a n cap):=hu1.was γ);(have q16:w1.cell? ⟨w.heap.size+1+1,0,none⟩=some (.int .i64 mf):=hu1.was γ);(have q17:w1.cell? ⟨w.heap.size+1+1,1,none⟩=some (.int .i64 mt):=hu1.was γ);(have q18:w1.cell? ⟨w.heap.size+1+1,2,none⟩=some (.int .i64 mw):=hu1.was γ);(have hw1:aa [] w w1:=aa.trans β hu1))|((go_at_call 28;(with_reducible refine (kg _).mono ?_));rintro e w2 ⟨rfl,hu2⟩;(have q20:=hu2.was q10);(have q21:=hu2.was q11);(have q22:=hu2.was q12);(have q23:=hu2.was q13);(have q24:=hu2.was q14);(have q25:=hu2.was q15);(have q26:=hu2.was q16);(have q27:=hu2.was q17);(have q28:=hu2.was q18);(have hw2:=hw1.trans hu2))|((go_at_call 18;(with_reducible refine (KY _).mono ?_));rintro e w3 ⟨rfl,hu3⟩;(have q30:=hu3.was q20);(have q31:=hu3.was q21);(have q32:=hu3.was q22);(have q33:=hu3.was q23);(have q34:=hu3.was q24);(have q35:=hu3.was q25);(have q36:=hu3.was q26);(have q37:=hu3.was q27);(have q38:=hu3.was q28);(have hw3:=hw2.trans hu3))|((go_at_call 18;(with_reducible refine (MO _).mono ?_));rintro e w4 ⟨rfl,fZ⟩;(have q40:=fZ.was q30);(have q41:=fZ.was q31);(have q42:=fZ.was q32);(have q43:=fZ.was q33);(have q44:=fZ.was q34);(have q45:=fZ.was q35);(have q46:=fZ.was q36);(have q47:=fZ.was q37);(have q48:=fZ.was q38);(have hw4:=hw3.trans fZ))|((go_at_call 32;(with_reducible refine (kw _ hw4).mono ?_));rintro e w5 ⟨rfl,bK⟩;(have q50:=bK.was q40);(have q51:=bK.was q41);(have q52:=bK.was q42);(have q53:=bK.was q43);(have q54:=bK.was q44);(have q55:=bK.was q45);(have q56:=bK.was q46);(have q57:=bK.was q47);(have q58:=bK.was q48);(have Lc:=hw4.trans bK))|fail)
  have hE5:∀W,aa [] w5 W->vB W (.slice a n cap) E:=fun W h=>HE.out.1.upd (Lc.trans h);have z54:∀X,aa [] w5 X->X.cell? ⟨w.heap.size+1,0,none⟩=some (.int .i64 (N:Int)):=fun X h=>h.was q54;have z55:∀X,aa [] w5 X->X.cell? ⟨w.heap.size+1,1,none⟩=some (.slice a n cap):=fun X h=>h.was q55;have z56:∀X,aa [] w5 X->X.cell? ⟨w.heap.size+1+1,0,none⟩=some (.int .i64 mf):=fun X h=>h.was q56;have z57:∀X,aa [] w5 X->X.cell? ⟨w.heap.size+1+1,1,none⟩=some (.int .i64 mt):=fun X h=>h.was q57;have z58:∀X,aa [] w5 X->X.cell? ⟨w.heap.size+1+1,2,none⟩=some (.int .i64 mw):=fun X h=>h.was q58
  have hw50:aa [] w5 w5:=aa.refl _ _
  go_cut [7] (fun s7 W=>∃b a2 c2,s7=.pointer (some ⟨b,0,none⟩)/\AkM w5 W b a2 c2 n (N:Int) E ⟨mf,mt,mw⟩)
  case first=>
   go_region_held_law (fun W=>aa [] w5 W) (exact β)
    (first|((with_reducible show @ite Prop (Region.wanted ((_:Array Oper)[5]'_) _=true) _ _ _);(refine Ja (o:=⟨some 47,_,_,_,_,_⟩) rfl (.tmp 44) (.tmp 46) rfl _ rfl (by (repeat (first|assumption|exact lg.new (by first|omega|(simp only [Κ,World.size_drew];done)|(simp only [Κ,World.size_drew];omega))|refine lg.alloc ?_ _|refine lg.drew ?_))) (.slice a n cap) n E rfl (hE5 _ β) HN.out hn6 ?_);intro g1 c1 wE hoE ZL Ap;(have lE:=(hoE.lt g1 rfl).2);(have hUE:aa [] w5 wE:=aa.copy β ZL (by first|omega|(simp only [Κ,World.size_drew];done)|(simp only [Κ,World.size_drew];omega)));(have hsE:=ZL.size);(try simp only [Κ,World.size_drew] at Ap hsE);(try (refine aa.two ZL (w5.heap.size) (.int .i64 0) (.slice none 0 0) ?_ ?_ ?_ ?_ ?_ ?_;(focus (go_simp;done));(focus (go_simp;done));(focus (go_simp;done));(focus (go_simp;done));(focus (first|omega|(rcases Ap with h|h<;>omega)));intro z0 z1 z2 z3 z4));(try (refine aa.two ZL (w5.heap.size+1) (.int .i64 0) (.slice none 0 0) ?_ ?_ ?_ ?_ ?_ ?_;(focus (go_simp;done));(focus (go_simp;done));(focus (go_simp;done));(focus (go_simp;done));(focus (first|omega|(rcases Ap with h|h<;>omega)));intro z0 z1 z2 z3 z4));(try (refine aa.two ZL (w5.heap.size+1+1) (.int .i64 0) (.slice none 0 0) ?_ ?_ ?_ ?_ ?_ ?_;(focus (go_simp;done));(focus (go_simp;done));(focus (go_simp;done));(focus (go_simp;done));(focus (first|omega|(rcases Ap with h|h<;>omega)));intro z0 z1 z2 z3 z4));(simp only [Act.put,List.setIfInBounds_toArray,List.set_cons_zero,List.set_cons_succ]))|((with_reducible show @ite Prop (Region.wanted ((_:Array Oper)[8]'_) _=true) _ _ _);(refine J8 (o:=⟨some 50,_,_,_,_,_⟩) rfl (.tmp 47) (.tmp 49) rfl _ (.slice (some ⟨g1,0,none⟩) n c1) n E rfl (ay hoE (S:=[]) β σ) _ ⟨mf,mt,mw⟩ rfl (by (repeat (first|assumption|exact gI.new (by first|omega|(simp only [Κ,World.size_drew];done)|(simp only [Κ,World.size_drew];omega))|refine gI.alloc ?_ _|refine gI.drew ?_|(refine gI.Yz ?_ ZL ι)))) hn6 (by first|omega|(simp only [Κ,World.size_drew];done)|(simp only [Κ,World.size_drew];omega)) ?_);intro v3 wF hoF huF0 hvF;(have YG:aa [g1] _ wF:=huF0);(have Ul:aa [] w5 wF:=aa.copy β YG (by rcases Ap with h|h<;>omega));(have hsF:=YG.size);(try simp only [Κ,World.size_drew] at hsF);(obtain ⟨a3,c3,rfl,hc3⟩:=aY hoF);(try (refine aa.two YG (w5.heap.size) (.int .i64 0) (.slice none 0 0) ?_ ?_ ?_ ?_ ?_ ?_;(focus (go_simp;done));(focus (go_simp;done));(focus (go_simp;done));(focus (go_simp;done));(focus (first|omega|(rcases Ap with h|h<;>omega)));intro z0 z1 z2 z3 z4));(try (refine aa.two YG (w5.heap.size+1) (.int .i64 0) (.slice none 0 0) ?_ ?_ ?_ ?_ ?_ ?_;(focus (go_simp;done));(focus (go_simp;done));(focus (go_simp;done));(focus (go_simp;done));(focus (first|omega|(rcases Ap with h|h<;>omega)));intro z0 z1 z2 z3 z4));(try (refine aa.two YG (w5.heap.size+1+1) (.int .i64 0) (.slice none 0 0) ?_ ?_ ?_ ?_ ?_ ?_;(focus (go_simp;done));(focus (go_simp;done));(focus (go_simp;done));(focus (go_simp;done));(focus (first|omega|(rcases Ap with h|h<;>omega)));intro z0 z1 z2 z3 z4));(try (refine aa.two YG (wE.heap.size) (.int .i64 0) (.slice none 0 0) ?_ ?_ ?_ ?_ ?_ ?_;(focus (go_simp;done));(focus (go_simp;done));(focus (go_simp;done));(focus (go_simp;done));(focus (first|omega|(rcases Ap with h|h<;>omega)));intro z0 z1 z2 z3 z4));(try (refine aa.two YG (wE.heap.size+1) (.int .i64 0) (.slice none 0 0) ?_ ?_ ?_ ?_ ?_ ?_;(focus (go_simp;done));(focus (go_simp;done));(focus (go_simp;done));(focus (go_simp;done));(focus (first|omega|(rcases Ap with h|h<;>omega)));intro z0 z1 z2 z3 z4));(simp only [Act.put,List.setIfInBounds_toArray,List.set_cons_zero,List.set_cons_succ])))
   all_goals
    go_wp2
    go_meet
    refine ⟨_,a3,c3,rfl,abU (by first|omega|(simp only [Κ,World.size_drew];done)|(simp only [Κ,World.size_drew];omega)) γ γ hoF β (fun k hk=>?_) β⟩;have hlt:=(hoF.lt k hk).2;rcases hvF with h|h
    ·rw [h] at hk;have e:some g1=some k:=hk;simp only [ϖ] at e;rcases Ap with h|h<;>omega
    ·rw [h] at hk;simp only [ϖ,Κ,World.size_drew] at hk;omega
  case rest=>
   obtain ⟨b,a2,c2,rfl,hA⟩:=hcut;rename World=>W;have hu:=hA.u;have p50:=hu.was q50;have p51:=hu.was q51;have p52:=hu.was q52;have p53:=hu.was q53;have p54:=hu.was q54;have p55:=hu.was q55;have pc0:=hA.c0;have pc1:=hA.c1;have hEh:=χ hA.e;have hwW:=Lc.trans hu;have hsz:=hu.size;have hb1:b<W.heap.size:=Ε _ _ pc0;have hb2:w.heap.size+1<W.heap.size:=Ε _ _ p54;have hb3:w.heap.size<W.heap.size:=Ε _ _ p50;clear hA hE5 z54 z55 z56 z57 z58 q50 q51 q52 q53 q54 q55 q56 q57 q58 hu
   have p9:bI (N:Int) (E++[⟨mf,mt,mw⟩])=false->xE k1 d1 (N:Int) 0 (E++[⟨mf,mt,mw⟩])=201:=fun hw2=>by unfold xE;rw [Γ (by simpa using hT0.out.2.2),Γ (by rw [hw2];simp)]
   have kC:∀X,aa [] W X->Calls Tryz.prog 29 #[.agg #[.int .i64 k1,.int .i64 d1],.agg #[.int .i64 (N:Int),.slice a2 (n+1) c2],.int .i64 0] X fun e w'=>∃ac nc cc bc mc dc er,e=.returned (.tuple #[.agg #[.slice ac nc cc,.slice bc mc dc],.int .i64 er])/\CkF w' ac nc N er (bI (N:Int) (E++[⟨mf,mt,mw⟩])) (passes (eN (E++[⟨mf,mt,mw⟩])) 0 N)/\aa [] X w':=fun X hX=>by
    cases hw2:bI (N:Int) (E++[⟨mf,mt,mw⟩]) with
    | false=>
     refine (kC2.out X _ (hEh.out.upd hX) (by rw [p9 hw2];decide)).mono ?_;rintro e w' ⟨rfl,hu⟩;rw [p9 hw2];exact ⟨none,0,0,none,0,0,201,rfl,⟨fun h=>by simp at h,fun _=>⟨rfl,rfl⟩⟩,hu⟩
    | true=>
     refine (kC1.out X _ (hEh.out.upd hX) hw2).mono ?_;rintro e w' ⟨gd,od,cd,ab,nb,cb,rfl,hf,hu⟩;exact ⟨some ⟨gd,od,none⟩,N,cd,ab,nb,cb,0,rfl,⟨fun _=>⟨rfl,rfl,gd,od,rfl,hf⟩,fun h=>by simp at h⟩,hu⟩
   have kw2:=fun X (hX:aa [] W X)=>Ac X (N:Int) _ _ (hEh.out.upd hX);have hml:=χ (fun (h:bI (N:Int) (E++[⟨mf,mt,mw⟩])=true) (v:Nat)=>Oj hT0.out.1 h hN0 v);have hz0:=χ (fun (h:bI (N:Int) (E++[⟨mf,mt,mw⟩])=true)=>NK h hN0);clear p9;generalize bI (N:Int) (E++[⟨mf,mt,mw⟩])=wb at *
   go_upto_region 9 with (first|((go_at_call 29;(with_reducible refine (kA _ hwW).mono ?_));rintro e w6 ⟨gA,oA,cA,aA,nA,bA,rfl,hfA,gF⟩;(have r52:=gF.was p52);(have r53:=gF.was p53);(have r54:=gF.was p54);(have r55:=gF.was p55);(have r50:=gF.was p50);(have r51:=gF.was p51);(have rc0:=gF.was pc0);(have rc1:=gF.was pc1);(have GY:=hwW.trans gF);(have la6:w.heap.size<w6.heap.size:=Ε _ _ r50);(have lb6:w.heap.size+1<w6.heap.size:=Ε _ _ r54);(have lc6:b<w6.heap.size:=Ε _ _ rc0))|((go_at_call 29;(with_reducible refine (kB _ β).mono ?_));rintro e w7 ⟨gB,oB,cB,aB,nB,bB,rfl,hfB,jC⟩;(have DV:aa [] w6 w7:=aa.trans β jC);(have s54:=DV.was r54);(have s50:=DV.was r50);(have s51:=DV.was r51);(have sc0:=DV.was rc0);(have sc1:=DV.was rc1);(have x7:w7.cell? ⟨w6.heap.size,0,none⟩=some (.slice (some ⟨gA,oA,none⟩) N cA):=jC.was γ);(have hfA7:=hfA.upd DV);(have la7:w.heap.size<w7.heap.size:=Ε _ _ s50);(have lb7:w.heap.size+1<w7.heap.size:=Ε _ _ s54);(have lc7:b<w7.heap.size:=Ε _ _ sc0);(have ld7:w6.heap.size<w7.heap.size:=Ε _ _ x7);(have hWB:aa [] W (w7.alloc (.cells #[.slice (some ⟨gB,oB,none⟩) N cB,.slice aB nB bB] 60)):=(gF.trans DV).alloc _))|((go_at_call 29;(with_reducible refine (kC _ hWB).mono ?_));rintro e w8 ⟨ac,nc,cc,bc,mc,dc,er,rfl,hck,EF⟩;(have Gf:aa [] w7 w8:=aa.trans β EF);(have t54:=Gf.was s54);(have tc0:=Gf.was sc0);(have tc1:=Gf.was sc1);(have y7:=Gf.was x7);(have y8:w8.cell? ⟨w7.heap.size,0,none⟩=some (.slice (some ⟨gB,oB,none⟩) N cB):=EF.was γ);(have hfA8:=hfA7.upd Gf);(have hfB8:=hfB.upd Gf);(have hW8:aa [] W w8:=(gF.trans DV).trans Gf))|fail)
   obtain ⟨wC,hwC⟩:∃wC,wC=w8.alloc (.cells #[.slice ac nc cc,.slice bc mc dc] 60):=⟨_,rfl⟩;rw [←hwC];have BD:aa [] w8 wC:=by rw [hwC];exact (aa.refl _ _).alloc _
   have v12:wC.cell? ⟨w8.heap.size,0,none⟩=some (.slice ac nc cc):=by rw [hwC];go_simp
   have v54:=BD.was t54;have vc0:=BD.was tc0;have vc1:=BD.was tc1;have v7:=BD.was y7;have v8:=BD.was y8;have HA:=χ (ψ (hfA8.upd BD) (ψ (hfB8.upd BD) (hck.upd BD)));have hWC:=hW8.trans BD;have HW:=χ (hwW.trans hWC);have l6:w6.heap.size<wC.heap.size:=Ε _ _ v7;have l7:w7.heap.size<wC.heap.size:=Ε _ _ v8;have l8:w8.heap.size<wC.heap.size:=Ε _ _ v12;clear hwC hfA hfB hfA7 hfA8 hfB8 hck gF DV jC Gf EF BD kA kB kC r50 r51 r52 r53 r54 r55 rc0 rc1 s54 s50 s51 sc0 sc1 x7 t54 tc0 tc1 y7 y8 hWB hW8 p50 p51 p52 p53 p54 p55 pc0 pc1;go_wp2
   go_loopw [98,14] (fun kv _ wr=>∃k:Nat,k<=N/\kv=.int .i64 (k:Int)/\aa [] wC wr) (fun kv _ _=>N-(intOf kv).toNat)
   case atStart=>exact ⟨0,ω,rfl,aa.refl _ _⟩
   case round=>
    obtain ⟨k,hk,rfl,hu⟩:=hrel;rename World=>wr;have u12:=hu.was v12;have u54:=hu.was v54;have uc0:=hu.was vc0;have uc1:=hu.was vc1;have u7:=hu.was v7;have u8:=hu.was v8;have hNmax:=hT0.out.2.1
    by_cases hkn:k<N
    ·have WZ:(k:Int)<(N:Int):=ω;have hwr:IntKind.i64.wrap ((k:Int)+1)=(k:Int)+1:=Μ _ ω;have ca:=hu.was (HA.out.1.c k hkn);have cb:=hu.was (HA.out.2.1.c k hkn);generalize ((passes (eN E) 0 N k:Nat):Int)=x at *;have wu:(x != x)=false:=σ;go_wp2
     go_quiet (fail)
     go_wp2
     go_roundw
     case rel=>exact ⟨k+1,ω,by go_num,hu.trans β⟩
     case measure=>simp [intOf];omega
    ·have WZ:¬ (k:Int)<(N:Int):=ω;cases wb with
     | false=>
      obtain ⟨rfl,rfl⟩:=HA.out.2.2.n rfl
      go_wp2_with (first|((go_at_call 32;(with_reducible refine (kw2 _ (hWC.trans hu)).mono ?_));rintro e w9 ⟨rfl,sO⟩;(have g12:=sO.was u12))|fail)
      go_ret;exact ⟨rfl,HW.out.trans (hu.trans sO)⟩
     | true=>
      obtain ⟨rfl,hnc,gC,oC,rfl,hfC⟩:=HA.out.2.2.y rfl;subst hnc
      go_wp2_with (first|((go_at_call 32;(with_reducible refine (kw2 _ (hWC.trans hu)).mono ?_));rintro e w9 ⟨rfl,sO⟩;(have g12:=sO.was u12);(have g54:=sO.was u54);(have g7:=sO.was u7);(have hu9C:=hu.trans sO))|fail)
      go_loopw [137,15] (fun kv _ wr=>∃k:Nat,k<=N/\kv=.int .i64 (k:Int)/\aa [] wC wr) (fun kv _ _=>N-(intOf kv).toNat)
      case atStart=>exact ⟨0,ω,rfl,hu9C⟩
      case round=>
       clear g12 g54 g7 hu9C u12 u54 uc0 uc1 u7 u8 hu hk hkn WZ;obtain ⟨k,hk,rfl,hu⟩:=hrel;rename World=>wr;have u12:=hu.was v12;have u7:=hu.was v7;have u54:=hu.was v54
       by_cases hkn:k<N
       ·have WZ:(k:Int)<(N:Int):=ω;have hwr:IntKind.i64.wrap ((k:Int)+1)=(k:Int)+1:=Μ _ ω;have ca:=hu.was (HA.out.1.c k hkn);have cb:=hu.was (hfC.c k hkn);have hle:=hml.out (by trivial) k;generalize passes (eN E) 0 N k=x at *;generalize passes (eN (E++[⟨mf,mt,mw⟩])) 0 N k=y at *;have wu:decide (x<y)=false:=Ξ ω;have Bl:decide ((y:Int) > (x:Int))=false:=Ξ ω;go_wp2
        go_quiet (fail)
        go_wp2
        go_roundw
        case rel=>exact ⟨k+1,ω,by go_num,hu.trans β⟩
        case measure=>simp [intOf];omega
       ·have WZ:¬ (k:Int)<(N:Int):=ω;have cb:=hu.was (hfC.c 0 hN0);rw [hz0.out (by trivial),ϔ] at cb;have cb2:wr.cell? ⟨gC,oC,none⟩=some (.int .i64 0):=cb;have h0N:(0:Int)<(N:Int):=ω;go_wp2;go_ret;exact ⟨rfl,HW.out.trans hu⟩
 ·have hd:oz N E.length=true\/(oz N E.length=false/\(qX k1 d1 != 0)=true)\/(oz N E.length=false/\qX k1 d1=0/\(qX k2 d2 != 0)=true)\/(oz N E.length=false/\qX k1 d1=0/\qX k2 d2=0/\bI N E=false)\/(oz N E.length=false/\qX k1 d1=0/\qX k2 d2=0/\bI N E=true/\decide (N<1)=true):=by
   cases hg:oz N E.length
   ·by_cases hc1:qX k1 d1=0
    ·by_cases hc2:qX k2 d2=0
     ·cases hw:bI N E
      ·exact Β (Β (Β (Α ⟨rfl,hc1,hc2,rfl⟩)))
      ·exact Β (Β (Β (Β ⟨rfl,hc1,hc2,rfl,Ν (Ϙ fun h=>hm ⟨hg,hc1,hc2,hw,h⟩)⟩)))
     ·exact Β (Β (Α ⟨rfl,hc1,by simpa using hc2⟩))
    ·exact Β (Α ⟨rfl,by simpa using hc1⟩)
   ·exact Α rfl
  clear hm;generalize oz N E.length=gb at *;generalize bI N E=wb at *;generalize qX k1 d1=f1 at *;generalize qX k2 d2=f2 at *;generalize E.length=n at *;rcases hd with rfl|⟨rfl,h1⟩|⟨rfl,rfl,h1⟩|⟨rfl,rfl,rfl,rfl⟩|⟨rfl,rfl,rfl,rfl,h1⟩
  all_goals
   go_enter Tryz.func10,Tryz.ntmps10
   go_wp2_with (first|((go_at_call 27;(with_reducible refine (xX _).mono ?_));rintro e w1 ⟨rfl,hu1⟩;(have q10:w1.cell? ⟨w.heap.size,0,none⟩=some (.int .i64 k1):=hu1.was γ);(have q11:w1.cell? ⟨w.heap.size,1,none⟩=some (.int .i64 d1):=hu1.was γ);(have q12:w1.cell? ⟨w.heap.size,2,none⟩=some (.int .i64 k2):=hu1.was γ);(have q13:w1.cell? ⟨w.heap.size,3,none⟩=some (.int .i64 d2):=hu1.was γ);(have q14:w1.cell? ⟨w.heap.size+1,0,none⟩=some (.int .i64 N):=hu1.was γ);(have q15:w1.cell? ⟨w.heap.size+1,1,none⟩=some (.slice a n cap):=hu1.was γ);(have q16:w1.cell? ⟨w.heap.size+1+1,0,none⟩=some (.int .i64 mf):=hu1.was γ);(have q17:w1.cell? ⟨w.heap.size+1+1,1,none⟩=some (.int .i64 mt):=hu1.was γ);(have q18:w1.cell? ⟨w.heap.size+1+1,2,none⟩=some (.int .i64 mw):=hu1.was γ);(have hw1:aa [] w w1:=aa.trans β hu1))|((go_at_call 28;(with_reducible refine (kg _).mono ?_));rintro e w2 ⟨rfl,hu2⟩;(have q20:=hu2.was q10);(have q21:=hu2.was q11);(have q22:=hu2.was q12);(have q23:=hu2.was q13);(have q24:=hu2.was q14);(have q25:=hu2.was q15);(have q26:=hu2.was q16);(have q27:=hu2.was q17);(have q28:=hu2.was q18);(have hw2:=hw1.trans hu2))|((go_at_call 18;(with_reducible refine (KY _).mono ?_));rintro e w3 ⟨rfl,hu3⟩;(have q30:=hu3.was q20);(have q31:=hu3.was q21);(have q32:=hu3.was q22);(have q33:=hu3.was q23);(have q34:=hu3.was q24);(have q35:=hu3.was q25);(have q36:=hu3.was q26);(have q37:=hu3.was q27);(have q38:=hu3.was q28);(have hw3:=hw2.trans hu3))|((go_at_call 18;(with_reducible refine (MO _).mono ?_));rintro e w4 ⟨rfl,fZ⟩;(have q40:=fZ.was q30);(have q41:=fZ.was q31);(have q42:=fZ.was q32);(have q43:=fZ.was q33);(have q44:=fZ.was q34);(have q45:=fZ.was q35);(have q46:=fZ.was q36);(have q47:=fZ.was q37);(have q48:=fZ.was q38);(have hw4:=hw3.trans fZ))|((go_at_call 32;(with_reducible refine (kw _ hw4).mono ?_));rintro e w5 ⟨rfl,bK⟩;(have q50:=bK.was q40);(have q51:=bK.was q41);(have q52:=bK.was q42);(have q53:=bK.was q43);(have q54:=bK.was q44);(have q55:=bK.was q45);(have q56:=bK.was q46);(have q57:=bK.was q47);(have q58:=bK.was q48);(have Lc:=hw4.trans bK))|fail)
   go_ret;exact ⟨rfl,by first|exact Lc|exact hw4|exact hw3|exact hw2⟩
set_option maxRecDepth 100000 in
open Go.ChangeShapes Go.ChangeAt Go.WideShapes in
theorem Dv {H:Type} {enc:TypeId×Value->H} {W:World} {v:Value} {d:DataW H} {p:List MemPlace} {base:Nat} {sp:Nat->Bool}
  (ho:Value.okWide Tryz.prog W .any base 67 v) (h:DataW.Trod enc Tryz.prog W 0 sp true 67 v d p):∃a b c:Int,v=.agg #[.int .i64 a,.int .i64 b,.int .i64 c]/\c<=9223372036854775807:=by
 obtain ⟨v0,v1,v2,y0,y1,y2,n,rfl,_,_,f0,f1,f2⟩:=Go.Joins.open_agg3 Tryz.underlying67 (by kernel_rfl) (show Tryz.prog.cellsOf 67=3 by kernel_rfl) ho h;obtain ⟨a,e0,_,wa⟩:=DataW.trod_int Tryz.underlying3 f0;obtain ⟨b,e1,_,wb⟩:=DataW.trod_int Tryz.underlying3 f1;obtain ⟨c,e2,_,wc⟩:=DataW.trod_int Tryz.underlying2 f2;simp at e0 e1 e2;subst e0 e1 e2;exact ⟨a,b,c,rfl,by simp [Lit.wf,IntKind.min,IntKind.max,IntKind.signed,IntKind.bits] at wc;omega⟩
end Go.Proofs.YtklibcncmbofpaaGreat
