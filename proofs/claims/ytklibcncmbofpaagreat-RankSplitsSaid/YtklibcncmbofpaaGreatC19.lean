/-
  Lemmas for RankSplits: RkSp. Conditions: those of each lemma.
-/
import Derived.Test.YtklibcncmbofpaaGreatC15
import Derived.Test.YtklibcncmbofpaaGreatC18
set_option linter.all false
set_option maxHeartbeats 8000000
set_option maxRecDepth 10000
namespace Go.Proofs.YtklibcncmbofpaaGreat
open Go Go.RowKit
def FY (kf:Nat->Int) (lo:Nat->Nat) (i:Nat):List Int:=bD (tJ kf lo i)
theorem GH:(Tryz.prog.info? 24).map (fun i=>(i.zero,i.size,i.bytes))=some (some (.slice none 0 0),1,24):=by kernel_rfl
theorem CQ (w:World) (vk:Value) (kd d:Int) (mm:Nat) (ks:List Int) (hS:fO w [] vk ks) (hb:∀x,x∈ks->-9223372036854775808<=x/\x<=9223372036854775807) (hm:mm<=255) :
    Calls Tryz.prog 8 #[.agg #[.int .i64 kd,.int .i64 d],vk,.int .u8 (mm:Int)] w fun r w'=>r=.returned (.bool true)/\aa [] w w':=by
  have kc:=fun W=>F8 kd d W;have hS0:=hS;obtain ⟨a,cap,rfl,hcap,hcap2, -⟩:=hS0
  by_cases hn:ks.length > 100
  · have U4:(ks.length:Int) > 100:=ω
    clear hS hb kc;generalize ks.length=n at *
    go_enter Tryz.func8,Tryz.ntmps8
    go_wp2_with (first|((go_at_call 15;(with_reducible refine (qi _).mono ?_));rintro e w1 ⟨rfl,hu1⟩;(have q10:w1.cell? ⟨w.heap.size,0,none⟩=some (.int .i64 kd):=hu1.was γ);(have q11:w1.cell? ⟨w.heap.size,1,none⟩=some (.int .i64 d):=hu1.was γ);(have hw1:aa [] w w1:=aa.trans β hu1))|fail)
    go_ret;exact ⟨rfl,hw1⟩
  have U4:¬ (ks.length:Int) > 100:=ω;have hnD:decide ((ks.length:Int) > 100)=false:=ζ
  by_cases hc:xY kd d=0
  · obtain ⟨K,ko⟩:=Be kd d ks.length hc ω
    rw [hc] at kc;obtain ⟨r,hr⟩:∃r:Nat,mm % 6=r:=⟨_,rfl⟩;have hr6:r<6:=ω;have hmod:(mm:Int).tmod 6=(r:Int):=by rw [show (mm:Int).tmod 6=((mm % 6:Nat):Int) from rfl,hr]
    have hwm:IntKind.i64.wrap (mm:Int)=(mm:Int):=Μ _ ω;have hwr:IntKind.i64.wrap (r:Int)=(r:Int):=Μ _ ω;obtain ⟨N,hN⟩:∃N:Nat,N=r+1:=⟨_,rfl⟩;have hw1r:IntKind.i64.wrap (1+(r:Int))=(N:Int):=by rw [Μ _ ω];omega
    have hN6:N<=6:=ω;have hN0:0<N:=ω;clear hN hr;have hmk:=run_make_row' (P:=Tryz.prog) 51 26 (.slice none 0 0) 24 Tryz.underlying51 PD rfl .i64 .i64 N ω ω;have hmi:=run_make_row' (P:=Tryz.prog) 45 24 (.slice none 0 0) 24 Tryz.underlying45 GH rfl .i64 .i64 N ω ω;have hrow:∀j,j<ks.length->∃g off,a=some ⟨g,off,none⟩/\g<w.heap.size/\w.cell? ⟨g,off+j,none⟩=some (.int .i64 (ks.getD j 0)):=fun j hj=>by
      obtain ⟨a',cap',he,_,_,hcell⟩:=hS;cases he;obtain ⟨g,off,h1,h2,_,h3⟩:=hcell j ks[j] (ε hj);exact ⟨g,off,h1,h2,by rw [h3];simp [φ,hj]⟩
    obtain ⟨kf,UZ⟩:∃kf:Nat->Int,kf=fun i=>ks.getD i 0:=⟨_,rfl⟩;obtain ⟨lo,hlo⟩:∃lo:Nat->Nat,lo=fun i=>i*ks.length / N:=⟨_,rfl⟩;have HL:Hid ((∀i,i<N->lo i<=lo (i+1))/\lo 0=0/\lo N=ks.length/\(∀i,i<=N->lo i<=ks.length)/\∀i:Nat,((i:Int)*(ks.length:Int)).tdiv (N:Int)=(lo i:Int)):=by
      subst hlo;refine ⟨fun i _=>Nat.div_le_div_right (Nat.mul_le_mul_right _ (Nat.le_succ i)),σ,Nat.mul_div_cancel_left _ hN0,fun i hi=>Nat.div_le_of_le_mul (Nat.mul_le_mul_right _ hi),fun i=>?_⟩;rw [←Int.natCast_mul]
      rfl
    clear hlo;have kA:=fun W (hW:aa [] w W)=>wm (K:=K) kd d (.slice a ks.length cap) ks W (hS.fresh hW (fun g hg=>Α hg)) hb hc ω ko;rw [show (fun i=>ks.getD i 0)=kf from UZ.symm] at kA;have hkb:∀y, -9223372036854775808<=kf y/\kf y<=9223372036854775807:=fun y=>by
      rw [UZ]
      show -9223372036854775808<=ks.getD y 0/\ks.getD y 0<=9223372036854775807
      rw [φ];cases h1:ks[y]? with
      | none=>simp
      | some x=>exact hb x (Η h1)
    have HA:=χ kA;have HKB:=χ hkb;clear kA hkb;have HB:=χ (ψ hb UZ);clear hb UZ;have HS:=χ hS;generalize hnn:ks.length=n at *;have HN:=χ hnn;clear hnn
    go_enter Tryz.func8,Tryz.ntmps8
    go_wp2_with (first|((go_at_call 15;(with_reducible refine (qi _).mono ?_));rintro e w1 ⟨rfl,hu1⟩;(have q10:w1.cell? ⟨w.heap.size,0,none⟩=some (.int .i64 kd):=hu1.was γ);(have q11:w1.cell? ⟨w.heap.size,1,none⟩=some (.int .i64 d):=hu1.was γ);(have hw1:aa [] w w1:=aa.trans β hu1))|((go_at_call 18;(with_reducible refine (kc _).mono ?_));rintro e w2 ⟨rfl,hu2⟩)|fail)
    have hcw:aa [] (w.alloc (.cells #[.int .i64 kd,.int .i64 d] 23)) w2:=hu1.trans hu2;have hcb:w.heap.size<w2.heap.size:=by have:=hcw.size;rw [Κ] at this;exact this
    have HW:=χ hcw;clear hw1 hu1 hu2 q10 q11 hcw
    go_region
    all_goals go_wp2
    refine eY (fun W=>FQ W (w.heap.size+1) w2.heap.size (w2.heap.size+1) N (fun _=>.slice none 0 0) (fun _=>.slice none 0 0) (lT (Bj kf lo) 0 0) (lT (FY kf lo) 0 0)/\aa [] (w.alloc (.cells #[.int .i64 kd,.int .i64 d] 23)) W) ⟨by rw [rO,rO];exact Qj w2 _ N,HW.out.trans β⟩ ?_;have hGH:w.heap.size+1<=w2.heap.size/\w.heap.size+1<=w2.heap.size+1:=ω;clear hcb hmk hmi;generalize w2.heap.size+1=H at *;generalize w2.heap.size=G at *
    rotate_left
    refine eY (fun W=>FQ W (w.heap.size+1) (w2.heap.size+1) w2.heap.size N (fun _=>.slice none 0 0) (fun _=>.slice none 0 0) (lT (Bj kf lo) 0 0) (lT (FY kf lo) 0 0)/\aa [] (w.alloc (.cells #[.int .i64 kd,.int .i64 d] 23)) W) ⟨by rw [rO,rO];exact Mk w2 _ N,HW.out.trans β⟩ ?_;have hGH:w.heap.size+1<=w2.heap.size+1/\w.heap.size+1<=w2.heap.size:=ω;clear hcb hmk hmi;generalize w2.heap.size+1=G at *;generalize w2.heap.size=H at *
    all_goals
      rintro W ⟨hT0,Ua⟩;obtain ⟨hG0,hH0⟩:=hGH;have H0:=χ (ψ hT0 Ua);clear hT0 Ua HW
      go_loopw [10,11,12,13,14,15,17] (fun v10 v11 v12 v13 v14 v15 v17 wr=>∃ (i:Nat) (vs us:Nat->Value),i<=N/\v10=.int .i64 (i:Int)/\FQ wr (w.heap.size+1) G H N vs us (lT (Bj kf lo) i 0) (lT (FY kf lo) i 0)/\(∀u,i<=u->vs u=.slice none 0 0/\us u=.slice none 0 0)/\aa [] (w.alloc (.cells #[.int .i64 kd,.int .i64 d] 23)) wr) (fun v10 _ _ _ _ _ _ _=>N-(intOf v10).toNat)
      case atStart=>exact ⟨0,_,_,Nat.zero_le _,rfl,H0.out.1,fun _ _=>⟨rfl,rfl⟩,H0.out.2⟩
      case round=>
        clear H0;obtain ⟨i,vs,us,hi,rfl,hT,hnil,hU⟩:=hrel;rename World=>wr
        by_cases FU:i<N
        · have NH:(i:Int)<(N:Int):=ω
          have hiD:decide ((i:Int)<(N:Int))=true:=ζ;have hwi:IntKind.i64.wrap ((i:Int)+1)=(i:Int)+1:=Μ _ ω;have q0:wr.cell? ⟨w.heap.size,0,none⟩=some (.int .i64 kd):=hU.was γ;have q1:wr.cell? ⟨w.heap.size,1,none⟩=some (.int .i64 d):=hU.was γ
          go_upto_region 11 with (fail)
          refine eY (fun W=>W.ownsRow wr.heap.size 2 1 (.slice (some ⟨wr.heap.size,0,none⟩) 0 0) 0 (aM [])/\aa [] wr W) ⟨mU wr (aM []) 2 wr.heap.size 1 0 rfl (Θ _) μ,β⟩ ?_;rintro W ⟨hO,hW⟩;obtain ⟨hmono, -, -,hle,hdiv⟩:=HL.out;have hm1:=hmono i FU;have hm2:=hle (i+1) FU;have hd1:=hdiv i;have hd2:=hdiv (i+1);have hin:i*n<=6*100:=Nat.mul_le_mul ω ω;have hin2:(i+1)*n<=6*100:=Nat.mul_le_mul ω ω;have hx1:IntKind.i64.wrap ((i:Int)*(n:Int))=(i:Int)*(n:Int):=by rw [←Int.natCast_mul];exact Μ _ ω
          have hx2:IntKind.i64.wrap (((i:Int)+1)*(n:Int))=((i:Int)+1)*(n:Int):=by rw [show (i:Int)+1=((i+1:Nat):Int) by omega,←Int.natCast_mul];exact Μ _ ω
          rw [show ((i+1:Nat):Int)=(i:Int)+1 by omega] at hd2;have HM:=χ (ψ hmono hle);clear hmono hle hdiv hin hin2;obtain ⟨l1,hl1⟩:∃l1,lo i=l1:=⟨_,rfl⟩;obtain ⟨l2,hl2⟩:∃l2,lo (i+1)=l2:=⟨_,rfl⟩;rw [hl1] at hd1 hm1;rw [hl2] at hd2 hm1 hm2;have hw1:IntKind.i64.wrap (l1:Int)=(l1:Int):=Μ _ ω;have hw2:IntKind.i64.wrap (l2:Int)=(l2:Int):=Μ _ ω;have hNz:¬ (N:Int)=0:=ω;have HO:=χ (ψ hO (ψ hW (ψ hl1 hl2)));clear hO hW hl1 hl2
          go_quiet (fail)
          obtain ⟨vp,hvp,hSp⟩:=Hl HS.out hm1 (by rw [HN.out];exact hm2);have hpl:((ks.drop l1).take (l2-l1)).length=l2-l1:=by rw [ϑ,ϒ,HN.out];omega
          have hpk:∀y,y<l2-l1->((ks.drop l1).take (l2-l1)).getD y 0=kf (l1+y):=fun y hy=>by
            rw [HB.out.2,φ,List.getElem?_take,Δ hy,List.getElem?_drop,←φ]
          have hpb:∀x,x∈(ks.drop l1).take (l2-l1)->-9223372036854775808<=x/\x<=9223372036854775807:=fun x hx=>HB.out.1 x (List.mem_of_mem_drop (List.mem_of_mem_take hx));generalize (ks.drop l1).take (l2-l1)=pt at *;obtain ⟨m,hm⟩:∃m,l2-l1=m:=⟨_,rfl⟩;rw [hm] at hpl hpk;have hm100:m<=100:=ω;obtain ⟨K1,XP⟩:=Be kd d pt.length hc ω;have kS:=fun W vk hs=>wm (K:=K1) kd d vk pt W hs hpb hc ω XP;have hsp:eO (fun i=>pt.getD i 0) m=M0 kf lo i:=by
            unfold M0;rw [HO.out.2.2.1,HO.out.2.2.2,hm];exact wK (fun x hx=>hpk x hx)
          rw [hpl,hsp] at kS;have HP:=χ (ψ hpl hpk);have hmm:((m:Int) != (m:Int))=false:=σ;have hcw:w.heap.size<wr.heap.size:=by have:=hU.size;rw [Κ] at this;omega
          have XC:=fun W' (hW':aa [] wr W')=>hSp.fresh (((aa.refl [] w).alloc _).trans (hU.trans hW')) (fun g hg=>Α hg);obtain ⟨hO,hW, -, -⟩:=HO.out;have hO2:=ay (S:=[]) hO ((aa.refl [] W).drewN nq) σ;have hW2:aa [] wr (W.drewN nq):=hW.drewN nq;have q20:=hW2.was q0;have q21:=hW2.was q1;have hWs:=hW2.size;clear hpl hpk hpb XP hsp hSp hO hW
          go_wp2_with (first
            | (refine zg rfl _ _ _ _ rfl _ _ _ vp rfl rfl rfl (hvp _) ?_)
            | (at_builtin;refine uG rfl _ _ 24 2 rfl Tryz.underlying24 xg wr.heap.size _ 0 (aM []) rfl hO2 [] vp pt rfl (XC _ hW2) (by have:=HP.out.1;omega) hWs ?_;intro v3 w3 ho3 hu3 hs3;rw [ϖ,HP.out.1] at ho3;(have Cu:aa [] wr w3:=hW2.joined hu3 (fun x hx=>Β (by have h:x=wr.heap.size:=List.mem_singleton.1 hx;omega)));(have q30:=Cu.was q0);(have q31:=Cu.was q1);obtain ⟨a3,c3,rfl,hc3⟩:=aU ho3)
            | ((have hs5:=fO.Ps (F:=[]) (xs:=pt) ho3 σ);(go_at_call 16;(with_reducible refine (kS _ _ hs5).mono ?_));rintro e w5 ⟨al,cl,rfl,V7,dJ⟩)
            | fail)
          obtain ⟨hpl,hpk⟩:=HP.out;have hcp:∀y,y<m->∃gp,a3=some ⟨gp,0,none⟩/\wr.heap.size<=gp/\gp<w3.heap.size/\w5.cell? ⟨gp,y,none⟩=some (.int .i64 (kf (l1+y))):=fun y hy=>by
            obtain ⟨gp,cap',e,hb,_⟩:=dH ho3 ω
            injection e with e1 e2 e3
            subst e1;refine ⟨gp,rfl,hb,(ho3.lt gp rfl).2,dJ.was ?_⟩;rw [ho3.cellAt y ω]
            show (aM pt)[y]?=_
            rw [jg ω,hpk y hy]
          have hcl:∀t,t<m->∃gl x,al=some ⟨gl,0,none⟩/\w3.heap.size<=gl/\w5.cell? ⟨gl,t,none⟩=some (.int .i64 ((x:Nat):Int))/\x<m/\(M0 kf lo i)[t]?=some x:=fun t ht=>by
            have hle:(M0 kf lo i).length=m:=by unfold M0;rw [nT,HO.out.2.2.1,HO.out.2.2.2,hm]
            have hx:(M0 kf lo i)[t]?=some (M0 kf lo i)[t]:=ε ω;obtain ⟨gl,h1,h2,h3,h4⟩:=Jm V7 (Jn hx);have hmem:(M0 kf lo i)[t]<lo (i+1)-lo i:=gU.1 (Ϝ (show t<(M0 kf lo i).length by omega));rw [HO.out.2.2.1,HO.out.2.2.2,hm] at hmem;exact ⟨gl,_,h1,h2,h4,hmem,hx⟩
          have R6:aa [] wr w5:=Cu.trans dJ;have hs35:=Cu.size;have hs53:=dJ.size;have hs55:=R6.size;have H5:=χ (ψ hcp (ψ hcl (ψ (hT.ae R6) (ψ hnil (hU.trans R6)))));have hGl:=hT.a.row.lt;have hHl:=hT.b.row.lt;clear hpl hpk hcp hcl R6 hT hnil hU ho3 hu3 hs3 V7 dJ Cu q0 q1 q20 q21 q30 q31 kS XC hO2 hW2 hvp
          go_loopw [17,84] (fun v17 v84 wi=>∃ (t:Nat) (vs' Uw:Nat->Value),t<=m/\v84=.int .i64 (t:Int)/\FQ wi (w.heap.size+1) G H N vs' Uw (lT (Bj kf lo) i t) (lT (FY kf lo) i t)/\(∀u,i<u->vs' u=.slice none 0 0/\Uw u=.slice none 0 0)/\aa [G,H] w5 wi/\(∀b,(vs' i).ownBlock=some b->w5.heap.size<=b)/\(∀b,(Uw i).ownBlock=some b->w5.heap.size<=b)) (fun _ v84 _=>m-(intOf v84).toNat)
          case atStart=>
            obtain ⟨-, -,hT,hnil, -⟩:=H5.out;refine ⟨0,vs,us,Nat.zero_le _,rfl,hT,fun u hu=>hnil u ω,aa.refl _ _,fun b hb=>?_,fun b hb=>?_⟩
            · rw [(hnil i (Θ _)).1] at hb;cases hb
            · rw [(hnil i (Θ _)).2] at hb;cases hb
          case round=>
            obtain ⟨t,vs',Uw,ht,rfl,hT,hnil,hu,Un,PX⟩:=hrel;rename World=>wi
            by_cases Xm:t<m
            · have htI:(t:Int)<(m:Int):=ω
              have htD:decide ((t:Int)<(m:Int))=true:=ζ;have hwt:IntKind.i64.wrap ((t:Int)+1)=(t:Int)+1:=Μ _ ω;obtain ⟨gl,x,rfl,hgl,hcl0,hxm,YB⟩:=H5.out.2.1 t Xm;obtain ⟨gp,rfl,Nc,hgp2,Zf⟩:=H5.out.1 x hxm;have hcl:=hu.kept hcl0 ζ;have hcp:=hu.kept Zf ζ;have hx0:decide ((x:Int)<0)=false:=σ;have FX:¬ (x:Int)≥(m:Int):=ω;have hxD:decide ((x:Int)≥(m:Int))=false:=ζ;have hxJ:(x:Int)<(m:Int):=ω;have QM:(Bj kf lo i).length=m:=by rw [xn,HO.out.2.2.1,HO.out.2.2.2,hm]
              have Xp:(FY kf lo i).length=m:=by unfold FY;rw [rG,iW,HO.out.2.2.1,HO.out.2.2.2,hm]
              have hYt:(tJ kf lo i).getD t 0=l1+x:=by
                unfold tJ;rw [φ,ϔ,YB,HO.out.2.2.1];rfl
              have hXt:(Bj kf lo i).getD t 0=kf (l1+x):=by rw [xz (by rw [HO.out.2.2.1,HO.out.2.2.2,hm];exact Xm),hYt]
              have hIt:(FY kf lo i).getD t 0=(l1:Int)+(x:Int):=by
                have h1:t<(tJ kf lo i).length:=by rw [iW,HO.out.2.2.1,HO.out.2.2.2,hm];exact Xm
                have h2:(tJ kf lo i)[t]?=some (l1+x):=by rw [ε h1,←hYt,φ,ε h1];rfl
                unfold FY bD;rw [φ,ϔ,h2]
                show ((l1+x:Nat):Int)=_
                omega
              have MN:=BA (X:=Bj kf lo) (i:=i) (t:=t) (by rw [QM];exact Xm);have Ab:=BA (X:=FY kf lo) (i:=i) (t:=t) (by rw [Xp];exact Xm);rw [hXt] at MN;rw [hIt] at Ab;generalize kf (l1+x)=kx at *;have ho:=hT.a.own i FU;have Ow:=hT.b.own i FU;have LQ:((Bj kf lo i).take t).length=t:=by rw [ϑ,QM];omega
              have yE:((FY kf lo i).take t).length=t:=by rw [ϑ,Xp];omega
              rw [uP,LQ] at ho;rw [uP,yE] at Ow;obtain ⟨av,cv,M3,hcv⟩:=aU ho;have d0:=hT.a.row.cellAt i FU M3;have df:=hT.a.row.free i;rw [M3] at ho;have hGw:=hT.a.row.lt;have hHw:=hT.b.row.lt;have hus:=hu.size;have hb0:w.heap.size+1<=wi.heap.size:=ω;have hnb:wi.heap.size∉(Value.slice av t cv).ownBlock.toList:=fun e=>by have:=(ho.lt wi.heap.size (Option.mem_toList.1 e)).2;omega
              have hnG:G∉(Value.slice av t cv).ownBlock.toList:=fun e=>hT.a.ng i FU (by rw [M3];exact Option.mem_toList.1 e);have hng:gp∉(Value.slice av t cv).ownBlock.toList:=fun e=>by have:=Un gp (by rw [M3];exact Option.mem_toList.1 e);omega
              have s0:aa [] wi (wi.drew.alloc (.cells #[.int .i64 kx] 2)):=((aa.refl _ _).drew).alloc _;have e1:¬G=wi.heap.size:=ω;have e2:¬gp=wi.heap.size:=ω;have HT:=χ (ψ hT (ψ M3 (ψ hnil (ψ hu (ψ Un (ψ PX (ψ MN (ψ Ab (ψ hcl0 (ψ YB (ψ LQ yE)))))))))));clear hT M3 hnil hu Un PX MN Ab QM Xp hYt hXt hIt Ow hcl0 Zf YB LQ yE
              go_upto_region 21 with (fail)
              go_region_law
                (first
                  | (refine iV rfl _ _ 24 rfl (w.heap.size+1) 2 (.int .i64 0) 1 8 Tryz.underlying24 xg rfl δ (.slice av t cv) t (aM ((Bj kf lo i).take t)) rfl (ho.drew.alloc _) wi.heap.size [.int .i64 kx] rfl rfl (fun j u hj=>kQ wi [.int .i64 kx] 2 j u hj) (by simp [Value.oneCell']) μ ω ζ ?_
                     intro v2 w7 ho2 hu2 hv2;have hS2:aa (Value.slice av t cv).ownBlock.toList wi w7:=(s0.mono σ).trans hu2;have z1:=hS2.kept d0 hnG;have zf1:=hS2.aP d0 hnG df;have z2:=hS2.kept hcp hng
                     obtain ⟨a2,cap2,rfl,hcap2⟩:=aU ho2))
              all_goals
                go_upto_region 22 with (fail)
                obtain ⟨hT,M3,hnil,hu,Un,PX,MN,Ab,hcl0,YB,LQ,yE⟩:=HT.out
                have hP:=hT.putA FU (x:=kx) (v2:=.slice a2 (t+1) cap2) (by rw [M3];exact hS2) (by rw [uP,LQ,bz];exact ho2) (by
                  rw [M3];rcases hv2 with h|h
                  · exact Α h
                  · exact Β (fun b hb=>by rw [h] at hb;simp at hb;omega))
                rw [MN] at hP;refine eY (fun W=>∃vs2,FQ W (w.heap.size+1) G H N vs2 Uw (lT (Bj kf lo) i (t+1)) (lT (FY kf lo) i t)/\(∀u,i<u->vs2 u=.slice none 0 0)/\aa [G,H] w5 W/\(∀b,(vs2 i).ownBlock=some b->w5.heap.size<=b)) ⟨_,hP,fun u hu=>?_,?_,fun b hb=>?_⟩ ?_
                · show (if u=i then _ else vs' u)=_
                  rw [Γ ω];exact (hnil u hu).1
                · refine (hu.joined hS2 (fun y hy=>Β (Un y (by rw [M3];exact Option.mem_toList.1 hy)))).setCell (Α σ) _
                · replace hb:(if i=i then Value.slice a2 (t+1) cap2 else vs' i).ownBlock=some b:=hb
                  rw [Δ rfl] at hb;rcases hv2 with h|h
                  · exact Un b (by rw [M3,←h];exact hb)
                  · rw [h] at hb;simp at hb;omega
                clear hT M3 hu Un MN hP ho2 hu2 hv2 hS2 z1 zf1 z2 hcl0 YB LQ hnil PX Ab yE hcl hcp d0 df ho hnb hnG hng s0 e1 e2;rintro W8 ⟨vs2,Jh,Jo,zC,RU⟩;obtain ⟨-, -,hnil, -, -,PX, -,Ab, -, -, -,yE⟩:=HT.out;have Ow:=Jh.b.own i FU;rw [uP,yE] at Ow;obtain ⟨au,cu,QU,QO⟩:=aU Ow;have d1:=Jh.b.row.cellAt i FU QU;have f1:=Jh.b.row.free i;rw [QU] at Ow;have hu8s:=zC.size;have hb1:w.heap.size+1<=W8.heap.size:=ω;have hnH:H∉(Value.slice au t cu).ownBlock.toList:=fun e=>Jh.b.ng i FU (by rw [QU];exact Option.mem_toList.1 e)
                have hlx:IntKind.i64.wrap ((l1:Int)+(x:Int))=(l1:Int)+(x:Int):=Μ _ ω;have HT8:=χ (ψ Jh (ψ QU (ψ Jo (ψ hnil (ψ zC (ψ RU (ψ PX (ψ Ab yE))))))));clear Jh QU Jo hnil zC RU PX Ab yE hu8s
                go_wp2_with (first|((at_builtin;refine aI rfl _ _ 26 rfl (w.heap.size+1) 3 (.int .i64 0) 1 8 Tryz.underlying26 dX rfl δ _ _ _ rfl Ow [.int .i64 _] rfl (by simp [Value.oneCell']) (by first|rfl|(rw [Κ];rfl)) μ ω ω ?_;intro v9 w9 I9 jJ uB;obtain ⟨a9,c9,rfl,hc9⟩:=aU I9);(have z1:=jJ.kept d1 hnH);(have zf1:=jJ.aP d1 hnH f1))|fail)
                go_roundw
                case rel=>
                  obtain ⟨Jh,QU,Jo,hnil,zC,RU,PX,Ab,yE⟩:=HT8.out
                  have hP:=Jh.iM FU (x:=(l1:Int)+(x:Int)) (v2:=.slice a9 (t+1) c9) (by rw [QU];exact jJ) (by rw [uP,yE,bz];exact I9) (by
                    rw [QU];rcases uB with h|h
                    · exact Α h
                    · exact Β (fun b hb=>Nat.le_of_lt (h b hb)))
                  rw [Ab] at hP;refine ⟨t+1,vs2,_,Xm,by go_num,hP,fun u hu=>⟨Jo u hu,?_⟩,?_,RU,fun b hb=>?_⟩
                  · show (if u=i then _ else Uw u)=_
                    rw [Γ ω];exact (hnil u hu).2
                  · refine (zC.joined jJ (fun y hy=>Β (PX y (by rw [QU];exact Option.mem_toList.1 hy)))).setCell (Α σ) _
                  · replace hb:(if i=i then Value.slice a9 (t+1) c9 else Uw i).ownBlock=some b:=hb
                    rw [Δ rfl] at hb;rcases uB with h|h
                    · exact PX b (by rw [QU];exact h.symm.trans hb)
                    · have:=h b hb;have:=zC.size;omega
                case measure=>simp [intOf];omega
            · have htI:¬ (t:Int)<(m:Int):=ω
              have htD:decide ((t:Int)<(m:Int))=false:=ζ;obtain rfl:t=m:=ω;obtain ⟨-, -, -, -,TQ⟩:=H5.out;have QM:(Bj kf lo i).length<=t:=by rw [xn,HO.out.2.2.1,HO.out.2.2.2,hm];exact Θ _
              have Xp:(FY kf lo i).length<=t:=by unfold FY;rw [rG,iW,HO.out.2.2.1,HO.out.2.2.2,hm];exact Θ _
              rw [Bd QM,Bd Xp] at hT;have HT:=χ (ψ hT (ψ hnil (TQ.joined hu (fun y hy=>Β (by rw [Κ];simp at hy;omega)))));clear hT hnil hu Un PX TQ QM Xp;go_wp2
              go_roundw
              case rel=>exact ⟨i+1,vs',Uw,FU,by go_num,HT.out.1,fun u hu=>HT.out.2.1 u ω,HT.out.2.2⟩
              case measure=>simp [intOf];omega
        · have NH:¬ (i:Int)<(N:Int):=ω
          have hiD:decide ((i:Int)<(N:Int))=false:=ζ;obtain rfl:i=N:=ω;have q0:wr.cell? ⟨w.heap.size,0,none⟩=some (.int .i64 kd):=hU.was γ;have q1:wr.cell? ⟨w.heap.size,1,none⟩=some (.int .i64 d):=hU.was γ;obtain ⟨hmono,hlo0,V3,hle, -⟩:=HL.out;have htot:dI (Dp kf lo i)=n:=VS hlo0 V3 hmono;have hall:=Nw (kf:=kf) hlo0 V3 hmono;have hZl:vU wr (.slice (some ⟨G,0,none⟩) i i) (Dp kf lo i):=by
            refine ⟨some ⟨G,0,none⟩,i,by rw [qO],by rw [qO];exact Θ _,ω,fun x l hx=>?_⟩;have hxi:x<i:=by have:=(List.getElem?_eq_some_iff.1 hx).1;rwa [qO] at this
            have hl:l=Bj kf lo x:=by
              rw [←Dc (kf:=kf) (lo:=lo) hxi,φ,hx];rfl
            have ho:=hT.a.own x hxi;rw [Al hxi] at ho;refine ⟨G,0,vs x,rfl,hT.a.row.lt,by rw [ϖ];exact hT.a.row.cell x hxi,?_⟩;rw [hl];exact fO.Ps ho σ
          have hZb:∀l,l∈Dp kf lo i->∀x,x∈l->-9223372036854775808<=x/\x<=9223372036854775807:=fun l hl x hx=>by
            obtain ⟨j,_,rfl⟩:=List.mem_map.1 (show l∈(List.range i).map (Bj kf lo) from hl);obtain ⟨y,_,rfl⟩:=List.mem_map.1 (show x∈(tJ kf lo j).map kf from hx);exact HKB.out y
          have kM:=fun W (hW:aa [] wr W)=>Lp (K:=K) kd d _ _ W (hZl.upd hW) hZb hc ω (by rw [qO];omega) KI (by rw [htot];exact ko);rw [htot] at kM;have kA:=fun W (hW:aa [] wr W)=>HA.out W ((((aa.refl [] w).alloc _).trans hU).trans hW);have FO:∀u v,u<i->v<lo (u+1)-lo u->∃gu cu,wr.cell? ⟨H,u,none⟩=some (.slice (some ⟨gu,0,none⟩) (lo (u+1)-lo u) cu)/\wr.cell? ⟨gu,v,none⟩=some (.int .i64 (((tJ kf lo u).getD v 0:Nat):Int)):=fun u v hu hv=>by
            have ho:=hT.b.own u hu;have hl:(FY kf lo u).length=lo (u+1)-lo u:=by unfold FY;rw [rG,iW]
            rw [Al hu,hl] at ho;obtain ⟨gu,cu,e,hb,_⟩:=dH ho ω;have hc:=hT.b.row.cellAt u hu e;rw [e] at ho;refine ⟨gu,cu,hc,?_⟩;rw [ho.cellAt v ω,jg ω];have h1:v<(tJ kf lo u).length:=by rw [iW];exact hv
            unfold FY bD;rw [φ,ϔ,φ,ε h1]
            rfl
          have hmem:∀p,p∈jX (Dp kf lo i)->p.1<i/\p.2<lo (p.1+1)-lo p.1:=fun p hp=>by
            rw [(nu _).mem_iff,uN,qO] at hp;exact ⟨hp.1,by rw [←Ic (kf:=kf) hp.1];exact hp.2⟩
          have Lt:(jX (Dp kf lo i)).length=n:=by rw [sZ,htot]
          have Ua:aa [] w wr:=((aa.refl [] w).alloc _).trans hU;have hHl:=hT.b.row.lt;have HF:=χ (ψ hall (ψ FO (ψ hmem (ψ Lt Ua))));clear hT hnil hU hmono hlo0 V3 hle htot hall hZl hZb FO hmem Lt Ua;generalize jX (Dp kf lo i)=M at *;generalize hSS:eO kf n=S at *;have HSS:=χ hSS;clear hSS;have hnn:((n:Int) != (n:Int))=false:=σ
          go_wp2_with (first
            | ((go_at_call 16;(with_reducible refine (kA _ β).mono ?_));rintro e w7 ⟨aA,cA,rfl,ho7,pV⟩;(have q30:=pV.was q0);(have q31:=pV.was q1))
            | ((go_at_call 23;(with_reducible refine (kM _ pV).mono ?_));rintro e w8 ⟨aO,cO,rfl,ho8,zC⟩)
            | fail)
          obtain ⟨hall,FO,hmem,Lt,Ua⟩:=HF.out;have Sc:=pV.trans zC;have hC8:=PlC.fQ ho8;have HC:Hid (∀j,j<n->∃ (go ga gu p1 p2 mp cu:Nat) (y:Int),aO=some ⟨go,0,none⟩/\aA=some ⟨ga,0,none⟩/\p1<i/\p2<mp/\w8.cell? ⟨go,j*2,none⟩=some (.int .i64 (p1:Int))/\w8.cell? ⟨go,j*2+1,none⟩=some (.int .i64 (p2:Int))/\w8.cell? ⟨H,p1,none⟩=some (.slice (some ⟨gu,0,none⟩) mp cu)/\w8.cell? ⟨gu,p2,none⟩=some (.int .i64 y)/\w8.cell? ⟨ga,j,none⟩=some (.int .i64 y)):=fun j hj=>by
            have hj':M[j]?=some M[j]:=ε ω;obtain ⟨go,h1,_,h2,h3⟩:=hC8.2 j _ hj';obtain ⟨m1,m2⟩:=hmem _ (Ϝ (show j<M.length by omega));obtain ⟨gu,cu,h4,h5⟩:=FO _ _ m1 m2;have hy:S[j]?=some ((tJ kf lo (M[j]'ω).1).getD (M[j]'ω).2 0):=by rw [←hall,ϔ,hj'];rfl
            obtain ⟨ga,h6,_,_,h7⟩:=Jm ho7 (Jn hy);exact ⟨go,ga,gu,_,_,_,cu,_,h1,h6,m1,m2,h2,h3,Sc.was h4,Sc.was h5,zC.was h7⟩
          have hU8:=Ua.trans Sc;clear hall FO hmem Lt Ua Sc hC8 ho7 ho8 pV zC HF q0 q1 q30 q31 kM kA HSS
          go_loopw [22,23,149] (fun v22 v23 We wi=>∃j:Nat,j<=n/\We=.int .i64 (j:Int)/\aa [] w8 wi) (fun _ _ We _=>n-(intOf We).toNat)
          case atStart=>exact ⟨0,Nat.zero_le _,rfl,aa.refl _ _⟩
          case round=>
            obtain ⟨j,hj,rfl,hu⟩:=hrel;rename World=>wi
            by_cases hjn:j<n
            · have J3:(j:Int)<(n:Int):=ω
              have hjD:decide ((j:Int)<(n:Int))=true:=ζ;have hwj:IntKind.i64.wrap ((j:Int)+1)=(j:Int)+1:=Μ _ ω;obtain ⟨go,ga,gu,p1,p2,mp,cu,y,rfl,rfl,hp1,hp2,c1,c2,c3,c4,c5⟩:=HC.out j hjn;have d1:=hu.was c1;have d2:=hu.was c2;have d3:=hu.was c3;have d4:=hu.was c4;have d5:=hu.was c5;have g1:decide ((p1:Int)<0)=false:=σ;have g2:decide ((p1:Int)≥(i:Int))=false:=ζ;have g3:decide ((p2:Int)<0)=false:=σ;have g4:decide ((p2:Int)≥(mp:Int))=false:=ζ;have g5:(y != y)=false:=σ;have g6:(p1:Int)<(i:Int):=ω;have g7:(p2:Int)<(mp:Int):=ω;have HU:=χ hu;clear hu c1 c2 c3 c4 c5
              go_upto_region 31 with (fail)
              refine eY (fun W=>W.cell? ⟨wi.heap.size,0,none⟩=some (.int .i64 (p1:Int))/\W.cell? ⟨wi.heap.size,1,none⟩=some (.int .i64 (p2:Int))/\aa [] wi W) ⟨γ,γ,β⟩ ?_;rintro W9 ⟨b0,b1,jJ⟩;have e3:=jJ.was d3;have e4:=jJ.was d4;have e5:=jJ.was d5;clear d1 d2 d3 d4 d5
              go_quiet (fail)
              go_wp2
              go_roundw
              case rel=>exact ⟨j+1,hjn,by go_num,by have:=HU.out;exact (this.trans jJ).trans β⟩
              case measure=>simp [intOf];omega
            · obtain rfl:j=n:=ω
              have J3:¬ (j:Int)<(j:Int):=ω;have hjD:decide ((j:Int)<(j:Int))=false:=σ;go_wp2;go_ret;exact ⟨rfl,hU8.trans hu⟩
  · have hcb:(xY kd d != 0)=true:=by simpa using hc
    clear hS hb;generalize xY kd d=v at *;generalize ks.length=n at *
    go_enter Tryz.func8,Tryz.ntmps8
    go_wp2_with (first|((go_at_call 15;(with_reducible refine (qi _).mono ?_));rintro e w1 ⟨rfl,hu1⟩;(have q10:w1.cell? ⟨w.heap.size,0,none⟩=some (.int .i64 kd):=hu1.was γ);(have q11:w1.cell? ⟨w.heap.size,1,none⟩=some (.int .i64 d):=hu1.was γ);(have hw1:aa [] w w1:=aa.trans β hu1))|((go_at_call 18;(with_reducible refine (kc _).mono ?_));rintro e w2 ⟨rfl,hu2⟩)|fail)
    go_ret;exact ⟨rfl,hw1.trans hu2⟩
end Go.Proofs.YtklibcncmbofpaaGreat
