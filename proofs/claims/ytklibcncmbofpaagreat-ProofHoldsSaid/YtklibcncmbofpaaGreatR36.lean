/-
  Lemmas for ProofHolds: PrY, PrG, PrZ. Conditions: those of each lemma.
-/
import Derived.Test.YtklibcncmbofpaaGreatR35
set_option linter.all false
set_option maxHeartbeats 8000000
set_option maxRecDepth 10000
namespace Go.Proofs.YtklibcncmbofpaaGreat
open Go Go.RowKit
theorem Rz:(Tryz.prog.info? 4).map (fun i=>(i.zero,i.size,i.bytes))=some (some (.bool false),1,1):=by kernel_rfl
theorem JJ(w:World)(n:Nat):aL (w.alloc (.cells (madeCells #[.bool false] n) 4)) w.heap.size 4 n (fun _=>.bool false):=by
 refine⟨madeCells #[.bool false] n,?_,by simp[madeCells],fun j hj=>?_⟩
 ·show(w.heap.push _)[w.heap.size]?=_;simp
 ·simp[madeCells,hj,Nat.mod_one]
theorem getD_at{l:List Int}{i:Nat}(h:i<l.length):l[i]?=some (l.getD i 0):=by simp[φ,h]
theorem JY{D:List Int}{E:List Ed}{k:Nat}{x:Int}:x∈jJ D E k↔∃i:Nat,x=i/\i<k/\iF D (E.getD i default)=true:=by
 unfold jJ;simp only[List.mem_map,List.mem_filter,List.mem_range];constructor
 ·rintro⟨i,⟨h1,h2⟩,rfl⟩;exact⟨i,rfl,h1,h2⟩
 ·rintro⟨i,rfl,h1,h2⟩;exact⟨i,⟨h1,h2⟩,rfl⟩
theorem JA(w:World)(N s:Nat)(va vd vb:Value)(E:List Ed)(D B:List Int)(hE:vY w va E)(rT:bE (N:Int) E=true)(hs:s<N)(hD:gI w [] vd D)(hB:gI w [] vb B)
  (lD:D.length=N) (lB:B.length=N) (hb:∀x,x∈D->-9223372036854775808<=x/\x<=9223372036854775807) :
  Calls Tryz.prog 37 #[.agg #[.int .i64 (N:Int),va],.int .i64 (s:Int),.agg #[vd,vb]] w (LH (yB N s E D B) w):=by
 have hr:=gD rT;have hbd:=lN hr;have hN:N<=4096:=ω;have Wm:E.length<=65536:=hbd.2.2;have NN:∀e,e∈E->0<=e.w/\e.w<=9223372036854775807:=fun e he=>by
  have h1:=jO rT he;have h2:(9223372036854775807:Int) / (N:Int)<=9223372036854775807:=Int.ediv_le_self _ ω;omega
 have kw:=fun W (hW:aa [] w W)=>oz W N va E (hE.upd hW) (fun e he=>(NN e he).2);rw[rT,show Gt true=0 from rfl]at kw;have kn:=fun W (hW:aa [] w W)=>Rw W vd D (fun x=>decide (x<0)) 60 #[] (hD.fresh hW (fun g hg=>Or.inl hg)) (fun _ _=>by kernel_rfl) (fun W e _ _=>VK e W);have Zz:=fun(hp:∀x,x∈D->0<=x) W (hW:aa [] w W)=>QY W N va vd E D (hE.upd hW) (hD.fresh hW (fun g hg=>Or.inl hg)) hr ω NN (fun x hx=>⟨hp x hx,(hb x hx).2⟩);have kt:=fun W (hW:aa [] w W)=>zR W N va vd E D (hE.upd hW) (hD.fresh hW (fun g hg=>Or.inl hg)) rT ω hb
 have kr:=fun W (hW:aa [] w W) (h0:B.getD s 0=-1) (hd0:D.getD s 0=0) (hok:∀v,v<N->okV E s D B v)=>
  JP W N va vb E B s (hE.upd hW) (hB.fresh hW (fun g hg=>Or.inl hg)) rT hs lB (XY rT hs h0 hd0 lD hok).1 (XY rT hs h0 hd0 lD hok).2
 obtain⟨a,cap,rfl,hcap⟩:=hE.shape;obtain⟨ad,wm,rfl,_,_,hcd⟩:=hD;obtain⟨ab,sS,rfl,_,_,hcb⟩:=hB;have u0:aa [] w ((w.alloc (.cells #[.int .i64 (N:Int),.slice a E.length cap] 57)).alloc (.cells #[.slice ad D.length wm,.slice ab B.length sS] 60)):=((aa.refl _ _).alloc _).alloc _;have HE:=χ hE;have HD:=χ hcd;have HB:=χ hcb;obtain⟨gd,od,rfl,_,_,WZ⟩:=hcd s (D.getD s 0) (getD_at ω);obtain⟨gb,ob,rfl,_,_,cb'⟩:=hcb s (B.getD s 0) (getD_at ω);have HW:=χ (ψ rT (ψ hr (ψ hb NN)));have XI:=χ (show ∀h:yB N s E D B->False,(false=true↔yB N s E D B)from fun h=>⟨fun e=>(by cases e),fun e=>(h e).elim⟩)
 have hsI:(s:Int)<(N:Int):=ω;have hsn2:¬N<=s:=ω;have h1b:decide ((s:Int)≥(N:Int))=false:=ζ;have HL:=χ (ψ lD lB);rw[lD]at u0 kn Zz kt;rw[lB]at u0 kr;rw[lD,lB];have HKR:=χ kr;have HKT:=χ kt;clear hE rT hr hbd hcd hcb hb NN kr kt lD lB;generalize hx0:D.getD s 0=x0 at *;generalize hy0:B.getD s 0=y0 at *;have HX:=χ (ψ hx0 hy0);generalize hn:E.length=n at *;have HN:=χ hn;clear hx0 hy0 hn
 by_cases t1:x0=0
 ·have t1b:(x0 != 0)=false:=by simpa using t1
  by_cases t2:y0=-1
  ·have t2b:(y0 != -1)=false:=by simpa using t2
   cases t3:D.any (fun x=>decide (x<0))with
   | true=>
    have HQ:=χ (XI.out (fun h=>by have:=h.pos;rw[t3]at this;cases this));rw[t3]at kn;clear t1 t2 t3 Zz
    go_enter Tryz.func37,Tryz.ntmps37
    go_wp2_with (first|((go_at_call 51;(with_reducible refine(kw _ u0).mono ?_));rintro e w1 ⟨rfl,hu1⟩;(have q0:w1.cell? ⟨w.heap.size,0,none⟩=some (.int .i64 (N:Int)):=hu1.was σ);(have q1:w1.cell? ⟨w.heap.size,1,none⟩=some (.slice a n cap):=hu1.was σ);(have q2:w1.cell? ⟨w.heap.size+1,0,none⟩=some (.slice (some ⟨gd,od,none⟩) N wm):=hu1.was σ);(have q3:w1.cell? ⟨w.heap.size+1,1,none⟩=some (.slice (some ⟨gb,ob,none⟩) N sS):=hu1.was σ);(have p0:=(u0.trans hu1).was WZ);(have p1:=(u0.trans hu1).was cb'))|((go_at_call 59;(with_reducible refine(kn _ (u0.trans hu1)).mono ?_));rintro e w2 ⟨rfl,hu2⟩;(have q4:=hu2.was q0);(have q5:=hu2.was q1);(have q6:=hu2.was q2);(have q7:=hu2.was q3))|fail)
    go_ret;exact⟨_,rfl,HQ.out,(u0.trans hu1).trans hu2⟩
   | false=>
    have kf:=Zz ((DT D).1 t3);rw[t3]at kn;cases t4:CE D E with
    | false=>
     have HQ:=χ (XI.out (fun h=>by have:=h.feas;rw[t4]at this;cases this));rw[t4]at kf;clear t1 t2 t3 t4 Zz
     go_enter Tryz.func37,Tryz.ntmps37
     go_wp2_with (first|((go_at_call 51;(with_reducible refine(kw _ u0).mono ?_));rintro e w1 ⟨rfl,hu1⟩;(have q0:w1.cell? ⟨w.heap.size,0,none⟩=some (.int .i64 (N:Int)):=hu1.was σ);(have q1:w1.cell? ⟨w.heap.size,1,none⟩=some (.slice a n cap):=hu1.was σ);(have q2:w1.cell? ⟨w.heap.size+1,0,none⟩=some (.slice (some ⟨gd,od,none⟩) N wm):=hu1.was σ);(have q3:w1.cell? ⟨w.heap.size+1,1,none⟩=some (.slice (some ⟨gb,ob,none⟩) N sS):=hu1.was σ);(have p0:=(u0.trans hu1).was WZ);(have p1:=(u0.trans hu1).was cb'))|((go_at_call 59;(with_reducible refine(kn _ (u0.trans hu1)).mono ?_));rintro e w2 ⟨rfl,hu2⟩;(have q4:=hu2.was q0);(have q5:=hu2.was q1);(have q6:=hu2.was q2);(have q7:=hu2.was q3))|((go_at_call 61;(with_reducible refine(kf _ ((u0.trans hu1).trans hu2)).mono ?_));rintro e w3 ⟨rfl,hu3⟩;(have q8:=hu3.was q4);(have q9:=hu3.was q5);(have qa:=hu3.was q6);(have qb:=hu3.was q7))|fail)
     go_ret;exact⟨_,rfl,HQ.out,((u0.trans hu1).trans hu2).trans hu3⟩
    | true=>
     have HT:=χ (ψ t1 (ψ t2 (ψ t3 t4)));rw[t4]at kf;have hmk:=run_make_row' (P:=Tryz.prog) 40 4 (.bool false) 1 Tryz.underlying40 Rz rfl .i64 .i64 n ω ω;clear t1 t2 t3 t4 Zz
     go_enter Tryz.func37,Tryz.ntmps37
     go_upto_region 5 with(first|((go_at_call 51;(with_reducible refine(kw _ u0).mono ?_));rintro e w1 ⟨rfl,hu1⟩;(have q0:w1.cell? ⟨w.heap.size,0,none⟩=some (.int .i64 (N:Int)):=hu1.was σ);(have q1:w1.cell? ⟨w.heap.size,1,none⟩=some (.slice a n cap):=hu1.was σ);(have q2:w1.cell? ⟨w.heap.size+1,0,none⟩=some (.slice (some ⟨gd,od,none⟩) N wm):=hu1.was σ);(have q3:w1.cell? ⟨w.heap.size+1,1,none⟩=some (.slice (some ⟨gb,ob,none⟩) N sS):=hu1.was σ);(have p0:=(u0.trans hu1).was WZ);(have p1:=(u0.trans hu1).was cb'))|((go_at_call 59;(with_reducible refine(kn _ (u0.trans hu1)).mono ?_));rintro e w2 ⟨rfl,hu2⟩;(have q4:=hu2.was q0);(have q5:=hu2.was q1);(have q6:=hu2.was q2);(have q7:=hu2.was q3))|((go_at_call 61;(with_reducible refine(kf _ ((u0.trans hu1).trans hu2)).mono ?_));rintro e w3 ⟨rfl,hu3⟩;(have q8:=hu3.was q4);(have q9:=hu3.was q5);(have qa:=hu3.was q6);(have qb:=hu3.was q7))|fail)
     have hu:=((u0.trans hu1).trans hu2).trans hu3;have hsz3:w.heap.size+2<=w3.heap.size:=by have h1:=hu1.size;have h2:=hu2.size;have h3:=hu3.size;simp at h1;omega
     clear hu1 hu2 hu3 q0 q1 q2 q3 q4 q5 q6 q7 p0 p1 kn kf kw w1 w2 u0 WZ cb' t1b t2b;have hza:w.heap.size<w3.heap.size:=ω;have hzb:w.heap.size+1<w3.heap.size:=ω;have hbz:aa [] w3 (w3.alloc (.cells (madeCells #[.bool false] n) 4)):=(aa.refl _ _).alloc _;have hrow:=JJ w3 n;have kt:=HKT.out _ (hu.trans hbz);rw[World.size_alloc]at kt;have HU3:=χ hu;generalize htl:jJ D E n=tl at *;have PY:=χ (show ∀x,x∈tl↔∃i:Nat,x=i/\i<n/\iF D (E.getD i default)=true from fun x=>by rw[←htl];exact JY);clear htl hu
     go_wp2_with (first
      | ((go_at_call 38;(with_reducible refine(kt).mono ?_));rintro e w4 ⟨v,rfl,gX,P7⟩;(obtain⟨a4,c4,rfl,hc4⟩:=bq P7);(have hr4:=hrow.upd gX σ);(have q0:=(hbz.trans gX).was q8);(have q1:=(hbz.trans gX).was q9);(have q2:=(hbz.trans gX).was qa);(have q3:=(hbz.trans gX).was qb))
      | fail)
     have HU4:=χ ((HU3.out.trans hbz).trans gX);have hsl:gI w4 [w3.heap.size] (.slice a4 tl.length c4) tl:=gI.zW P7 σ;have hsz4:w3.heap.size<w4.heap.size:=by have:=gX.size;simp at this;omega
     have HSL:=χ hsl;have HQ4:=χ (ψ q0 (ψ q1 (ψ q2 q3)));have htll:tl.length<=9223372036854775807:=by have:=P7.1;obtain⟨_,_,_,h1,h2,_⟩:=hsl;omega
     clear hrow kt hmk P7 hsl q8 q9 qa qb gX hbz
     go_loopw [9,77] (fun _ i wr=>∃ (k:Nat) (tk:Nat->Bool),k<=tl.length/\i=.int .i64 (k:Int)/\aL wr w3.heap.size 4 n (fun j=>.bool (tk j))/\(∀j:Nat,tk j=true↔(j:Int)∈tl.take k)/\aa [w3.heap.size] w4 wr) (fun _ i _=>tl.length-(intOf i).toNat)
     case atStart=>exact⟨0,fun _=>false,ω,rfl,hr4,fun j=>σ,aa.refl _ _⟩
     case round=>
      clear hr4 q0 q1 q2 q3;obtain⟨k,tk,hk,rfl,hR,htk,hu⟩:=hrel;rename World=>wr
      by_cases hkn:k<tl.length
      ·have hx:=getD_at hkn;obtain⟨i,hi,hin,_⟩:=(PY.out _).1 (List.mem_of_getElem? hx);obtain⟨_,_,he4,_,_,hcs⟩:=HSL.out;cases he4;obtain⟨g4,o4,rfl,_,hne,Yy⟩:=hcs k _ hx;have c4:=hu.kept Yy hne;rw[hi]at c4;have Y8:(i:Int)<(n:Int):=ω;have c7:=hR.cell i hin;have f7:=hR.free i;have hgl:=hR.lt;have hwr:IntKind.i64.wrap ((k:Int)+1)=(k:Int)+1:=IntWalk.i64_in _ ω
       have HT:=χ (show ∀j:Nat,(if j=i then true else tk j)=true↔(j:Int)∈tl.take (k+1)from fun j=>by
        rw[List.take_add_one,hx,hi,τ]
        by_cases hj:j=i
        ·simp[hj]
        ·rw[if_neg hj,htk j];constructor
         ·intro h;exact Or.inl h
         ·rintro(h|h)
          ·exact h
          ·simp at h;omega)
       have HR:=χ (show aL (wr.setCell ⟨w3.heap.size,i,none⟩ (.bool true)) w3.heap.size 4 n (fun j=>.bool (if j=i then true else tk j))from(hR.set i (.bool true)).ext (fun j hj=>by by_cases e:j=i<;>simp[e]));have HU:=χ hu;clear Yy hne hcs hx hi hin htk hR hu;go_wp2
       go_roundw
       case rel=>exact⟨k+1,_,ω,by go_num,HR.out,HT.out,HU.out.setCell (Or.inl σ) _⟩
       case measure=>simp[intOf];omega
      ·obtain rfl:k=tl.length:=ω;have bW:aa [] w wr:=HU4.out.joined hu (fun x hx=>Or.inr (by simp at hx;omega));have hsz5:w3.heap.size<wr.heap.size:=by have:=hu.size;omega
       have hTK:∀j:Nat,j<n->(tk j=iF D (E.getD j default)):=fun j hj=>by
        have h1:=htk j;rw[List.take_length,PY.out]at h1;cases hb:iF D (E.getD j default)with
        | true=>exact h1.2 ⟨j,rfl,hj,hb⟩
        | false=>
         cases ht:tk j with
         | false=>rfl
         | true=>
          obtain⟨i,h2,h3,h4⟩:=h1.1 ht;obtain rfl:j=i:=ω;rw[hb]at h4;cases h4
       have HTK:=χ hTK;have HR:=χ hR;have JX:=χ bW;have WS:Hid (wr.cell? ⟨w.heap.size,0,none⟩=some (.int .i64 (N:Int))/\wr.cell? ⟨w.heap.size,1,none⟩=some (.slice a n cap)/\wr.cell? ⟨w.heap.size+1,0,none⟩=some (.slice (some ⟨gd,od,none⟩) N wm)/\wr.cell? ⟨w.heap.size+1,1,none⟩=some (.slice (some ⟨gb,ob,none⟩) N sS)):=
        χ ⟨hu.kept HQ4.out.1 ζ,hu.kept HQ4.out.2.1 ζ,hu.kept HQ4.out.2.2.1 ζ,hu.kept HQ4.out.2.2.2 ζ⟩
       have q3:=WS.out.2.2.2;clear hu bW hTK hR htk;go_wp2
       go_loopw [10,11,12,88] (fun _ _ _ i W=>∃v:Nat,v<=N/\i=.int .i64 (v:Int)/\(∀x,x<v->okV E s D B x)/\aa [] wr W) (fun _ _ _ i _=>N-(intOf i).toNat)
       case atStart=>exact⟨0,ω,rfl,fun x hx=>ω,aa.refl _ _⟩
       case round=>
        clear q3;obtain⟨v,hv,rfl,hok,hu⟩:=hrel;rename World=>W;have HOK:=χ hok;have HU:=χ hu;have P5:=χ (JX.out.trans hu)
        by_cases nK:v<N
        ·have q0:=hu.was WS.out.1;have q1:=hu.was WS.out.2.1;have q2:=hu.was WS.out.2.2.1;have q3:=hu.was WS.out.2.2.2;obtain⟨_,_,he1,_,_,WZ⟩:=HD.out v (D.getD v 0) (getD_at (by have:=HL.out.1;omega));cases he1;obtain⟨_,_,he2,_,_,cb'⟩:=HB.out v (B.getD v 0) (getD_at (by have:=HL.out.2;omega));cases he2;have cd:=P5.out.was WZ;have cb:=P5.out.was cb';have hvI:(v:Int)<(N:Int):=ω;have hwr:IntKind.i64.wrap ((v:Int)+1)=(v:Int)+1:=IntWalk.i64_in _ ω
         have HV:=χ (show okV E s D B v↔((v≠s/\D.getD v 0≠9223372036854775807)↔B.getD v 0≠-1)/\(v≠s/\D.getD v 0≠9223372036854775807->0<=B.getD v 0/\B.getD v 0<E.length/\iF D (E.getD (B.getD v 0).toNat default)=true/\(E.getD (B.getD v 0).toNat default).t=v)from Iff.rfl)
         have HGO:=χ (show okV E s D B v->∀x,x<v+1->okV E s D B x from fun h x hx=>by
          rcases(ω:x<v\/x=v)with h'|h'
          ·exact hok x h'
          ·rw[h'];exact h)
         have HBAD:=χ (show ¬okV E s D B v->(false=true↔yB N s E D B)from fun h=>XI.out (fun h'=>h (h'.ok v nK)));have hvs:((v:Int) != (s:Int))=decide (v≠s):=by
          rcases Nat.decEq v s with h|h
          ·rw[decide_eq_true h];simp;omega
          ·rw[decide_eq_false (fun h'=>h' h)];simp;omega
         clear WZ cb' hok hu;generalize D.getD v 0=dv at *;generalize B.getD v 0=bv at *;clear q1
         by_cases e1:v=s
         ·rw[decide_eq_false (fun h=>h e1)]at hvs
          by_cases e3:bv=-1
          ·have e3b:(bv != -1)=false:=by simpa using e3
           have HK:=χ (HGO.out (HV.out.2 ⟨⟨fun h=>absurd e1 h.1,fun h=>absurd e3 h⟩,fun h=>absurd e1 h.1⟩));clear e1 e3 q2;go_wp2
           go_roundw
           case rel=>exact⟨v+1,ω,by go_num,HK.out,by have:=HU.out;exact β⟩
           case measure=>simp[intOf];omega
          ·have e3b:(bv != -1)=true:=by simpa using e3
           have HK:=χ (HBAD.out (fun h=>absurd e1 ((HV.out.1 h).1.2 e3).1));clear e1 e3 q2;go_wp2;go_ret;exact⟨_,rfl,HK.out,by have:=P5.out;exact β⟩
         ·rw[decide_eq_true e1]at hvs
          by_cases e2:dv=9223372036854775807
          ·have e2b:(dv != 9223372036854775807)=false:=by simpa using e2
           by_cases e3:bv=-1
           ·have e3b:(bv != -1)=false:=by simpa using e3
            have HK:=χ (HGO.out (HV.out.2 ⟨⟨fun h=>absurd e2 h.2,fun h=>absurd e3 h⟩,fun h=>absurd e2 h.2⟩));clear e1 e2 e3;go_wp2
            go_roundw
            case rel=>exact⟨v+1,ω,by go_num,HK.out,by have:=HU.out;exact β⟩
            case measure=>simp[intOf];omega
           ·have e3b:(bv != -1)=true:=by simpa using e3
            have HK:=χ (HBAD.out (fun h=>absurd e2 ((HV.out.1 h).1.2 e3).2));clear e1 e2 e3;go_wp2;go_ret;exact⟨_,rfl,HK.out,by have:=P5.out;exact β⟩
          ·have e2b:(dv != 9223372036854775807)=true:=by simpa using e2
           by_cases e3:bv=-1
           ·have e3b:(bv != -1)=false:=by simpa using e3
            have HK:=χ (HBAD.out (fun h=>absurd e3 ((HV.out.1 h).1.1 ⟨e1,e2⟩)));clear e1 e2 e3;go_wp2;go_ret;exact⟨_,rfl,HK.out,by have:=P5.out;exact β⟩
           ·have e3b:(bv != -1)=true:=by simpa using e3
            have HV2:=χ (show okV E s D B v↔0<=bv/\bv<E.length/\iF D (E.getD bv.toNat default)=true/\(E.getD bv.toNat default).t=v from⟨fun h=>(HV.out.1 h).2 ⟨e1,e2⟩,fun h=>HV.out.2 ⟨⟨fun _=>e3,fun _=>⟨e1,e2⟩⟩,fun _=>h⟩⟩);clear e1 e2 e3
            by_cases e4:bv<0
            ·have e4b:decide (bv<0)=true:=by simpa using e4
             have HK:=χ (HBAD.out (fun h=>by have:=(HV2.out.1 h).1;omega));clear e4;go_wp2;go_ret;exact⟨_,rfl,HK.out,by have:=P5.out;exact β⟩
            ·have e4b:decide (bv<0)=false:=by simpa using e4
             have q1:=HU.out.was WS.out.2.1
             by_cases e5:bv≥(n:Int)
             ·have e5b:decide (bv≥(n:Int))=true:=by simpa using e5
              have HK:=χ (HBAD.out (fun h=>by have:=(HV2.out.1 h).2.1;have:=HN.out;omega));clear e4 e5;go_wp2;go_ret;exact⟨_,rfl,HK.out,by have:=P5.out;exact β⟩
             ·obtain⟨i,rfl⟩:∃i:Nat,bv=i:=⟨bv.toNat,ω⟩;have hin:i<n:=ω;have hinI:(i:Int)<(n:Int):=ω;have hin2:¬n<=i:=ω;have EB:i<E.length:=by rw[HN.out];exact hin
              have hx':E[i]?=some (E.getD i default):=by simp[φ,EB]
              obtain⟨ge,off,rfl,hg,_,c1,_⟩:=(HE.out.upd P5.out).at i EB;have h1:=fe HW.out.2.1 (List.mem_of_getElem? hx');have ct:=(HR.out.upd HU.out σ).cell i hin;have HTi:=χ (HTK.out i hin);have HV3:=χ (show okV E s D B v↔iF D (E.getD i default)=true/\(E.getD i default).t=v from by rw[HV2.out,show((i:Int)).toNat=i by omega];exact⟨fun h=>h.2.2,fun h=>⟨ω,ω,h⟩⟩);generalize E.getD i default=e at *;obtain⟨ef,et,ew⟩:=e;dsimp only at c1 h1 ct;obtain⟨t,rfl⟩:∃t:Nat,et=t:=⟨et.toNat,ω⟩;generalize tk i=ti at *;clear e4 e4b e5 hx' h1 hin;cases ti with
              | false=>
               have HK:=χ (HBAD.out (fun h=>by have:=(HV3.out.1 h).1;rw[←HTi.out]at this;cases this));go_wp2;go_ret;exact⟨_,rfl,HK.out,by have:=P5.out;exact β⟩
              | true=>
               by_cases e6:t=v
               ·have e6b:((t:Int) != (v:Int))=false:=ζ;have HK:=χ (HGO.out (HV3.out.2 ⟨HTi.out.symm,by show((t:Nat):Int)=v;omega⟩));clear e6;go_wp2
                go_roundw
                case rel=>exact⟨v+1,ω,by go_num,HK.out,by have:=HU.out;exact β⟩
                case measure=>simp[intOf];omega
               ·have e6b:((t:Int) != (v:Int))=true:=ζ;have HK:=χ (HBAD.out (fun h=>by have h2:((t:Nat):Int)=v:=(HV3.out.1 h).2;omega));clear e6;go_wp2;go_ret;exact⟨_,rfl,HK.out,by have:=P5.out;exact β⟩
        ·obtain rfl:v=N:=ω;have q0:=HU.out.was WS.out.1;have q1:=HU.out.was WS.out.2.1;have q3:=HU.out.was WS.out.2.2.2;have kr:=HKR.out _ P5.out HT.out.2.1 HT.out.1 HOK.out;have HP:=χ (show zM (eN E) (fun x=>B.getD x 0) s v↔yB v s E D B from⟨fun h=>⟨HL.out.1,HL.out.2,HX.out.1.trans HT.out.1,HX.out.2.trans HT.out.2.1,HT.out.2.2.1,HT.out.2.2.2,HOK.out,h⟩,fun h=>h.root⟩);clear hu hok;generalize zM (eN E) (fun x=>B.getD x 0) s v=RT at *
         go_wp2_with (first
          | ((go_at_call 62;(with_reducible refine(kr).mono ?_));rintro e w6 ⟨b,rfl,hb6,ik⟩)
          | fail)
         go_ret;exact⟨_,rfl,hb6.trans HP.out,P5.out.trans ik⟩
  ·have t2b:(y0 != -1)=true:=by simpa using t2
   have HQ:=χ (XI.out (fun h=>t2 (by rw[←HX.out.2];exact h.b0)));clear t1 t2 Zz
   go_enter Tryz.func37,Tryz.ntmps37
   go_wp2_with (first|((go_at_call 51;(with_reducible refine(kw _ u0).mono ?_));rintro e w1 ⟨rfl,hu1⟩;(have q0:w1.cell? ⟨w.heap.size,0,none⟩=some (.int .i64 (N:Int)):=hu1.was σ);(have q1:w1.cell? ⟨w.heap.size,1,none⟩=some (.slice a n cap):=hu1.was σ);(have q2:w1.cell? ⟨w.heap.size+1,0,none⟩=some (.slice (some ⟨gd,od,none⟩) N wm):=hu1.was σ);(have q3:w1.cell? ⟨w.heap.size+1,1,none⟩=some (.slice (some ⟨gb,ob,none⟩) N sS):=hu1.was σ);(have p0:=(u0.trans hu1).was WZ);(have p1:=(u0.trans hu1).was cb'))|fail)
   go_ret;exact⟨_,rfl,HQ.out,u0.trans hu1⟩
 ·have t1b:(x0 != 0)=true:=by simpa using t1
  have HQ:=χ (XI.out (fun h=>t1 (by rw[←HX.out.1];exact h.d0)));clear t1 Zz
  go_enter Tryz.func37,Tryz.ntmps37
  go_wp2_with (first|((go_at_call 51;(with_reducible refine(kw _ u0).mono ?_));rintro e w1 ⟨rfl,hu1⟩;(have q0:w1.cell? ⟨w.heap.size,0,none⟩=some (.int .i64 (N:Int)):=hu1.was σ);(have q1:w1.cell? ⟨w.heap.size,1,none⟩=some (.slice a n cap):=hu1.was σ);(have q2:w1.cell? ⟨w.heap.size+1,0,none⟩=some (.slice (some ⟨gd,od,none⟩) N wm):=hu1.was σ);(have q3:w1.cell? ⟨w.heap.size+1,1,none⟩=some (.slice (some ⟨gb,ob,none⟩) N sS):=hu1.was σ);(have p0:=(u0.trans hu1).was WZ);(have p1:=(u0.trans hu1).was cb'))|fail)
  go_ret;exact⟨_,rfl,HQ.out,u0.trans hu1⟩
def JK(N:Int)(n:Nat):Bool:=decide ((n:Int) > 60) || (decide (N > 40) && decide (N<=4096))
theorem yx(w:World)(N:Int)(a:Option Addr)(n cap:Nat):Calls Tryz.prog 36 #[.agg #[.int .i64 N,.slice a n cap]] w fun r w'=>r=.returned (.bool (JK N n))/\aa [] w w':=by
 unfold JK
 by_cases h1:(n:Int) > 60
 ·have h1b:decide ((n:Int) > 60)=true:=by simpa using h1
  go_enter Tryz.func36,Tryz.ntmps36
  go_wp2;go_ret;exact⟨aT ι,β⟩
 ·have h1b:decide ((n:Int) > 60)=false:=by simpa using h1
  by_cases h2:N > 40
  ·have h2b:decide (N > 40)=true:=by simpa using h2
   go_enter Tryz.func36,Tryz.ntmps36
   go_wp2;go_ret;exact⟨aT ι,β⟩
  ·have h2b:decide (N > 40)=false:=by simpa using h2
   go_enter Tryz.func36,Tryz.ntmps36
   go_wp2;go_ret;exact⟨aT ι,β⟩
theorem vB{Q:Prop}{b:Bool}{w w':World}{r:Ending}(h:LH Q w r w')(hb:b=true↔Q):r=.returned (.bool b)/\aa [] w w':=by
 obtain⟨c,rfl,hc,hu⟩:=h;have:c=b:=by
  have h2:=hc.trans hb.symm;cases c<;>cases b<;>simp_all
 exact⟨by rw[this],hu⟩
theorem si{N:Int}{E:List Ed}{src:Int}{D B:List Int}(n s:Nat)(hn:N=n)(hs:src=s)(hw:bE N E=true)(hsn:s<n)(hb:∀x,x∈D->x<=9223372036854775807):yB n s E D B↔yV N E src D B:=by
 subst hn hs;rw[Ur hw hsn hb];exact⟨fun h=>⟨hw,ω,ω,h⟩,fun h=>h.2.2.2⟩
theorem vK(w:World)(N:Int)(va vd vb:Value)(E:List Ed)(D B:List Int)(src:Int)(hE:vY w va E)(hwb:∀e,e∈E->e.w<=9223372036854775807)(hD:gI w [] vd D)(hB:gI w [] vb B)
  (hb:∀x,x∈D->-9223372036854775808<=x/\x<=9223372036854775807) :
  Calls Tryz.prog 37 #[.agg #[.int .i64 N,va],.int .i64 src,.agg #[vd,vb]] w (LH (yV N E src D B) w):=by
 by_cases h:bE N E=false\/src<0\/N<=src\/(D.length:Int)≠N\/(B.length:Int)≠N
 ·refine(MZ w N va vd vb E D B src hE hwb hD hB h).mono fun r w' ⟨h1,h2⟩=>⟨false,h1,⟨fun e=>(by cases e),fun e=>?_⟩,h2⟩
  obtain⟨e1,e2,e3,e4,e5,_⟩:=e;rcases h with h|h|h|h|h
  ·rw[h]at e1;cases e1
  ·omega
  ·omega
  ·omega
  ·omega
 ·have hw:bE N E=true:=by
   cases hw:bE N E with
   | true=>rfl
   | false=>exact absurd (Or.inl hw) h
  obtain⟨n,hn⟩:∃n:Nat,N=n:=⟨N.toNat,ω⟩;obtain⟨s,hs⟩:∃s:Nat,src=s:=⟨src.toNat,ω⟩;have hsn:s<n:=ω;have hP:=si (B:=B) n s hn hs hw hsn (fun x hx=>(hb x hx).2);subst hn hs;refine(JA w n s va vd vb E D B hE hw hsn hD hB ω ω hb).mono fun r w' ⟨b,h1,h2,h3⟩=>⟨b,h1,h2.trans hP,h3⟩
theorem Nb(w:World)(N:Int)(va vd:Value)(E:List Ed)(D:List Int)(hE:vY w va E)(hwb:∀e,e∈E->e.w<=9223372036854775807)(hD:gI w [] vd D)(hb:∀x,x∈D->-9223372036854775808<=x/\x<=9223372036854775807) :
  Calls Tryz.prog 38 #[.agg #[.int .i64 N,va],vd] w fun r w'=>∃v,r=.returned v/\aa [] w w'/\gI w' [] v (xN N E D):=by
 unfold xN
 by_cases h:bE N E=true/\(D.length:Int)=N
 ·rw[if_pos h];exact(zR w N va vd E D hE hD h.1 h.2 hb).mono fun r w' ⟨v,h1,h2,h3⟩=>⟨v,h1,h2,gI.zW h3 σ⟩
 ·rw[if_neg h];obtain⟨a2,c2,rfl,_⟩:=hD;refine(NW w N va E a2 D.length c2 hE hwb ?_).mono fun r w' ⟨h1,h2⟩=>⟨_,h1,h2,none,0,rfl,σ,ω,fun j u hj=>by simp at hj⟩
  cases hw:bE N E with
  | false=>exact Or.inl rfl
  | true=>exact Or.inr (fun e=>h ⟨hw,e⟩)
def exE:List Ed:=[⟨0,1,5⟩]
theorem Y2:yV 2 exE 0 [0,5] [-1,0]:=by
 refine(si 2 0 rfl rfl (by decide +kernel) δ δ).1 ?_;refine⟨rfl,rfl,rfl,rfl,by decide +kernel,by decide +kernel,?_,?_⟩
 ·intro v hv;rcases(ω:v=0\/v=1)with rfl|rfl
  ·unfold okV;decide +kernel
  ·unfold okV;decide +kernel
 ·intro v hv hb;rcases(ω:v=0\/v=1)with rfl|rfl
  ·exact⟨0,rfl⟩
  ·exact⟨1,by decide +kernel⟩
theorem acJ:¬yV 2 exE 0 [0,6] [-1,0]:=by
 intro h;have h2:=(si 2 0 rfl rfl (by decide +kernel) δ δ).2 h;have h3:=h2.ok 1 ω
 revert h3
 unfold okV;decide +kernel
theorem WX{W:World}{g:Nat}{x y:Int}(h0:W.cell? ⟨g,0,none⟩=some (.int .i64 x))(h1:W.cell? ⟨g,1,none⟩=some (.int .i64 y)):gI W [] (.slice (some ⟨g,0,none⟩) 2 2) [x,y]:=by
 refine⟨some ⟨g,0,none⟩,2,rfl,σ,ω,fun j u hj=>⟨g,0,rfl,World.block_lt_of_cell? W _ h0,σ,?_⟩⟩
 match j,hj with
 | 0,hj=>simp at hj;subst hj;exact h0
 | 1,hj=>simp at hj;subst hj;exact h1
 | j+2,hj=>simp at hj
theorem sle1{W:World}{g:Nat}{x y z:Int}(h0:W.cell? ⟨g,0,none⟩=some (.int .i64 x))(h1:W.cell? ⟨g,1,none⟩=some (.int .i64 y))(h2:W.cell? ⟨g,2,none⟩=some (.int .i64 z)):vY W (.slice (some ⟨g,0,none⟩) 1 1) [⟨x,y,z⟩]:=by
 refine⟨some ⟨g,0,none⟩,1,rfl,ω,σ,fun j u hj=>⟨g,0,rfl,World.block_lt_of_cell? W _ h0,?_⟩⟩
 match j,hj with
 | 0,hj=>simp at hj;subst hj;exact⟨h0,h1,h2⟩
 | j+1,hj=>simp at hj
theorem ex1{W:World}{va vd vb:Value}(hE:vY W va exE)(hD:gI W [] vd [0,5])(hB:gI W [] vb [-1,0]) :
  Calls Tryz.prog 37 #[.agg #[.int .i64 2,va],.int .i64 0,.agg #[vd,vb]] W fun r w'=>r=.returned (.bool true)/\aa [] W w':=
 (vK W 2 va vd vb exE [0,5] [-1,0] 0 hE δ hD hB δ).mono fun r w' h=>vB h ⟨fun _=>Y2,fun _=>rfl⟩
theorem ex2{W:World}{va vd vb:Value}(hE:vY W va exE)(hD:gI W [] vd [0,6])(hB:gI W [] vb [-1,0]) :
  Calls Tryz.prog 37 #[.agg #[.int .i64 2,va],.int .i64 0,.agg #[vd,vb]] W fun r w'=>r=.returned (.bool false)/\aa [] W w':=
 (vK W 2 va vd vb exE [0,6] [-1,0] 0 hE δ hD hB δ).mono fun r w' h=>vB h ⟨fun e=>(by cases e),fun e=>(acJ e).elim⟩
theorem vP(w:World):Calls Tryz.prog 35 #[] w fun r w'=>r=.returned (.bool true)/\aa [] w w':=by
 go_enter Tryz.func35,Tryz.ntmps35
 go_wp2_with (first
  | ((go_at_call 37;(with_reducible refine(ex1 (vd:=.slice (some ⟨w.heap.size+1+1,0,none⟩) 2 2) (sle1 γ γ γ) (WX γ γ) (WX γ γ)).mono ?_));rintro e w1 ⟨rfl,hu1⟩;(have q0:w1.cell? ⟨w.heap.size,0,none⟩=some (.int .i64 0):=hu1.was γ);(have q1:w1.cell? ⟨w.heap.size,1,none⟩=some (.int .i64 1):=hu1.was γ);(have q2:w1.cell? ⟨w.heap.size,2,none⟩=some (.int .i64 5):=hu1.was γ);(have q3:w1.cell? ⟨w.heap.size+1,0,none⟩=some (.int .i64 2):=hu1.was γ);(have q4:w1.cell? ⟨w.heap.size+1,1,none⟩=some (.slice (some ⟨w.heap.size,0,none⟩) 1 1):=hu1.was γ);(have hz1:w.heap.size<w1.heap.size:=World.block_lt_of_cell? w1 _ q0);(have hz2:w.heap.size+1<w1.heap.size:=World.block_lt_of_cell? w1 _ q3))
  | ((go_at_call 37;(with_reducible refine(ex2 (sle1 γ γ γ) (WX γ γ) (WX γ γ)).mono ?_));rintro e w2 ⟨rfl,hu2⟩)
  | fail)
 go_ret;exact⟨rfl,by have h1:aa [] w w1:=aa.trans β hu1;exact h1.trans (aa.trans β hu2)⟩
end Go.Proofs.YtklibcncmbofpaaGreat
