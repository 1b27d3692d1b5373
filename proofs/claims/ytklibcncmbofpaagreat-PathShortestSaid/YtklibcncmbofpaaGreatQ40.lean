/-
  Lemmas for PathShortest: PrR, PrM, PrN, Pst, Pbg, Pst2. Conditions: those of each lemma.
-/
import Derived.Deep.LoopGhost
import Derived.Deep.OwnRows
import Derived.Test.YtklibcncmbofpaaGreatQ39
set_option linter.all false
set_option maxHeartbeats 8000000
set_option maxRecDepth 10000
namespace Go.Proofs.YtklibcncmbofpaaGreat
open Go Go.RowKit
def uZ (E:List En) (N s:Nat) (W:Nat->Nat) (D B:List Int) (v:Nat):Prop:=
 D.getD v 0=((W v:Nat):Int)/\((v=s\/W v=inf)->B.getD v 0=-1)/\(¬ (v=s\/W v=inf)->bf E (fun x=>B.getD x 0) W s N v=true)
def uT (E:List En) (N s:Nat) (W:Nat->Nat) (D B:List Int):Prop:=D.length=N/\B.length=N/\∀v,v<N->uZ E N s W D B v
theorem zB {E:List En} {b:Nat->Int} {W:Nat->Nat} {s k x:Nat} (hx:x≠s):bf E b W s (k+1) x=(iI E b W x && bf E b W s k (pE E b x)):=by
 show (decide (x=s) || _)=_
 rw [decide_eq_false hx];rfl
theorem CJ {E:List En} {b:Nat->Int} {W:Nat->Nat} {s:Nat} (k:Nat):bf E b W s k s=true:=by
 cases k with
 | zero=>show decide (s=s)=true;simp
 | succ k=>show (decide (s=s) || _)=true;simp
theorem Js {E:List En} {b:Nat->Int} {W:Nat->Nat} {s x:Nat} (hx:x≠s):bf E b W s 0 x=false:=by
 show decide (x=s)=false;simpa using hx
def Xc (Q:Prop) (w:World) (r:Ending) (w':World):Prop:=∃b:Bool,r=.returned (.bool b)/\(b=true↔Q)/\aa [] w w'
theorem xI (E:List Ed):(eN E).length=E.length:=by unfold eN;simp
theorem IK (E:List Ed) (i:Nat) (hi:i<E.length):Iu (eN E) (i:Int)=toN (E.getD i default):=by
 unfold Iu eN;simp [φ,hi]
theorem UH {E:List Ed} {b:Nat->Int} {W:Nat->Nat} {x i f t y:Nat} (hi:i<E.length) (hb:b x=(i:Int)) (he:toN (E.getD i default)=⟨f,t,y⟩) :
  iI (eN E) b W x=(decide (t=x) && decide (W f≠inf) && decide (W f+y=W x))/\pE (eN E) b x=f:=by
 have hp:pE (eN E) b x=f:=by rw [xe ω,hb,IK E i hi,he]
 refine ⟨?_,hp⟩;unfold iI;rw [hp,hb,IK E i hi,he,xI,decide_eq_true (ω:(0:Int)<=i),decide_eq_true (ω:(i:Int)<E.length)]
 rfl
theorem P9 {E:List Ed} {b:Nat->Int} {W:Nat->Nat} {x:Nat} (h:b x<0\/(E.length:Int)<=b x):iI (eN E) b W x=false:=by
 unfold iI;rw [xI];rcases h with h|h
 ·rw [decide_eq_false (ω:¬ (0:Int)<=b x)];rfl
 ·rw [decide_eq_false (ω:¬b x<(E.length:Int))];simp
theorem Si (w:World) (N:Nat) (va vd vb:Value) (E:List Ed) (D B:List Int) (s:Nat) (hE:zN w va E) (hD:iT w [] vd D) (hB:iT w [] vb B) (Bh:dY (N:Int) E=true) (hs:s<N) :
  Calls Tryz.prog 31 #[.agg #[.int .i64 (N:Int),va],.int .i64 (s:Int),vd,vb] w (Xc (uT (eN E) N s (passes (eN E) s N) D B) w):=by
 have hr:=jf Bh;have hbd:=mI hr;have hN:N<=4096:=ω;have hg:=tK Bh hs;have kd:=fun W (hW:aa [] w W)=>Ql W N va E s (hE.upd hW) Bh hs;obtain ⟨a,cap,rfl,hcap⟩:=hE.shape;obtain ⟨ad,capd,rfl,_,_,hcd⟩:=hD;obtain ⟨ab,capb,rfl,_,_,hcb⟩:=hB;have HE:=χ hE;have HD:=χ hcd;have HB:=χ hcb;have HW:=χ (ψ Bh (ψ hr hg));have HR:=χ (show Rx (eN E) s N (9223372036854775807 / N) (passes (eN E) s N) from lW hg N);have u0:aa [] w (w.alloc (.cells #[.int .i64 N,.slice a E.length cap] 57)):=(aa.refl _ _).alloc _;have Vq:E.length<=65536:=hbd.2.2;clear hE Bh hr hg hbd hcd hcb;generalize hn:E.length=n at *;have HN:=χ hn
 clear hn;generalize passes (eN E) s N=Z at *
 by_cases hl:D.length=N
 ·by_cases hl2:B.length=N
  ·have HL:=χ (ψ hl hl2);rw [hl,hl2];clear hl hl2;have hZl:=rY N Z;have HZL:=χ hZl;clear hZl
   go_enter Tryz.func31,Tryz.ntmps31
   go_wp2_with (first
    | ((go_at_call 55;(with_reducible refine (kd _ β).mono ?_));rintro e w1 ⟨v,rfl,hu1,ho1⟩;(obtain ⟨g,c9,rfl,hI,hgb,_⟩:=IE.iO ho1 ω);(have q0:w1.cell? ⟨w.heap.size,0,none⟩=some (.int .i64 (N:Int)):=hu1.was σ))
    | fail)
   clear q0
   go_loopw [10,11,12,13,14,32] (fun _ _ _ _ _ i wr=>∃k:Nat,k<=N/\i=.int .i64 (k:Int)/\(∀v,v<k->uZ (eN E) N s Z D B v)/\aa [] w1 wr) (fun _ _ _ _ _ i _=>N-(intOf i).toNat)
   case atStart=>exact ⟨0,ω,rfl,fun v hv=>ω,aa.refl _ _⟩
   case round=>
    obtain ⟨k,hk,rfl,hT,hu⟩:=hrel;rename World=>wr;have uQ:aa [] (w.alloc (.cells #[.int .i64 (N:Int),.slice a n cap] 57)) w1:=hu1;have HT:=χ hT;have HU:=χ (u0.trans (uQ.trans hu));have hsz:w.heap.size<wr.heap.size:=by have:=(uQ.trans hu).size;simp at this;omega
    have q0:wr.cell? ⟨w.heap.size,0,none⟩=some (.int .i64 (N:Int)):=(uQ.trans hu).was σ;have q1:wr.cell? ⟨w.heap.size,1,none⟩=some (.slice a n cap):=(uQ.trans hu).was σ;have Vp:=hI.upd hu σ;have HI:=χ hI;have HS:=χ (ψ uQ hu)
    by_cases hkN:k<N
    ·obtain ⟨gd,od,rfl,_,_,cd'⟩:=HD.out k (D.getD k 0) (by simp [φ,HL.out.1,hkN]);obtain ⟨gb,ob,rfl,_,_,cb'⟩:=HB.out k (B.getD k 0) (by simp [φ,HL.out.2,hkN]);have cd:=HU.out.was cd';have cb:=HU.out.was cb';have cz:=Vp.cell k (by rw [HZL.out];exact hkN);rw [nU hkN] at cz;have hgl:=Vp.lt;have hkI:(k:Int)<(N:Int):=ω;have hwr:IntKind.i64.wrap ((k:Int)+1)=(k:Int)+1:=IntWalk.i64_in _ ω;have HZ:=χ (show uZ (eN E) N s Z D B k↔D.getD k 0=((Z k:Nat):Int)/\((k=s\/Z k=inf)->B.getD k 0=-1)/\(¬ (k=s\/Z k=inf)->bf (eN E) (fun x=>B.getD x 0) Z s N k=true) from Iff.rfl)
     have SE:=χ (show ¬uZ (eN E) N s Z D B k->(false=true↔uT (eN E) N s Z D B) from fun h=>⟨fun e=>(by cases e),fun e=>absurd (e.2.2 k hkN) h⟩)
     have HGO:=χ (show uZ (eN E) N s Z D B k->∀v,v<k+1->uZ (eN E) N s Z D B v from fun h v hv=>by
      rcases (ω:v<k\/v=k) with h'|h'
      ·exact hT v h'
      ·rw [h'];exact h)
     clear cd' cb' hu hu1 uQ hI Vp hT;generalize D.getD k 0=dv at *;generalize hbk:B.getD k 0=bv at *;have HBK:=χ hbk;clear hbk
     by_cases e1:dv=((Z k:Nat):Int)
     ·have e1b:(dv != ((Z k:Nat):Int))=false:=by simpa using e1
      have Z9:=χ e1;clear e1;have hks:((k:Int) == (s:Int))=decide (k=s):=by
       rcases Nat.decEq k s with h|h
       ·rw [decide_eq_false h];simp;omega
       ·rw [decide_eq_true h];simp;omega
      have hzi:(((Z k:Nat):Int) == 9223372036854775807)=decide (Z k=inf):=by
       rw [show inf=9223372036854775807 from rfl];rcases Nat.decEq (Z k) 9223372036854775807 with h|h
       ·rw [decide_eq_false h];simp;omega
       ·rw [decide_eq_true h];simp;omega
      by_cases e2:k=s
      ·rw [decide_eq_true e2] at hks;have HK:=χ (show uZ (eN E) N s Z D B k↔bv=-1 from by rw [HZ.out];exact ⟨fun h=>h.2.1 (Or.inl e2),fun h=>⟨Z9.out,fun _=>h,fun h'=>absurd (Or.inl e2) h'⟩⟩);clear e2 hzi
       by_cases e3:bv=-1
       ·have e3b:(bv != -1)=false:=by simpa using e3
        have Av:=χ (HGO.out (HK.out.2 e3));clear e3;go_wp2
        go_quiet (fail)
        go_wp2
        go_roundw
        case rel=>exact ⟨k+1,ω,by go_num,Av.out,by have:=HS.out.2;exact β⟩
        case measure=>simp [intOf];omega
       ·have e3b:(bv != -1)=true:=by simpa using e3
        have Av:=χ (SE.out (fun h=>e3 (HK.out.1 h)));clear e3;go_wp2
        go_quiet (fail)
        go_wp2;go_ret;exact ⟨_,rfl,Av.out,by have:=HU.out;exact β⟩
      ·rw [decide_eq_false e2] at hks
       by_cases e4:Z k=inf
       ·rw [decide_eq_true e4] at hzi;have HK:=χ (show uZ (eN E) N s Z D B k↔bv=-1 from by rw [HZ.out];exact ⟨fun h=>h.2.1 (Or.inr e4),fun h=>⟨Z9.out,fun _=>h,fun h'=>absurd (Or.inr e4) h'⟩⟩);clear e2 e4
        by_cases e3:bv=-1
        ·have e3b:(bv != -1)=false:=by simpa using e3
         have Av:=χ (HGO.out (HK.out.2 e3));clear e3;go_wp2
         go_quiet (fail)
         go_wp2
         go_roundw
         case rel=>exact ⟨k+1,ω,by go_num,Av.out,by have:=HS.out.2;exact β⟩
         case measure=>simp [intOf];omega
        ·have e3b:(bv != -1)=true:=by simpa using e3
         have Av:=χ (SE.out (fun h=>e3 (HK.out.1 h)));clear e3;go_wp2
         go_quiet (fail)
         go_wp2;go_ret;exact ⟨_,rfl,Av.out,by have:=HU.out;exact β⟩
       ·rw [decide_eq_false e4] at hzi;have HK:=χ (show uZ (eN E) N s Z D B k↔bf (eN E) (fun x=>B.getD x 0) Z s N k=true from by rw [HZ.out];exact ⟨fun h=>h.2.2 (fun h'=>h'.elim e2 e4),fun h=>⟨Z9.out,fun h'=>(h'.elim e2 e4).elim,fun _=>h⟩⟩);clear e2 e4;go_wp2
        go_quiet (fail)
        go_wp2;have HC0:=χ (show ∀b,bf (eN E) (fun x=>B.getD x 0) Z s N k=b->(b=false->(false=true↔uT (eN E) N s Z D B))/\(b=true->∀v,v<k+1->uZ (eN E) N s Z D B v) from fun b hb=>⟨fun h=>SE.out (fun h'=>by have h2:=HK.out.1 h';rw [hb,h] at h2;cases h2),fun h=>HGO.out (HK.out.2 (by rw [hb,h]))⟩);have hus:=HS.out.2;clear hks hzi cd cb cz e1b q0 q1
        go_loopw [11,12,13,14] (fun at' kk _ _ wr=>∃x j:Nat,x<N/\j<=N/\at'=.int .i64 (x:Int)/\kk=.int .i64 (j:Int)/\bf (eN E) (fun x=>B.getD x 0) Z s N k=bf (eN E) (fun x=>B.getD x 0) Z s (N-j) x/\aa [] w1 wr) (fun _ kk _ _ _=>(N+1)-(intOf kk).toNat)
        case atStart=>exact ⟨k,0,hkN,ω,rfl,rfl,rfl,β⟩
        case round=>
         clear hus hsz hgl;obtain ⟨x,j,hx,hj,rfl,rfl,hch,hu⟩:=hrel;rename World=>wr;have uQ:=HS.out.1;have HU:=χ (u0.trans (uQ.trans hu));have hsz:w.heap.size<wr.heap.size:=by have:=(uQ.trans hu).size;simp at this;omega
         have q0:wr.cell? ⟨w.heap.size,0,none⟩=some (.int .i64 (N:Int)):=(uQ.trans hu).was σ;have q1:wr.cell? ⟨w.heap.size,1,none⟩=some (.slice a n cap):=(uQ.trans hu).was σ;have hxs:((x:Int) != (s:Int))=decide (x≠s):=by
          rcases Nat.decEq x s with h|h
          ·rw [decide_eq_true h];simp;omega
          ·rw [decide_eq_false (fun h'=>h' h)];simp;omega
         have HS2:=χ hu
         by_cases hxe:x=s
         ·rw [decide_eq_false (fun h'=>h' hxe)] at hxs;have Av:=χ ((HC0.out _ rfl).2 (by rw [hch,hxe];exact CJ _));clear hxe hch hu uQ;go_wp2
          go_roundw
          case rel=>exact ⟨k+1,ω,by go_num,Av.out,by have:=HS2.out;exact β⟩
          case measure=>simp [intOf];omega
         ·rw [decide_eq_true hxe] at hxs;obtain ⟨_,_,he2,_,_,cb'⟩:=HB.out x (B.getD x 0) (by simp [φ,HL.out.2,hx]);cases he2;have cb:=HU.out.was cb';have BK:(x:Int)<(N:Int):=ω
          by_cases hjN:j<N
          ·have Yr:bf (eN E) (fun x=>B.getD x 0) Z s N k=(iI (eN E) (fun x=>B.getD x 0) Z x && bf (eN E) (fun x=>B.getD x 0) Z s (N-(j+1)) (pE (eN E) (fun x=>B.getD x 0) x)):=by
            rw [hch,show N-j=(N-(j+1))+1 by omega,zB hxe]
           have hjw:IntKind.i64.wrap ((j:Int)+1)=(j:Int)+1:=IntWalk.i64_in _ ω;have hjNb:decide ((j:Int)≥(N:Int))=false:=ζ;have HOUT:=χ (show (B.getD x 0<0\/(E.length:Int)<=B.getD x 0)->(false=true↔uT (eN E) N s Z D B) from fun h=>(HC0.out _ rfl).1 (by rw [Yr,P9 h];rfl))
           have HAT:=χ (show ∀i f t y:Nat,i<E.length->B.getD x 0=(i:Int)->toN (E.getD i default)=⟨f,t,y⟩->bf (eN E) (fun x=>B.getD x 0) Z s N k=(decide (t=x) && decide (Z f≠inf) && decide (Z f+y=Z x) && bf (eN E) (fun x=>B.getD x 0) Z s (N-(j+1)) f) from fun i f t y hi hb he=>by
            obtain ⟨h1,h2⟩:=UH (b:=fun x=>B.getD x 0) (W:=Z) (x:=x) hi hb he
            rw [Yr,h1,h2])
           clear hch Yr hxe cb' hu uQ;generalize B.getD x 0=bx at *
           by_cases b1:bx<0
           ·have Av:=χ (HOUT.out (Or.inl b1));have ZZ:decide (bx<0)=true:=by simpa using b1
            clear b1;go_wp2;go_ret;exact ⟨_,rfl,Av.out,by have:=HU.out;exact β⟩
           ·have ZZ:decide (bx<0)=false:=by simpa using b1
            by_cases b2:bx≥(n:Int)
            ·have Av:=χ (HOUT.out (Or.inr (by have:=HN.out;omega)));have b2b:decide (bx≥(n:Int))=true:=by simpa using b2
             clear b1 b2;go_wp2;go_ret;exact ⟨_,rfl,Av.out,by have:=HU.out;exact β⟩
            ·obtain ⟨i,rfl⟩:∃i:Nat,bx=i:=⟨bx.toNat,ω⟩;have hin:i<n:=ω;have b2b:decide ((i:Int)≥(n:Int))=false:=by simpa using b2
             clear b1 b2;have Np:i<E.length:=by rw [HN.out];exact hin
             have hx':E[i]?=some (E.getD i default):=by simp [φ,Np]
             have hmem:E.getD i default∈E:=List.mem_of_getElem? hx';obtain ⟨ge,off,rfl,hg,c0,c1,c2⟩:=(HE.out.upd HU.out).at i Np;have h1:=iW HW.out.2.1 hmem;have h2:=l8 HW.out.1 hmem;have hE3:=HW.out.2.2.e _ (List.mem_map_of_mem (f:=toN) hmem);have hat:=fun f t y=>HAT.out i f t y Np rfl;have hinI:(i:Int)<(n:Int):=ω;generalize E.getD i default=e at *;obtain ⟨ef,et,ew⟩:=e;dsimp only at c0 c1 c2 h1 h2;obtain ⟨f,rfl⟩:∃f:Nat,ef=f:=⟨ef.toNat,ω⟩;obtain ⟨t,rfl⟩:∃t:Nat,et=t:=⟨et.toNat,ω⟩;obtain ⟨y,rfl⟩:∃y:Nat,ew=y:=⟨ew.toNat,ω⟩;have hf:f<N:=ω;have hfI:(f:Int)<(N:Int):=ω
             have Vp:=HI.out.upd HS2.out σ;have d1:=Vp.cell f (by rw [HZL.out];exact hf);have d2:=Vp.cell x (by rw [HZL.out];exact hx);rw [nU hf] at d1;rw [nU hx] at d2;have hgl:=Vp.lt;have hsum:Z f≠inf->Z f+y<=inf:=fun h=>HR.out.sum HW.out.2.2.nm (e:=⟨f,t,y⟩) hf (by simpa [toN] using hE3.2.2) h;have hle:=HR.out.le f;have hle2:=HR.out.le x;have hq:=hat f t y rfl;have WZ:=χ (HC0.out _ hq);have HQ:=χ hq;have hzi:(((Z f:Nat):Int) == 9223372036854775807)=decide (Z f=inf):=by
              rw [show inf=9223372036854775807 from rfl];rcases Nat.decEq (Z f) 9223372036854775807 with h|h
              ·rw [decide_eq_false h];simp;omega
              ·rw [decide_eq_true h];simp;omega
             clear hx' hmem hat hq h2 hE3 Vp;rw [show inf=9223372036854775807 from rfl] at *
             by_cases b3:t=x
             ·have b3b:((t:Int) != (x:Int))=false:=ζ
              by_cases b4:Z f=9223372036854775807
              ·rw [decide_eq_true b4] at hzi;have Av:=χ (WZ.out.1 (by simp [b4]));clear b3 b4 hsum;go_wp2
               go_quiet (fail)
               go_wp2;go_ret;exact ⟨_,rfl,Av.out,by have:=HU.out;exact β⟩
              ·rw [decide_eq_false b4] at hzi;have hsm:=hsum b4;have hwx:IntKind.i64.wrap (((Z f:Nat):Int)+(y:Int))=((Z f:Nat):Int)+(y:Int):=IntWalk.i64_in _ ω
               by_cases b5:Z f+y=Z x
               ·have b5b:(((Z f:Nat):Int)+(y:Int) != ((Z x:Nat):Int))=false:=ζ;have HQ2:=χ (show bf (eN E) (fun x=>B.getD x 0) Z s N k=bf (eN E) (fun x=>B.getD x 0) Z s (N-(j+1)) f from by rw [HQ.out];simp [b3,b4,b5]);clear b3 b4 b5 hsum;go_wp2
                go_quiet (fail)
                go_wp2
                go_roundw
                case rel=>exact ⟨f,j+1,hf,ω,rfl,by go_num,HQ2.out,by have:=HS2.out;exact β⟩
                case measure=>simp [intOf];omega
               ·have b5b:(((Z f:Nat):Int)+(y:Int) != ((Z x:Nat):Int))=true:=ζ;have Av:=χ (WZ.out.1 (by simp [b5]));clear b3 b4 b5 hsum;go_wp2
                go_quiet (fail)
                go_wp2;go_ret;exact ⟨_,rfl,Av.out,by have:=HU.out;exact β⟩
             ·have b3b:((t:Int) != (x:Int))=true:=ζ;have Av:=χ (WZ.out.1 (by simp [b3]));clear b3 hsum;go_wp2
              go_quiet (fail)
              go_wp2;go_ret;exact ⟨_,rfl,Av.out,by have:=HU.out;exact β⟩
          ·have hjNb:decide ((j:Int)≥(N:Int))=true:=ζ;have Av:=χ ((HC0.out _ rfl).1 (by rw [hch,show N-j=0 by omega];exact Js hxe));clear hxe hch cb' hu uQ;generalize B.getD x 0=bx at *;go_wp2;go_ret;exact ⟨_,rfl,Av.out,by have:=HU.out;exact β⟩
     ·have e1b:(dv != ((Z k:Nat):Int))=true:=by simpa using e1
      have Av:=χ (SE.out (fun h=>e1 (HZ.out.1 h).1));clear e1;go_wp2
      go_quiet (fail)
      go_wp2;go_ret;exact ⟨_,rfl,Av.out,by have:=HU.out;exact β⟩
    ·obtain rfl:k=N:=ω;clear hu1 hu hI Vp hT;go_wp2;go_ret;exact ⟨_,rfl,⟨fun _=>⟨HL.out.1,HL.out.2,HT.out⟩,fun _=>rfl⟩,HU.out⟩
  ·have hln:((B.length:Int) != (N:Int))=true:=ζ;have hlb:((D.length:Int) != (N:Int))=false:=ζ;have SE:=χ (show false=true↔uT (eN E) N s Z D B from ⟨fun e=>(by cases e),fun e=>absurd e.2.1 hl2⟩);clear hl hl2;generalize D.length=md at *;generalize B.length=mb at *
   go_enter Tryz.func31,Tryz.ntmps31
   go_wp2_with (first
    | ((go_at_call 55;(with_reducible refine (kd _ β).mono ?_));rintro e w1 ⟨v,rfl,hu1,ho1⟩;(have q0:w1.cell? ⟨w.heap.size,0,none⟩=some (.int .i64 (N:Int)):=hu1.was σ))
    | fail)
   go_ret;exact ⟨_,rfl,SE.out,u0.trans hu1⟩
 ·have hlb:((D.length:Int) != (N:Int))=true:=ζ;have SE:=χ (show false=true↔uT (eN E) N s Z D B from ⟨fun e=>(by cases e),fun e=>absurd e.1 hl⟩);clear hl;generalize D.length=md at *;generalize B.length=mb at *
  go_enter Tryz.func31,Tryz.ntmps31
  go_wp2_with (first
   | ((go_at_call 55;(with_reducible refine (kd _ β).mono ?_));rintro e w1 ⟨v,rfl,hu1,ho1⟩;(have q0:w1.cell? ⟨w.heap.size,0,none⟩=some (.int .i64 (N:Int)):=hu1.was σ))
   | fail)
  go_ret;exact ⟨_,rfl,SE.out,u0.trans hu1⟩
def X3 (E:List En) (b:Nat->Int) (s N:Nat):Prop:=∀v,v<N->b v≠-1->aac E b s v
def okV (E:List Ed) (s:Nat) (D B:List Int) (v:Nat):Prop:=
 ((v≠s/\D.getD v 0≠9223372036854775807)↔B.getD v 0≠-1)/\
 (v≠s/\D.getD v 0≠9223372036854775807->0<=B.getD v 0/\B.getD v 0<E.length/\JD D (E.getD (B.getD v 0).toNat default)=true/\(E.getD (B.getD v 0).toNat default).t=v)
structure WM (N s:Nat) (E:List Ed) (D B:List Int):Prop where
 lD:D.length=N
 lB:B.length=N
 d0:D.getD s 0=0
 b0:B.getD s 0=-1
 pos:D.any (fun x=>decide (x<0))=false
 feas:RL D E=true
 ok:∀v,v<N->okV E s D B v
 root:X3 (eN E) (fun x=>B.getD x 0) s N
theorem Mc (D:List Int):D.any (fun x=>decide (x<0))=false↔∀x,x∈D->0<=x:=by
 rw [List.any_eq_false];constructor
 ·intro h x hx;have:=h x hx;simp at this;exact this
 ·intro h x hx;have:=h x hx;simp;exact this
section
variable {N s:Nat} {E:List Ed} {D B:List Int}
theorem yj (hp:∀x,x∈D->0<=x) {v:Nat} (hv:v<D.length):((dN D v:Nat):Int)=D.getD v 0:=by
 have:=sM hp hv;unfold dN;omega
theorem PN (hw:dY (N:Int) E=true) (hl:D.length=N) (hp:∀x,x∈D->0<=x) {v:Nat} (hv:v<N) :
  iI (eN E) (fun x=>B.getD x 0) (dN D) v=true↔0<=B.getD v 0/\B.getD v 0<E.length/\JD D (E.getD (B.getD v 0).toNat default)=true/\(E.getD (B.getD v 0).toNat default).t=v:=by
 rw [iG,xI]
 by_cases h0:0<=B.getD v 0/\B.getD v 0<E.length
 ·obtain ⟨h1,h2⟩:=h0;obtain ⟨i,hi⟩:∃i:Nat,B.getD v 0=i:=⟨(B.getD v 0).toNat,ω⟩;have Np:i<E.length:=ω;have hx:E[i]?=some (E.getD i default):=by simp [φ,Np]
  have h3:=iW (jf hw) (List.mem_of_getElem? hx);have h4:=l8 hw (List.mem_of_getElem? hx);have Xf:Iu (eN E) (B.getD v 0)=toN (E.getD i default):=by rw [hi,IK E i Np]
  have UM:pE (eN E) (fun x=>B.getD x 0) v=(E.getD i default).f.toNat:=by
   rw [xe (by show B.getD v 0≠-1;omega)]
   show (Iu (eN E) (B.getD v 0)).f=_
   rw [Xf];rfl
  rw [UM]
  show (0<=B.getD v 0/\B.getD v 0<E.length/\(Iu (eN E) (B.getD v 0)).t=v/\_/\_+(Iu (eN E) (B.getD v 0)).w=_)↔_
  rw [Xf,hi,show (i:Int).toNat=i by omega];generalize E.getD i default=e at *;have hf:e.f.toNat<D.length:=ω;have ht:e.t.toNat<D.length:=ω;have d1:=yj hp hf;have d2:=yj hp ht;have d3:=yj hp (show v<D.length by omega);have p1:=sM hp hf;unfold JD WB;simp only [Bool.and_eq_true,decide_eq_true_eq]
  show (_/\_/\e.t.toNat=v/\dN D e.f.toNat≠inf/\dN D e.f.toNat + e.w.toNat=dN D v)↔_
  rw [show inf=9223372036854775807 from rfl];constructor
  ·rintro ⟨_,_,a1,a2,a3⟩;rw [a1] at d2 ⊢;exact ⟨ω,ω,⟨⟨p1,ω⟩,ω⟩,ω⟩
  ·rintro ⟨_,_,⟨⟨_,a2⟩,a3⟩,a4⟩;have a1:e.t.toNat=v:=ω;rw [a1] at a3;exact ⟨ω,ω,a1,ω,ω⟩
 ·constructor
  ·rintro ⟨a,b,_⟩;exact absurd ⟨a,b⟩ h0
  ·rintro ⟨a,b,_⟩;exact absurd ⟨a,b⟩ h0
theorem PO (hw:dY (N:Int) E=true) (hs:s<N) (hb:∀x,x∈D->x<=9223372036854775807):WM N s E D B↔uT (eN E) N s (passes (eN E) s N) D B:=by
 have hg:Ip (eN E) s N (9223372036854775807 / N):=tK hw hs;have hwp:∀e,e∈E->0<=e.w:=fun e he=>(l8 hw he).1;have main:∀ (YO:D.length=N) (hlB:B.length=N) (hp:∀x,x∈D->0<=x),WM N s E D B↔WA (eN E) N s (passes (eN E) s N) (dN D) (fun x=>B.getD x 0):=by
  intro YO hlB hp;have hd:∀v,v<N->dN D v<=inf:=fun v hv=>by
   have h1:=sM hb (i:=v) ω;have h2:=yj hp (v:=v) ω;rw [show inf=9223372036854775807 from rfl];omega
  rw [←CE hg hd];have hfe:=Oo (D:=D) (jf hw) ω hwp (fun x hx=>⟨hp x hx,hb x hx⟩);have hinf:∀v,v<N->(D.getD v 0≠9223372036854775807↔dN D v≠inf):=fun v hv=>by
   have h2:=yj hp (v:=v) ω;rw [show inf=9223372036854775807 from rfl];omega
  have hokv:∀v,v<N->(okV E s D B v↔((v≠s/\dN D v≠inf)↔B.getD v 0≠-1)/\(v≠s/\dN D v≠inf->iI (eN E) (fun x=>B.getD x 0) (dN D) v=true)):=fun v hv=>by
   unfold okV;rw [hinf v hv,PN hw YO hp hv]
  have hd0:D.getD s 0=0↔dN D s=0:=by have:=yj hp (v:=s) ω;omega
  constructor
  ·intro h;exact ⟨hd0.1 h.d0,h.b0,hfe.1 h.feas,fun v hv=>(hokv v hv).1 (h.ok v hv),h.root⟩
  ·rintro ⟨h1,h2,h3,h4,h5⟩;exact ⟨YO,hlB,hd0.2 h1,h2,(Mc D).2 hp,hfe.2 h3,fun v hv=>(hokv v hv).2 (h4 v hv),h5⟩
 constructor
 ·intro h;have hp:=(Mc D).1 h.pos;have hT:=(main h.lD h.lB hp).1 h;refine ⟨h.lD,h.lB,fun v hv=>?_⟩;obtain ⟨h1,h2,h3⟩:=hT v hv;exact ⟨by rw [←h1];exact (yj hp (by have:=h.lD;omega)).symm,h2,h3⟩
 ·rintro ⟨YO,hlB,hT⟩;have hp:∀x,x∈D->0<=x:=fun x hx=>by
   obtain ⟨v,hv,rfl⟩:=List.mem_iff_getElem.1 hx;have h1:=(hT v ω).1;have h2:D.getD v 0=D[v]:=by simp [φ,hv]
   rw [h2] at h1;omega
  refine (main YO hlB hp).2 fun v hv=>?_;obtain ⟨h1,h2,h3⟩:=hT v hv;exact ⟨by have:=yj hp (v:=v) ω;omega,h2,h3⟩
end
def uO (n:Nat) (b:Nat->Int):List Int:=(List.range n).map b
theorem Gg (n:Nat) (b:Nat->Int):(uO n b).length=n:=by unfold uO;simp
theorem E9 {n:Nat} {b:Nat->Int} {v:Nat} (hv:v<n):(uO n b).getD v 0=b v:=by unfold uO;simp [φ,hv]
theorem AQ {n:Nat} {b:Nat->Int} {x:Nat} {y:Int}:(uO n b).set x y=uO n (fun u=>if u=x then y else b u):=by
 apply List.ext_getElem?;intro j;unfold uO;rw [List.getElem?_set]
 by_cases h:x=j
 ·subst h
  by_cases hx:x<n
  ·simp [hx]
  ·simp [hx]
 ·simp [h]
  by_cases hj:j<n
  ·simp [hj];intro e;exact absurd e.symm h
  ·simp [hj]
def St (K:ig) (X:sI) (kd dd:Int) (E:List Ed) (s N m:Nat) (w:World) (F:List Nat) (d:Nat->Nat) (bt:Nat->Int) (S:List Nat) (W Rl:Nat->Prop):Prop:=
 ∃R A q c hc f sl,qz K w X F kd dd N (ni N d) (uO N bt) hc c f R A q/\DJ (eN E) s N m d bt S W Rl/\DS N d W R A q c hc f sl
theorem Qf (E:List Ed) (i:Nat) (hi:i<E.length):jE (eN E) i=toN (E.getD i default):=by
 unfold jE eN;simp [φ,hi]
section
variable {K:ig} {X:sI} {kd dd:Int} {E:List Ed} {s N m:Nat} {w:World} {F:List Nat} {d:Nat->Nat} {bt:Nat->Int} {S:List Nat} {W Rl:Nat->Prop}
theorem J4 (g:Ip (eN E) s N m) (hN:N<=65536) (hE:E.length<=65536) {v:Nat} (h:St K X kd dd E s N m w F d bt (v::S) W Rl) {i t x:Nat} (hi:i<E.length) (he:jE (eN E) i=⟨v,t,x⟩) :
  Calls Tryz.prog 54 #[.pointer (some ⟨X.b,0,none⟩),.int .i64 (t:Int),.int .i64 ((d v:Int)+(x:Int)),.int .i64 (i:Int)] w fun e w'=>e=.returned (.tuple #[])/\∃F' d' bt' W',St K X kd dd E s N m w' F' d' bt' (v::S) W' (fun j=>Rl j\/j=i)/\d' v=d v/\aa (X.own++F) w w'/\∀z,z∈F'->z∈F\/w.heap.size<=z:=by
 obtain ⟨R,A,q,c,hc,f,sl,hM,hJ,hS⟩:=h;have hi':i<(eN E).length:=by rw [xI];exact hi
 have hmem:=Ee hi';have hge:=g.e _ hmem;rw [he] at hge;obtain ⟨pQ,Ud,hxm⟩:=hge;have hvd:d v≠inf:=(hJ.rc v pQ).2 (Or.inl σ);have hsum:=hJ.rx.sum g.nm (e:=⟨v,t,x⟩) pQ hxm hvd;have hlet:=hJ.rx.le t;have Y1:(ni N d).getD t 0=((d t:Nat):Int):=nU Ud;have hef:(jE (eN E) i).f=v:=by rw [he]
 have het:(jE (eN E) i).t=t:=by rw [he]
 have hew:(jE (eN E) i).w=x:=by rw [he]
 have hmx:(inf:Nat)=9223372036854775807:=rfl;have hcast:((d v:Int)+(x:Int))=((d v+x:Nat):Int):=ω;dsimp only at hsum
 by_cases hlt:d v+x<d t
 ·have hdj:=XC g hJ hi' hef (by rw [hew,het];exact hlt);rw [het,hew] at hdj;have Zz:t∉v::S:=fun hm=>by have:=hJ.top t v S rfl hm;omega
  have hdv:cu d t (d v+x) v=d v:=by unfold cu;rw [if_neg (fun e=>Zz (by rw [←e];simp))]
  by_cases hti:d t=inf
  ·obtain ⟨R',hT,hg0,hS'⟩:=hS.new Ud hti (x':=d v+x) ω ω;have hq:=hS.qn;have hq2:=hS.next;have hq3:=EI d N;have hcn:=hS.cn;have key:=Cj hM t Ud ((d v:Int)+(x:Int)) (i:Int) (by rw [Y1,hti];rfl) ω ω hS.has ω hN ω hT;refine key.mono fun e w' ⟨h1,F',h2,h3,h4⟩=>⟨h1,F',cu d t (d v+x),(fun u=>if u=t then (i:Int) else bt u),(fun u=>W u\/u=t),?_,hdv,h3,h4⟩
   rw [hcast,wo,AQ] at h2;exact ⟨_,_,_,_,_,_,_,h2,hdj,hS'⟩
  ·have hWt:W t:=by
    rcases (hJ.rc t Ud).1 hti with e|e
    ·exact absurd e Zz
    ·exact e
   obtain ⟨a1,a2,a3,a4,a5⟩:=hS.wt t hWt;obtain ⟨b1,b2,b3,b4,b5⟩:=hS.Um t Ud hti;have hS':=hS.low hWt (x':=d v+x) ω hlet ω;have key:=OT hM t (sl t) Ud ((d v:Int)+(x:Int)) (i:Int) (by rw [Y1];omega) (by rw [Y1];omega) ω b3 (by rw [b4,b5];rfl) a3 (by rw [Y1];exact a5);refine key.mono fun e w' ⟨h1,F',h2,h3,h4⟩=>⟨h1,F',cu d t (d v+x),(fun u=>if u=t then (i:Int) else bt u),(fun u=>W u\/u=t),?_,hdv,h3,h4⟩
   rw [hcast,wo,AQ] at h2;exact ⟨_,_,_,_,_,_,_,h2,hdj,hS'⟩
 ·have hdj:=U9 hJ hef (by rw [hew,het];exact hlt);have key:=Q0 hM t Ud ((d v:Int)+(x:Int)) (i:Int) (by rw [Y1];omega);refine key.mono fun e w' ⟨h1,h2⟩=>⟨h1,F,d,bt,W,⟨R,A,q,c,hc,f,sl,hM.aA h2,hdj,hS⟩,rfl,h2.mono σ,fun z hz=>Or.inl hz⟩
end
end Go.Proofs.YtklibcncmbofpaaGreat
namespace Go.Proofs.YtklibcncmbofpaaGreat
open Go Go.RowKit Go.Maps
theorem Vl:(Tryz.prog.info? 85).map (fun i=>(i.zero,i.size,i.bytes))=some (some (.agg #[.int .i64 0,.int .u32 0]),2,16):=by kernel_rfl
def srV (vd vb:Value) (p gh mb N:Nat) (j:Nat):Value:=[vd,vb,Value.pointer (some ⟨p,0,none⟩),.slice (some ⟨gh,0,none⟩) N N,.map (some mb)].getD j undef
structure UB (w:World) (b p gh mb N k k2:Nat) (vd vb:Value):Prop where
 head:aP w b 109 5 (srV vd vb p gh mb N)
 od:w.ownsRow (b+1) 2 1 vd k (aV (List.replicate k 9223372036854775807))
 ob:w.ownsRow (b+1) 3 1 vb k2 (aV (List.replicate k2 (-1)))
 ne:∀g,vd.ownBlock=some g->vb.ownBlock≠some g
theorem UB.putD {w w4:World} {b p gh mb N k k2:Nat} {vd vb v4:Value} (h:UB w b p gh mb N k k2 vd vb) (ho:w4.ownsRow (b+1) 2 1 v4 (k+1) (aV (List.replicate (k+1) 9223372036854775807))) (hu:aa vd.ownBlock.toList w w4)
  (hv:v4.ownBlock=vd.ownBlock\/∀g,v4.ownBlock=some g->w.heap.size<g):UB (w4.setCell ⟨b,0,none⟩ v4) b p gh mb N (k+1) k2 v4 vb:=by
 have hb:b∉vd.ownBlock.toList:=fun e=>by have:=(h.od.lt b (by simpa using e)).1;omega
 have hU:aa [b] w4 (w4.setCell ⟨b,0,none⟩ v4):=(aa.refl _ _).setCell (Or.inl σ) _;refine ⟨((h.head.upd hu hb).set 0 v4).ext (fun j hj=>?_),aF ho hU (fun g hg e=>by simp at e;subst e;have:=(ho.lt _ hg).1;omega),aF (aF h.ob hu (fun g hg e=>h.ne g (by simpa using e) hg)) hU (fun g hg e=>by simp at e;subst e;have:=(h.ob.lt _ hg).1;omega),fun g hg hg2=>?_⟩
 ·rcases (ω:j=0\/j=1\/j=2\/j=3\/j=4) with rfl|rfl|rfl|rfl|rfl<;>simp [srV]
 ·rcases hv with e|e
  ·exact h.ne g (by rw [←e];exact hg) hg2
  ·have h1:=e g hg;have h2:=(h.ob.lt g hg2).2;omega
theorem UB.oz {w w4:World} {b p gh mb N k k2:Nat} {vd vb v4:Value} (h:UB w b p gh mb N k k2 vd vb) (ho:w4.ownsRow (b+1) 3 1 v4 (k2+1) (aV (List.replicate (k2+1) (-1)))) (hu:aa vb.ownBlock.toList w w4)
  (hv:v4.ownBlock=vb.ownBlock\/∀g,v4.ownBlock=some g->w.heap.size<g):UB (w4.setCell ⟨b,1,none⟩ v4) b p gh mb N k (k2+1) vd v4:=by
 have hb:b∉vb.ownBlock.toList:=fun e=>by have:=(h.ob.lt b (by simpa using e)).1;omega
 have hU:aa [b] w4 (w4.setCell ⟨b,1,none⟩ v4):=(aa.refl _ _).setCell (Or.inl σ) _;refine ⟨((h.head.upd hu hb).set 1 v4).ext (fun j hj=>?_),aF (aF h.od hu (fun g hg e=>h.ne g hg (by simpa using e))) hU (fun g hg e=>by simp at e;subst e;have:=(h.od.lt _ hg).1;omega),aF ho hU (fun g hg e=>by simp at e;subst e;have:=(ho.lt _ hg).1;omega),fun g hg hg2=>?_⟩
 ·rcases (ω:j=0\/j=1\/j=2\/j=3\/j=4) with rfl|rfl|rfl|rfl|rfl<;>simp [srV]
 ·rcases hv with e|e
  ·exact h.ne g hg (by rw [←e];exact hg2)
  ·have h1:=e g hg2;have h2:=(h.od.lt g hg).2;omega
theorem reps (k:Nat) (x:Int):aV (List.replicate (k+1) x)=aV (List.replicate k x)++[.int .i64 x]:=by
 rw [List.replicate_succ',bL];rfl
theorem MU {K:ig} {kd dd:Int} (N:Nat) (w:World) (hN:1<=N) (RQ:N<=4096) (hc:wZ kd dd=0) (ko:qo K kd dd N) :
  Calls Tryz.prog 52 #[.agg #[.int .i64 kd,.int .i64 dd],.int .i64 (N:Int)] w fun e w'=>∃X F hv,e=.returned (.tuple #[.pointer (some ⟨X.b,0,none⟩),.int .i64 0])/\qz K w' X F kd dd N (List.replicate N 9223372036854775807) (List.replicate N (-1)) hv 0 (fun _ _=>none) (AR.new N 1) (aS (NS.new N)) 0/\aa [] w w'/\(∀x,x∈X.own->w.heap.size<=x)/\∀x,x∈F->w.heap.size<=x:=by
 have kp:=fun W=>OB (K:=K) N 1 W ω ω hc ko;simp only [show ((1:Nat):Int)=1 from rfl] at kp;have hmm:=@run_makeMap Tryz.prog;have hmv:dG (NS.new N)=1:=by unfold dG NS.new;simp
 go_enter Tryz.func52,Tryz.ntmps52
 go_upto_region 7 with (first
  | ((go_at_call 64;(with_reducible refine (kp _).mono ?_));rintro e w1 ⟨p,F,rfl,hP,hu1,hf1⟩;(have kh:=DZ hP);(rw [hmv,if_neg ω] at kh))
  | ((go_at_call 65;(with_reducible refine (kh).mono ?_));rintro e w2 ⟨rfl,F2,hP2,hu2,hf2⟩)
  | (at_make;refine wpList_make_row rfl _ 107 rfl 85 (.agg #[.int .i64 0,.int .u32 0]) 2 16 Tryz.underlying107 Vl N rfl ω μ ?_;intro w3 hr3 hu3)
  | fail)
 have hh:=eO (w3.alloc (.map #[] 0)) [.slice none 0 0,.slice none 0 0,.pointer (some ⟨p,0,none⟩),.slice (some ⟨w2.heap.size,0,none⟩) N N,.map (some w3.heap.size)] 109;rw [World.size_alloc] at hh;refine jy (fun W=>UB W (w3.heap.size+1) p w2.heap.size w3.heap.size N 0 0 (.slice none 0 0) (.slice none 0 0)/\oC W w3.heap.size 0 (fun _ _=>none)/\aa [] w3 W/\W.heap.size=w3.heap.size+1+1)
  ⟨⟨hh.ext (fun j hj=>rfl),World.ownsRow_nil _ _ _ _,World.ownsRow_nil _ _ _ _,fun g hg=>by cases hg⟩,(oC.made w3).upd (S:=[]) ((aa.refl _ _).alloc _) σ,β,σ⟩ ?_
 rintro W0 ⟨hG0,hM0,hU0,hb0⟩;clear hh hmm kp kh;generalize hbb:w3.heap.size+1=b at *;have HBB:=χ hbb;clear hbb
 go_loopw [27] (fun i wr=>∃ (k:Nat) (vd vb:Value),k<=N/\i=.int .i64 (k:Int)/\UB wr b p w2.heap.size w3.heap.size N k k vd vb/\aa [b] W0 wr) (fun i _=>N-(intOf i).toNat)
 case atStart=>exact ⟨0,_,_,ω,rfl,hG0,aa.refl _ _⟩
 case round=>
  clear hG0;obtain ⟨k,vd,vb,hk,rfl,hG,hu⟩:=hrel;rename World=>wr
  by_cases hkN:k<N
  ·have hwr:IntKind.i64.wrap ((k:Int)+1)=(k:Int)+1:=IntWalk.i64_in _ ω;obtain ⟨ad,cd,rfl,hcd⟩:=bu hG.od;have z0:wr.cell? ⟨b,0,none⟩=some (.slice ad k cd):=hG.head.cellAt 0 ω rfl;have f0:=hG.head.free 0;have hod:=hG.od;have hbl:=hG.head.lt;have HG:=χ (ψ hG hu);clear hG hu
   go_upto_region 9 with (first
    | ((at_builtin;refine aU rfl _ _ 24 rfl (b+1) 2 (.int .i64 0) 1 8 Tryz.underlying24 Ec rfl δ _ _ _ rfl (hod) [.int .i64 (9223372036854775807:Int)] rfl (by simp [Value.oneCell']) (by first|rfl|(rw [World.size_alloc];rfl)) μ ω (ω) ?_;intro v4 w4 Zw iB WC);(have hb4:b∉(Value.slice ad k cd).ownBlock.toList:=fun e=>by have:=(hod.lt b (by simpa using e)).1;omega);(have z4:=iB.kept z0 hb4);(have f4:=iB.aL z0 hb4 f0);(obtain ⟨a4,c4,rfl,hc4⟩:=bu Zw))
    | fail)
   have hG1:=HG.out.1.putD (by rw [reps];exact Zw) iB WC;have Va:aa [b] W0 (w4.setCell ⟨b,0,none⟩ (.slice a4 (k+1) c4)):=(HG.out.2.joined iB (fun g hg=>Or.inr (by have:=(hod.lt g (Option.mem_toList.1 hg)).1;omega))).setCell (Or.inl σ) _;refine jy (fun W=>UB W b p w2.heap.size w3.heap.size N (k+1) k (.slice a4 (k+1) c4) vb/\aa [b] W0 W) ⟨hG1,Va⟩ ?_;clear hG1 Va z4 f4 hb4 Zw iB WC HG hod z0 f0 hbl;rintro W1 ⟨hG,hu⟩;obtain ⟨ab,cb,rfl,hcb⟩:=bu hG.ob;have z1:W1.cell? ⟨b,1,none⟩=some (.slice ab k cb):=hG.head.cellAt 1 ω rfl;have f1:=hG.head.free 1;have BP:=hG.ob;have hbl:=hG.head.lt
   have HG:=χ (ψ hG hu);clear hG hu
   go_wp2_with (first
    | ((at_builtin;refine aU rfl _ _ 26 rfl (b+1) 3 (.int .i64 0) 1 8 Tryz.underlying26 gz rfl δ _ _ _ rfl (BP) [.int .i64 (-1:Int)] rfl (by simp [Value.oneCell']) (by first|rfl|(rw [World.size_alloc];rfl)) μ ω (ω) ?_;intro v5 w5 YR dm aaD);(have hb5:b∉(Value.slice ab k cb).ownBlock.toList:=fun e=>by have:=(BP.lt b (by simpa using e)).1;omega);(have z5:=dm.kept z1 hb5);(have f5:=dm.aL z1 hb5 f1);(obtain ⟨a5,c5,rfl,ZA⟩:=bu YR))
    | fail)
   have hG2:=HG.out.1.oz (by rw [reps];exact YR) dm aaD;have DV:aa [b] W0 (w5.setCell ⟨b,1,none⟩ (.slice a5 (k+1) c5)):=(HG.out.2.joined dm (fun g hg=>Or.inr (by have:=(BP.lt g (Option.mem_toList.1 hg)).1;omega))).setCell (Or.inl σ) _;exact ⟨⟨k+1,_,_,ω,by go_num,hG2,DV⟩,by simp [intOf];omega⟩
  ·obtain rfl:k=N:=ω;obtain ⟨gd,cd,rfl,hID,hgd,hld⟩:=IE.iO hG.od hN;obtain ⟨gb,cb,rfl,hIB,hgb,hlb⟩:=IE.iO hG.ob hN;have HG:=χ (ψ hG (ψ hID hIB));have HU:=χ hu;clear hG hu hID hIB;go_wp2;go_ret2;obtain ⟨hG,hID,hIB⟩:=HG.out;have hu:=HU.out;have l1:=hr3.lt;have hF2:=hP2.lt;have s3:=hu3.size;have s2:=hu2.size;have s1:=hu1.size;rw [World.size_alloc] at s1;have hb':=HBB.out;have hneq:gd≠gb:=fun e=>hG.ne gd rfl (by rw [e];rfl);have uV:b∉F2:=fun e=>by have:=hF2 _ e;omega
   have hw1:aa [] w _:=aa.trans β hu1;have hw2:aa [] w w2:=hw1.joined hu2 (fun x hx=>Or.inr (by have:=hf1 x hx;simp at this;omega));have hw3:aa [] w W0:=(hw2.trans hu3).trans hU0;have hPr:=((hP2.aA hu3).aA hU0).upd hu (fun x hx=>by simp at hx;subst hx;exact uV);refine ⟨⟨b,p,gd,cd,gb,cb,w2.heap.size,w3.heap.size⟩,F2,_,rfl,⟨hG.head.ext (fun j hj=>rfl),hID,hIB,(hr3.upd hU0 σ).upd hu ζ,hM0.upd hu ζ,hPr,σ,σ,?_,fun x hx hm=>?_⟩,hw3.joined hu (fun x hx=>Or.inr (by simp at hx;subst hx;omega)),fun x hx=>?_,fun x hx=>?_⟩
   ·simp only [sI.own,List.nodup_cons,ρ,ς,or_false,not_or,List.nodup_nil,and_true,not_false_eq_true];refine ⟨⟨?_,?_,?_,?_⟩,⟨hneq,?_,?_⟩,⟨?_,?_⟩,?_⟩<;>omega
   ·have:=hF2 x hm;simp only [sI.own,ρ,ς,or_false] at hx;omega
   ·simp only [sI.own,ρ,ς,or_false] at hx;omega
   ·rcases hf2 x hx with e|e
    ·have:=hf1 x e;simp at this;omega
    ·omega
end Go.Proofs.YtklibcncmbofpaaGreat
namespace Go.Proofs.YtklibcncmbofpaaGreat
open Go Go.RowKit
theorem iT.off {w:World} {T:List Nat} {g n c:Nat} {xs:List Int} (h:iT w [] (.slice (some ⟨g,0,none⟩) n c) xs) (hg:g∉T):iT w T (.slice (some ⟨g,0,none⟩) n c) xs:=by
 obtain ⟨a,cap,he,h1,h2,h3⟩:=h;refine ⟨a,cap,he,h1,h2,fun j u hj=>?_⟩;obtain ⟨g',off,rfl,a1,a2,a3⟩:=h3 j u hj;cases he;exact ⟨_,_,rfl,a1,hg,a3⟩
theorem MO (n:Nat):cntF (fun _=>inf) n=0:=by
 induction n with
 | zero=>rfl
 | succ n ih=>rw [lX,ih];simp
theorem SX (n:Nat):ni n (fun _=>inf)=List.replicate n 9223372036854775807:=by
 apply List.ext_getElem?;intro j;unfold ni
 by_cases hj:j<n
 ·simp [hj,inf]
 ·simp [hj]
theorem Ug (n:Nat):uO n (fun _=>-1)=List.replicate n (-1):=by
 apply List.ext_getElem?;intro j;unfold uO
 by_cases hj:j<n
 ·simp [hj]
 ·simp [hj]
section
variable {K:ig} {X:sI} {kd dd:Int} {E:List Ed} {s N m:Nat} {w:World} {F:List Nat}
theorem VW (hN:N<=65536) (hc:Nat->Value):DS N (fun _=>inf) (fun _=>False) (AR.new N 1) (aS (NS.new N)) 0 0 hc (fun _ _=>none) (fun _=>0):=by
 refine ⟨AR.A8 hN ω,Gp (NS.A8 N hN),by rw [CQ];simp [NS.new],by simp [AR.new],fun x=>by rw [FX,PH,Q3],?_,rfl,rfl,by rw [MO];rfl,rfl,rfl,fun v hv hd=>absurd rfl hd,fun v hv=>hv.elim,fun x hx=>by rw [PH] at hx;cases hx⟩;unfold aS NS.new bK;simp
theorem AO (g:Ip (eN E) s N m) (hN:N<=65536) {hv:Nat->Value} (h:qz K w X F kd dd N (List.replicate N 9223372036854775807) (List.replicate N (-1)) hv 0 (fun _ _=>none) (AR.new N 1) (aS (NS.new N)) 0) :
  Calls Tryz.prog 54 #[.pointer (some ⟨X.b,0,none⟩),.int .i64 (s:Int),.int .i64 0,.int .i64 (-1)] w fun e w'=>e=.returned (.tuple #[])/\∃F',St K X kd dd E s N m w' F' (d0 s) (fun _=>-1) [] (fun v=>v=s) (fun _=>True)/\aa (X.own++F) w w'/\∀z,z∈F'->z∈F\/w.heap.size<=z:=by
 have Xm:=g.src;have hS:=VW hN hv;obtain ⟨R',hT,hg0,hS'⟩:=hS.new Xm rfl (x':=0) δ δ;have hd0:cu (fun _=>inf) s 0=d0 s:=rfl;have hW:(fun u=>False\/u=s)=(fun u=>u=s):=funext fun u=>propext ⟨fun e=>e.elim (fun e=>e.elim) id,Or.inr⟩;have Y1:(List.replicate N (9223372036854775807:Int)).getD s 0=9223372036854775807:=by simp [φ,Xm]
 have key:=Cj h s Xm 0 (-1) Y1 ω ω hS.has ω hN ω hT;refine key.mono fun e w' ⟨h1,F',h2,h3,h4⟩=>⟨h1,F',?_,h3,h4⟩
 rw [←SX,←Ug,show (0:Int)=((0:Nat):Int) from rfl,wo,AQ,hd0] at h2;rw [hd0,hW] at hS';have hb:(fun u=>if u=s then (-1:Int) else (fun _=>(-1:Int)) u)=fun _=>-1:=funext fun u=>by dsimp only;split<;>rfl
 rw [hb] at h2;exact ⟨_,_,_,_,_,_,_,h2,UJ Xm,hS'⟩
variable {d:Nat->Nat} {bt:Nat->Int} {S:List Nat} {W R:Nat->Prop}
theorem Cx (h:St K X kd dd E s N m w F d bt S W (fun _=>True)) (hN:N<=65536) :
  Calls Tryz.prog 41 #[.pointer (some ⟨X.p,0,none⟩),.int .i64 1] w fun e w'=>
   (e=.returned (.tuple #[.agg #[.int .i64 0,.int .u32 0],.int .i64 0,.int .i64 172])/\(∀v,¬W v)/\∃F',St K X kd dd E s N m w' F' d bt S W (fun _=>True)/\aa F w w'/\∀z,z∈F'->z∈F\/w.heap.size<=z)\/
   ∃v x:Nat,e=.returned (.tuple #[hV (x:Int) 1,.int .i64 (d v:Int),.int .i64 0])/\v<N/\v∉S/\x<65536/\W v/\∃F' c f,St K X kd dd E s N m w' F' d bt (v::S) (fun u=>W u/\u≠v) (fun i=>(jE (eN E) i).f≠v)/\oC w' X.mb c f/\f (x:Int) 1=some (v:Int)/\aa F w w'/\∀z,z∈F'->z∈F\/w.heap.size<=z:=by
 obtain ⟨R,A,q,c,hc,f,sl,hM,hJ,hS⟩:=h;cases hm:dW A 1 with
 | none=>
  have hno:=hS.none hm;refine (Tj hM.pq 1 ω hm).mono fun e w' ⟨h1,h2⟩=>Or.inl ⟨?_,hno,?_⟩
  ·rw [h1];unfold rT;rw [hS.has,hm];rfl
  ·obtain ⟨F',a1,a2,a3⟩:=hM.store h2;exact ⟨F',⟨R,A,q,c,hc,f,sl,a1,hJ,hS⟩,a2,a3⟩
 | some x=>
  obtain ⟨v,hW,hx,hk,hmin,hf,hg,hv⟩:=hS.min hm;have pQ:=hJ.wN v hW;have hxl:=AR.OX hv;have vv:=hS.ok.n;refine (NA hM.pq 1 hm).mono fun e w' ⟨h1,h2⟩=>Or.inr ⟨v,x,?_,pQ.1,pQ.2,ω,hW,?_⟩
  ·rw [h1,hg,hk];rfl
  ·obtain ⟨F',a1,a2,a3⟩:=hM.store h2;have hS2:=hS.take hW;rw [hx] at hS2;exact ⟨F',c,f,⟨_,_,q,c,hc,f,sl,a1,UO hJ hW hmin,hS2⟩,a1.map,hf,a2,a3⟩
theorem Wi (h:St K X kd dd E s N m w F d bt S W (fun _=>True)) (hN:N<=65536) (hno:∀v,¬W v) :
  Calls Tryz.prog 41 #[.pointer (some ⟨X.p,0,none⟩),.int .i64 1] w fun e w'=>e=.returned (.tuple #[.agg #[.int .i64 0,.int .u32 0],.int .i64 0,.int .i64 172])/\∃F',St K X kd dd E s N m w' F' d bt S W (fun _=>True)/\aa F w w'/\∀z,z∈F'->z∈F\/w.heap.size<=z:=
 (Cx h hN).mono fun e w' hh=>by
  rcases hh with ⟨h1,_,h2⟩|⟨v,x,_,_,_,_,hW,_⟩
  ·exact ⟨h1,h2⟩
  ·exact (hno v hW).elim
theorem Rw (h:St K X kd dd E s N m w F d bt S W (fun _=>True)) (hN:N<=65536) (hex:∃v,W v) :
  Calls Tryz.prog 41 #[.pointer (some ⟨X.p,0,none⟩),.int .i64 1] w fun e w'=>∃v x:Nat,e=.returned (.tuple #[.agg #[.int .i64 (x:Int),.int .u32 1],.int .i64 (d v:Int),.int .i64 0])/\v<N/\v∉S/\x<65536/\∃F' c f,St K X kd dd E s N m w' F' d bt (v::S) (fun u=>W u/\u≠v) (fun i=>(jE (eN E) i).f≠v)/\oC w' X.mb c f/\f (x:Int) 1=some (v:Int)/\aa F w w'/\∀z,z∈F'->z∈F\/w.heap.size<=z:=
 (Cx h hN).mono fun e w' hh=>by
  rcases hh with ⟨_,hno,_⟩|⟨v,x,h1,h2,h3,h4,_,h5⟩
  ·obtain ⟨v,hv⟩:=hex;exact (hno v hv).elim
  ·exact ⟨v,x,h1,h2,h3,h4,h5⟩
theorem St.cells (h:St K X kd dd E s N m w F d bt S W R):w.cell? ⟨X.b,0,none⟩=some (.slice (some ⟨X.gd,0,none⟩) N X.cd)/\w.cell? ⟨X.b,1,none⟩=some (.slice (some ⟨X.gb,0,none⟩) N X.cb)/\w.cell? ⟨X.b,2,none⟩=some (.pointer (some ⟨X.p,0,none⟩))/\w.cell? ⟨X.b,4,none⟩=some (.map (some X.mb)):=by
 obtain ⟨_,_,_,_,_,_,_,hM,_⟩:=h;exact ⟨hM.c0,hM.c1,hM.c2,hM.c4⟩
theorem St.aA {w':World} (h:St K X kd dd E s N m w F d bt S W R) (hu:aa [] w w'):St K X kd dd E s N m w' F d bt S W R:=by
 obtain ⟨R',A,q,c,hc,f,sl,hM,hJ,hS⟩:=h;exact ⟨R',A,q,c,hc,f,sl,hM.aA hu,hJ,hS⟩
theorem St.tree (h:St K X kd dd E s N m w F d bt S W (fun _=>True)) (g:Ip (eN E) s N m) (hno:∀v,¬W v) {T:List Nat} (hT1:X.gd∉T) (yN:X.gb∉T):iT w T (.slice (some ⟨X.gd,0,none⟩) N X.cd) (ni N d)/\iT w T (.slice (some ⟨X.gb,0,none⟩) N X.cb) (uO N bt)/\uT (eN E) N s (passes (eN E) s N) (ni N d) (uO N bt):=by
 obtain ⟨R',A,q,c,hc,f,sl,hM,hJ,hS⟩:=h;have hP:=Yp g.src g hJ hno;have hT:=(CE g (fun v _=>hJ.rx.le v)).1 hP;have o1:=hM.wU.own;have o2:=hM.by'.own;rw [rY] at o1;rw [Gg] at o2;refine ⟨(iT.Kc o1 σ).off hT1,(iT.Kc o2 σ).off yN,rY _ _,Gg _ _,fun v hv=>?_⟩;obtain ⟨a1,a2,a3⟩:=hT v hv;refine ⟨by rw [nU hv,a1],fun h=>by rw [E9 hv];exact a2 h,fun h=>?_⟩;have key:∀k x,x<N->bf (eN E) bt (passes (eN E) s N) s k x=true->bf (eN E) (fun x=>(uO N bt).getD x 0) (passes (eN E) s N) s k x=true:=by
  intro k
  induction k with
  | zero=>intro x _ h;exact h
  | succ k ih=>
   intro x hx h
   by_cases e:x=s
   ·rw [e];exact CJ _
   ·rw [zB e] at h ⊢;simp only [Bool.and_eq_true] at h ⊢;have e1:(uO N bt).getD x 0=bt x:=E9 hx;have e2:pE (eN E) (fun x=>(uO N bt).getD x 0) x=pE (eN E) bt x:=by unfold pE;simp only [e1]
    have e3:iI (eN E) (fun x=>(uO N bt).getD x 0) (passes (eN E) s N) x=iI (eN E) bt (passes (eN E) s N) x:=by unfold iI;simp only [e2,e1]
    rw [e2,e3];exact ⟨h.1,ih _ (qi g h.1) h.2⟩
 exact key N v hv (a3 h)
end
end Go.Proofs.YtklibcncmbofpaaGreat
