/-
  Lemmas for ProofHolds: PhT, Pho. Conditions: those of each lemma.
-/
import Derived.Test.YtklibcncmbofpaaGreatR31
import Derived.Test.YtklibcncmbofpaaGreatR36
set_option linter.all false
set_option maxHeartbeats 8000000
set_option maxRecDepth 10000
namespace Go.Proofs.YtklibcncmbofpaaGreat
open Go Go.RowKit
theorem V6{E:List En}{N s:Nat}{W:Nat->Nat}{D B:List Int}{b:Int}(h:sM E N s W D B)(hb:b∈B):∃v,v<N/\B.getD v 0=b:=by
 obtain⟨v,hv,rfl⟩:=List.mem_iff_getElem.1 hb;exact⟨v,by have:=h.2.1;omega,by simp[φ,hv]⟩
theorem UY{N s:Nat}{E:List Ed}{W:Nat->Nat}{D B:List Int}(hw:bE (N:Int) E=true)(h:sM (eN E) N s W D B)(b:Int)(hb:b∈B):b=-1\/b∈xN (N:Int) E D:=by
 obtain⟨v,hv,hbv⟩:=V6 h hb;obtain⟨hd,h1,h2⟩:=h.2.2 v hv
 by_cases c:v=s\/W v=inf
 ·exact Or.inl (by rw[←hbv];exact h1 c)
 ·have hc:=h2 c;obtain⟨k,rfl⟩:∃k,N=k+1:=⟨N-1,ω⟩;rw[Bb (fun e=>c (Or.inl e)),Bool.and_eq_true]at hc;have hs:=hc.1;unfold jA at hs;simp only[Bool.and_eq_true,decide_eq_true_eq,hbv]at hs;obtain⟨⟨⟨⟨a0,a1⟩,a2⟩,a3⟩,a4⟩:=hs;rw[zB]at a1;obtain⟨i,rfl⟩:∃i:Nat,b=i:=⟨b.toNat,ω⟩;have hi:i<E.length:=ω;rw[qU (by rw[hbv];omega),hbv]at a3 a4;rw[D8 E i hi]at a2 a3 a4;have he:E.getD i default∈E:=List.mem_of_getElem? (show E[i]?=some (E.getD i default) by simp[φ,hi]);have hr:=fe (gD hw) he;have NN:=jO hw he;refine Or.inr ?_;unfold xN;rw[if_pos ⟨hw,by have:=h.1;omega⟩];unfold jJ
  refine List.mem_map.2 ⟨i,List.mem_filter.2 ⟨List.mem_range.2 hi,?_⟩,rfl⟩;generalize E.getD i default=e at *;have ht:e.t.toNat=v:=a2;have hf:=(h.2.2 e.f.toNat ω).1;have a3':W e.f.toNat≠inf:=a3;have a4':W e.f.toNat + e.w.toNat=W v:=a4;unfold iF xh;rw[ht,hd,hf];have n3:W e.f.toNat≠9223372036854775807:=a3';simp only[Bool.and_eq_true,decide_eq_true_eq];exact⟨⟨ω,ω⟩,ω⟩
theorem LK{N s:Nat}{E:List Ed}{D B:List Int}(hw:bE (N:Int) E=true)(hs:s<N)(h:sM (eN E) N s (passes (eN E) s N) D B):∀x,x∈D->-9223372036854775808<=x/\x<=9223372036854775807:=by
 intro x hx;obtain⟨v,hv,rfl⟩:=List.mem_iff_getElem.1 hx;have hd:=(h.2.2 v (by have:=h.1;omega)).1;have hle:passes (eN E) s N v<=9223372036854775807:=(nT (xY hw hs) N).le v;simp only[φ,ε hv,Option.getD_some]at hd;rw[hd];omega
theorem Gl(w:World)(N s:Nat)(va vd vb:Value)(E:List Ed)(D B:List Int)(hE:vY w va E)(rT:bE (N:Int) E=true)(hs:s<N)(hD:gI w [] vd D)(hB:gI w [] vb B)(hT:sM (eN E) N s (passes (eN E) s N) D B)(hwb:∀e,e∈E->e.w<=9223372036854775807) :
  Calls Tryz.prog 37 #[.agg #[.int .i64 (N:Int),va],.int .i64 (s:Int),.agg #[vd,vb]] w fun r w'=>r=.returned (.bool true)/\aa [] w w':=
 (vK w N va vd vb E D B s hE hwb hD hB (LK rT hs hT)).mono fun r w' h=>vB h ⟨fun _=>⟨rT,ω,ω,hT⟩,fun _=>rfl⟩
def kV(T:List Int)(x:Int)(j:Nat):Prop:=x=-1\/∃i,i<j/\T[i]?=some x
theorem kV.zero{T:List Int}{x:Int}:(x == -1)=true↔kV T x 0:=by
 unfold kV;simp
theorem kV.yes{T:List Int}{x:Int}{j:Nat}(h:kV T x j):kV T x (j+1):=h.imp id (fun ⟨i,h1,h2⟩=>⟨i,ω,h2⟩)
theorem kV.next{T:List Int}{x y:Int}{j:Nat}(hj:T[j]?=some y)(h:¬kV T x j):(y == x)=true↔kV T x (j+1):=by
 unfold kV at *;constructor
 ·intro e;exact Or.inr ⟨j,ω,by rw[hj];simpa using e⟩
 ·rintro(e|⟨i,h1,h2⟩)
  ·exact absurd (Or.inl e) h
  ·rcases(ω:i<j\/i=j)with h'|rfl
   ·exact absurd (Or.inr ⟨i,h',h2⟩) h
   ·rw[hj]at h2;simpa using h2
theorem kV.all{T:List Int}{x:Int}(h:x=-1\/x∈T):kV T x T.length:=h.imp id (fun h=>by
 obtain⟨i,hi,he⟩:=List.mem_iff_getElem.1 h
 exact⟨i,hi,by rw[ε hi,he]⟩)
theorem Ji(w:World)(v:Value)(kd d N src:Int)(E:List Ed)(va:Value)(hG:Me w v N E va) :
  Calls Tryz.prog 13 #[.agg #[.int .i64 kd,.int .i64 d],v,.int .i64 src] w fun r w'=>r=.returned (.bool true)/\aa [] w w':=by
 obtain⟨rfl,hE,hwb⟩:=hG;have kf:=fun W (hW:aa [] w W)=>M9 kd d N src va E W (hE.upd hW);have hE0:=hE;obtain⟨a,cap,rfl,hcap⟩:=hE.shape;have HE:=χ (ψ hE0 hwb);clear hE hE0 hwb;cases hg:JK N E.length with
 | true=>
  clear kf;generalize E.length=n at *
  go_enter Tryz.func13,Tryz.ntmps13
  go_wp2_with (first|((go_at_call 35;(with_reducible refine(vP _).mono ?_));rintro e w1 ⟨rfl,hu1⟩;(have q10:w1.cell? ⟨w.heap.size,0,none⟩=some (.int .i64 kd):=hu1.was γ);(have q11:w1.cell? ⟨w.heap.size,1,none⟩=some (.int .i64 d):=hu1.was γ);(have q12:w1.cell? ⟨w.heap.size+1,0,none⟩=some (.int .i64 N):=hu1.was γ);(have q13:w1.cell? ⟨w.heap.size+1,1,none⟩=some (.slice a n cap):=hu1.was γ);(have hw1:aa [] w w1:=aa.trans β hu1))|((go_at_call 36;(with_reducible refine(yx _ _ _ _ _).mono ?_));rw[hg];rintro e w2 ⟨rfl,hu2⟩;(have q20:=hu2.was q10);(have q21:=hu2.was q11);(have q22:=hu2.was q12);(have q23:=hu2.was q13);(have hw2:=hw1.trans hu2))|fail)
  go_ret;exact⟨rfl,hw2⟩
 | false=>
  by_cases hf:vO kd d N src E=0
  ·obtain⟨hc,rT,hs0,XQ⟩:=IP hf;obtain⟨N,rfl⟩:∃q:Nat,N=q:=⟨N.toNat,ω⟩;obtain⟨s,rfl⟩:∃q:Nat,src=q:=⟨src.toNat,ω⟩;have hr:=gD rT;have hbd:=lN hr;obtain⟨K,ko⟩:=NF kd d N hc ω;have kF:=fun W (hW:aa [] w W)=>RO (K:=K) (kd:=kd) (dd:=d) W N s (.slice a E.length cap) E (HE.out.1.upd hW) rT ω hc ko;have kP:=fun W vd vb D B (hW:aa [] w W) (hD:gI W [] vd D) (hB:gI W [] vb B) (hT:sM (eN E) N s (passes (eN E) s N) D B)=>Gl W N s (.slice a E.length cap) vd vb E D B (HE.out.1.upd hW) rT ω hD hB hT (fun e he=>(HE.out.2 e he).2)
   have kT:=fun W vd D B (hW:aa [] w W) (hD:gI W [] vd D) (hT:sM (eN E) N s (passes (eN E) s N) D B)=>Nb W N (.slice a E.length cap) vd E D (HE.out.1.upd hW) (fun e he=>(HE.out.2 e he).2) hD (LK rT ω hT);have HB:=χ (fun(D B:List Int) (hT:sM (eN E) N s (passes (eN E) s N) D B)=>UY rT hT);rw[hf]at kf;clear hf hc rT hs0 XQ hr hbd ko;generalize hn:E.length=n at *;clear hn
   go_enter Tryz.func13,Tryz.ntmps13
   go_wp2_with (first
    | ((go_at_call 35;(with_reducible refine(vP _).mono ?_));rintro e w1 ⟨rfl,hu1⟩;(have q10:w1.cell? ⟨w.heap.size,0,none⟩=some (.int .i64 kd):=hu1.was γ);(have q11:w1.cell? ⟨w.heap.size,1,none⟩=some (.int .i64 d):=hu1.was γ);(have q12:w1.cell? ⟨w.heap.size+1,0,none⟩=some (.int .i64 N):=hu1.was γ);(have q13:w1.cell? ⟨w.heap.size+1,1,none⟩=some (.slice a n cap):=hu1.was γ);(have hw1:aa [] w w1:=aa.trans β hu1))|((go_at_call 36;(with_reducible refine(yx _ _ _ _ _).mono ?_));rw[hg];rintro e w2 ⟨rfl,hu2⟩;(have q20:=hu2.was q10);(have q21:=hu2.was q11);(have q22:=hu2.was q12);(have q23:=hu2.was q13);(have hw2:=hw1.trans hu2))|((go_at_call 30;(with_reducible refine(kf _ hw2).mono ?_));rintro e w3 ⟨rfl,hu3⟩;(have q30:=hu3.was q20);(have q31:=hu3.was q21);(have q32:=hu3.was q22);(have q33:=hu3.was q23);(have hw3:=hw2.trans hu3))
    | ((go_at_call 29;(with_reducible refine(kF _ hw3).mono ?_));rintro e w4 ⟨vd,vb,D,B,rfl,hD,hB,hT,gX⟩;(have kP4:=fun W (hW:aa [] w4 W)=>kP W vd vb D B (hw3.trans (gX.trans hW)) (hD.fresh hW (F':=[]) (fun g hg=>Or.inl hg)) (hB.fresh hW (F':=[]) (fun g hg=>Or.inl hg)) hT);(have kT4:=fun W (hW:aa [] w4 W)=>kT W vd D B (hw3.trans (gX.trans hW)) (hD.fresh hW (F':=[]) (fun g hg=>Or.inl hg)) hT);(have HBT:=χ (HB.out D B hT));obtain⟨ad,cd,rfl,hd1,hd2, -⟩:=hD;obtain⟨ab,cb,rfl,hb1,hb2,hcb⟩:=hB;(have HBS:=χ hcb);(have q40:=gX.was q30);(have q41:=gX.was q31);(have q42:=gX.was q32);(have q43:=gX.was q33);(have hb3:w.heap.size+1<w4.heap.size:=World.block_lt_of_cell? _ _ q42);(have hb4:w.heap.size<w4.heap.size:=World.block_lt_of_cell? _ _ q40);(have hw4:=hw3.trans gX);clear hT hcb)
    | ((go_at_call 37;(with_reducible refine(kP4 _ β).mono ?_));rintro e w5 ⟨rfl,bW⟩;(have t50:w5.cell? ⟨w4.heap.size,0,none⟩=some (.slice ad D.length cd):=bW.was γ);(have t51:w5.cell? ⟨w4.heap.size,1,none⟩=some (.slice ab B.length cb):=bW.was γ);(have Li:aa [] w4 w5:=aa.trans β bW);(have q52:=Li.was q42);(have q53:=Li.was q43))
    | ((go_at_call 38;(with_reducible refine(kT4 _ Li).mono ?_));rintro e w6 ⟨vt,rfl,ik,hS⟩;obtain⟨ag,cg,rfl,hg1,hg2,hcg⟩:=hS;(have HS:=χ hcg);(have t61:=ik.was t51);(have Cr:=Li.trans ik))
    | fail)
   have HW:=χ hw4;clear hcg kP4 kT4 kf kF kP kT hu1 hu2 hu3 gX bW ik q40 q41 q42 q43 t50 t51 q52 q53
   go_loopw [11,12,14,49] (fun _ _ _ i wr=>∃k:Nat,k<=B.length/\i=.int .i64 (k:Int)/\aa [] w6 wr) (fun _ _ _ i _=>B.length-(intOf i).toNat)
   case atStart=>exact⟨0,ω,rfl,aa.refl _ _⟩
   case round=>
    obtain⟨k,hk,rfl,hu⟩:=hrel;rename World=>wr
    by_cases hkn:k<B.length
    ·have hx:B[k]?=some (B.getD k 0):=by simp[φ,hkn]
     obtain⟨g,off,rfl,hgl, -,c0⟩:=HBS.out k _ hx;have cb:=(Cr.trans hu).was c0;have hgr:=Nat.lt_of_lt_of_le hgl (Cr.trans hu).size;have hall:=HBT.out _ (List.mem_of_getElem? hx);have hkI:(k:Int)<(B.length:Int):=ω;have hwr:IntKind.i64.wrap ((k:Int)+1)=(k:Int)+1:=IntWalk.i64_in _ ω;generalize B.getD k 0=x at *;have abM:=χ (kV.all hall);clear hall c0 hx;have h0:=@kV.zero (xN (N:Int) E D) x;generalize htl:xN (N:Int) E D=T at *;have hb0:(x == -1)=decide (x=-1):=rfl;generalize hbb:(x == -1)=b0 at *;clear hb0;generalize hbl:B.length=bn at *;go_wp2;have HU:=χ hu;clear cb hu
     go_loopw [12,14,57] (fun b' _ i wr=>∃ (j:Nat) (b:Bool),j<=T.length/\i=.int .i64 (j:Int)/\b'=.bool b/\(b=true↔kV T x j)/\aa [] w6 wr) (fun _ _ i _=>T.length-(intOf i).toNat)
     case atStart=>exact⟨0,b0,ω,rfl,rfl,h0,HU.out⟩
     case round=>
      clear h0;obtain⟨j,b,hj,rfl,rfl,hb,hu⟩:=hrel;rename World=>wr
      by_cases hjn:j<T.length
      ·have hy:T[j]?=some (T.getD j 0):=by simp[φ,hjn]
       obtain⟨g2,UQ,rfl,hgl2, -,c1⟩:=HS.out j _ hy;have cy:=hu.was c1;have hgr2:=Nat.lt_of_lt_of_le hgl2 hu.size;have XF:(j:Int)<(T.length:Int):=ω;have hwr2:IntKind.i64.wrap ((j:Int)+1)=(j:Int)+1:=IntWalk.i64_in _ ω;have hnx:=@kV.next T x (T.getD j 0) j hy;have hys:kV T x j->kV T x (j+1):=kV.yes;generalize T.getD j 0=y at *;generalize htn:T.length=tn at *;have HTN:=χ htn;clear htn;cases b with
       | true=>
        have HN:=χ (hys (hb.1 rfl));clear hb hnx hys c1 hy;go_wp2;exact⟨⟨j+1,true,by have:=HTN.out;omega,by go_num,rfl,⟨fun _=>HN.out,fun _=>rfl⟩,hu⟩,by simp[intOf];omega⟩
       | false=>
        have hnb:¬kV T x j:=fun h=>by have:=hb.2 h;cases this
        have HN:=χ (hnx hnb);clear hb hnx hys c1 hy hnb;go_wp2;exact⟨⟨j+1,(y == x),by have:=HTN.out;omega,by go_num,rfl,HN.out,hu⟩,by simp[intOf];omega⟩
      ·have XF:¬ (j:Int)<(T.length:Int):=ω
       have hbt:b=true:=hb.2 (by have:j=T.length:=ω;rw[this];exact abM.out)
       subst hbt;clear hb;go_wp2
       go_roundw
       case rel=>exact⟨k+1,ω,by go_num,hu⟩
       case measure=>simp[intOf];omega
    ·have hkI:¬ (k:Int)<(B.length:Int):=ω;go_wp2;go_ret;exact⟨rfl,HW.out.trans (Cr.trans hu)⟩
  ·have hv:(vO kd d N src E != 0)=true:=by simpa using hf
   clear hf;generalize vO kd d N src E=f at *;generalize E.length=n at *
   go_enter Tryz.func13,Tryz.ntmps13
   go_wp2_with (first|((go_at_call 35;(with_reducible refine(vP _).mono ?_));rintro e w1 ⟨rfl,hu1⟩;(have q10:w1.cell? ⟨w.heap.size,0,none⟩=some (.int .i64 kd):=hu1.was γ);(have q11:w1.cell? ⟨w.heap.size,1,none⟩=some (.int .i64 d):=hu1.was γ);(have q12:w1.cell? ⟨w.heap.size+1,0,none⟩=some (.int .i64 N):=hu1.was γ);(have q13:w1.cell? ⟨w.heap.size+1,1,none⟩=some (.slice a n cap):=hu1.was γ);(have hw1:aa [] w w1:=aa.trans β hu1))|((go_at_call 36;(with_reducible refine(yx _ _ _ _ _).mono ?_));rw[hg];rintro e w2 ⟨rfl,hu2⟩;(have q20:=hu2.was q10);(have q21:=hu2.was q11);(have q22:=hu2.was q12);(have q23:=hu2.was q13);(have hw2:=hw1.trans hu2))|((go_at_call 30;(with_reducible refine(kf _ hw2).mono ?_));rintro e w3 ⟨rfl,hu3⟩;(have q30:=hu3.was q20);(have q31:=hu3.was q21);(have q32:=hu3.was q22);(have q33:=hu3.was q23);(have hw3:=hw2.trans hu3))|fail)
   go_ret;exact⟨rfl,hw3⟩
end Go.Proofs.YtklibcncmbofpaaGreat
