/-
  Lemmas for ProofHolds: Ds. Conditions: those of each lemma.
-/
import Derived.Test.YtklibcncmbofpaaGreatR33
set_option linter.all false
set_option maxHeartbeats 8000000
set_option maxRecDepth 10000
namespace Go.Proofs.YtklibcncmbofpaaGreat
open Go Go.RowKit
structure DS(N:Nat)(d:Nat->Nat)(W:Nat->Prop)(R:AR)(A:NS)(q c:Nat)(hc:Nat->Value)(f:Int->Int->Option Int)(sl:Nat->Nat):Prop where
 ok:R.Ok
 okA:A.Ok
 lA:A.cs.length=N
 lR:R.sl.length=N
 link:∀x:Nat,R.v x=bS A (x:Int)
 has:bJ A 1=true
 most:R.most=1
 wait:R.wait=[]
 next:R.next=cntF d N
 qn:q=R.next
 cn:c=R.next
 Vf:∀v,v<N->d v≠inf->sl v<R.next/\f (sl v:Int) 1=some (v:Int)/\hc (v*2)=.int .i64 (sl v:Int)/\hc (v*2+1)=.int .u32 1/\R.g (sl v)=1
 wt:∀v,W v->v<N/\d v≠inf/\R.v (sl v)=true/\(A.c (sl v)).i=1/\(A.c (sl v)).k=(d v:Int)
 lv:∀x,R.v x=true->∃v,W v/\sl v=x
section
variable {N:Nat}{d:Nat->Nat}{W:Nat->Prop}{R:AR}{A:NS}{q c:Nat}{hc:Nat->Value}{f:Int->Int->Option Int}{sl:Nat->Nat}
theorem DS.inj(h:DS N d W R A q c hc f sl){u v:Nat}(hu:u<N)(hu2:d u≠inf)(hv:v<N)(hv2:d v≠inf)(e:sl u=sl v):u=v:=by
 have h1:=(h.Vf u hu hu2).2.1;have h2:=(h.Vf v hv hv2).2.1;rw[e,h2]at h1;cases h1;omega
theorem DS.none(h:DS N d W R A q c hc f sl)(hm:dL A 1=none):∀v,¬W v:=fun v hv=>by
 have h1:=(jQ ω).1 hm;obtain⟨a1,a2,a3,a4,a5⟩:=h.wt v hv;have h3:bS A (sl v:Int)=true:=by rw[←h.link];exact a3
 have h4:=(ah _ _).1 h3;have:0<dO A 1:=fH.2 ⟨sl v,h4.1,a4,ω⟩;omega
theorem DS.min(h:DS N d W R A q c hc f sl){x:Nat}(hm:dL A 1=some x):∃v,W v/\sl v=x/\(A.c x).k=(d v:Int)/\(∀u,W u->d v<=d u)/\f (x:Int) 1=some (v:Int)/\R.g x=1/\R.v x=true:=by
 obtain⟨m1,m2,m3,m4⟩:=lK hm;have hv:R.v x=true:=by rw[h.link];exact m4
 obtain⟨v,hW,rfl⟩:=h.lv x hv;obtain⟨a1,a2,a3,a4,a5⟩:=h.wt v hW;have hs:=h.Vf v a1 a2;refine⟨v,hW,rfl,a5,fun u hu=>?_,hs.2.1,hs.2.2.2.2,hv⟩;obtain⟨b1,b2,b3,b4,b5⟩:=h.wt u hu;have hf:=(iT ω).1 hm;have hu3:bS A (sl u:Int)=true:=by rw[←h.link];exact b3
 have gX:=(ah _ _).1 hu3;rcases hf.2.2 (sl u) gX.1 b4 with e|e
 ·have:u=v:=h.inj b1 b2 a1 a2 e;rw[this];exact Nat.le_refl _
 ·unfold bZ at e;rw[a5,b5]at e;omega
theorem DS.take(h:DS N d W R A q c hc f sl){v:Nat}(hW:W v):DS N d (fun u=>W u/\u≠v) (kW R (sl v)) (bz A (sl v:Int)) q c hc f sl:=by
 obtain⟨a1,a2,a3,a4,a5⟩:=h.wt v hW;have hin:bS A (sl v:Int)=true:=by rw[←h.link];exact a3
 have hg:=(h.Vf v a1 a2).2.2.2.2;have hwt:(kW R (sl v)).wait=[]:=by
  show(if R.g (sl v)<R.most then R.wait++[sl v]else R.wait)=[]
  rw[if_neg (by rw[hg,h.most];omega),h.wait]
 have eg:∀y,(kW R (sl v)).g y=R.g y:=fun y=>by
  show(R.put (sl v) (R.g (sl v),false)).g y=_
  rw[AR.yC]
  split
  ·rename_i e;rw[e.1]
  ·rfl
 refine⟨(Fh h.ok a3).1,GU h.okA _,by rw[fG];exact h.lA,by rw[CB];exact h.lR,fun y=>by rw[EH a3,Lx hin,h.link],by rw[show bJ (bz A (sl v:Int)) 1=bJ A 1 from by unfold bJ;rw[iW]];exact h.has,h.most,hwt,h.next,h.qn,h.cn,fun u hu hd=>?_,fun u hu=>?_,fun y hy=>?_⟩
 ·obtain⟨b1,b2,b3,b4,b5⟩:=h.Vf u hu hd;exact⟨b1,b2,b3,b4,by rw[eg];exact b5⟩
 ·obtain⟨b1,b2,b3,b4,b5⟩:=h.wt u hu.1;have hne:sl u≠sl v:=fun e=>hu.2 (h.inj b1 b2 a1 a2 e);have hc:=x9 hin (sl u);rw[if_neg hne]at hc;exact⟨b1,b2,by rw[EH a3,b3,decide_eq_false hne];rfl,by rw[hc];exact b4,by rw[hc];exact b5⟩
 ·rw[EH a3]at hy;simp only[Bool.and_eq_true,Bool.not_eq_true',decide_eq_false_iff_not]at hy;obtain⟨u,hu,rfl⟩:=h.lv y hy.1;exact⟨u,⟨hu,fun e=>hy.2 (by rw[e])⟩,rfl⟩
theorem DS.new(h:DS N d W R A q c hc f sl){t x':Nat}(ht:t<N)(hd:d t=inf)(hx:x'≠inf)(hxm:x'<=inf):∃R',vz R=some (R.next,R')/\R.g R.next=0/\
  DS N (bI d t x') (fun u=>W u\/u=t) R' (aK A 1 (R.next:Int) (x':Int) ((q:Int)+1)) (q+1) (c+1) (yJ hc t (R.next:Int) ((R.g R.next:Int)+1)) (fun z e=>if z=(R.next:Int)/\e=(R.g R.next:Int)+1 then some (t:Int)else f z e) (bI sl t R.next):=by
 have hcs:=wJ (n:=N) ht hd hx;have hle:=EW (bI d t x') N;have hlt:R.next<N:=by rw[h.next];omega
 have hfr:=h.ok.fresh R.next (Nat.le_refl _);have hpk:uY R=some (R.next,{ R with next:=R.next+1 }):=by
  unfold uY;rw[h.wait];simp only[List.getLast?_nil];rw[if_neg (by rw[h.lR];omega)]
 obtain⟨R',hR⟩:∃R',R'=AR.put { R with next:=R.next+1 } R.next (R.g R.next+1,true):=⟨_,rfl⟩;have htk:vz R=some (R.next,R'):=by unfold vz;rw[hpk,hR];rfl
 obtain⟨t1,t2,t3,t4,t5,t6,t7⟩:=xz h.ok htk;have Yf:R'.next=R.next+1:=by rw[hR];rfl
 have hR'w:R'.wait=[]:=by rw[hR];exact h.wait
 have hR'g:∀y,R'.g y=if y=R.next then 1 else R.g y:=fun y=>by
  have e:R'.g y=(R.put R.next (R.g R.next+1,true)).g y:=by
   show(R'.sl.getD y (0,false)).1=((R.sl.set R.next (R.g R.next+1,true)).getD y (0,false)).1
   rw[t5]
  rw[e,AR.yC]
  by_cases e2:y=R.next
  ·rw[if_pos ⟨e2,t2⟩,if_pos e2,hfr.1]
  ·rw[if_neg (fun h=>e2 h.1),if_neg e2]
 have hBp:oG A 1 (R.next:Int)=true:=by
  rw[fB];refine⟨h.has,(gU _ _).2 ⟨ω,by rw[h.lA];omega⟩,?_⟩;rw[←h.link];exact hfr.2
 have hpc:∀y,(aK A 1 (R.next:Int) (x':Int) ((q:Int)+1)).c y=if y=R.next then ⟨1,x',(q:Int)+1⟩else A.c y:=fun y=>by
  unfold aK;rw[if_pos hBp,kH]
  by_cases e2:y=R.next
  ·rw[if_pos ⟨ω,by rw[h.lA];omega⟩,if_pos e2]
  ·rw[if_neg (fun h=>e2 ω),if_neg e2]
 have hsd:∀u,bI d t x' u≠inf->u≠t->d u≠inf:=fun u hu e=>by unfold bI at hu;rw[if_neg e]at hu;exact hu
 have hN4:N<=65536:=by have:=h.okA.c1;have:=h.lA;omega
 refine⟨R',htk,hfr.1,t1,zm h.okA _ _ _ _ ⟨ω,by unfold inf at hxm;omega,ω,by have:=h.qn;omega⟩,by rw[Gx];exact h.lA,by rw[t5];simp[h.lR],fun y=>by rw[Ak h.ok htk,Q3 hBp,h.link],?_,by rw[t6];exact h.most,hR'w,by rw[Yf,h.next,hcs],by rw[Yf,h.qn],by rw[Yf,h.cn],fun v hv hdv=>?_,fun v hv=>?_,fun y hy=>?_⟩
 ·unfold aK;rw[if_pos hBp];exact h.has
 ·by_cases e:v=t
  ·subst e;have e1:bI sl v R.next v=R.next:=by unfold bI;rw[if_pos rfl]
   rw[e1,hfr.1];refine⟨ω,by rw[if_pos ⟨rfl,ω⟩],?_,?_,by rw[hR'g,if_pos rfl]⟩
   ·unfold yJ;rw[if_neg ω,if_pos rfl]
   ·unfold yJ;rw[if_pos rfl];rfl
  ·have e1:bI sl t R.next v=sl v:=by unfold bI;rw[if_neg e]
   obtain⟨b1,b2,b3,b4,b5⟩:=h.Vf v hv (hsd v hdv e);rw[e1];refine⟨ω,by rw[if_neg (fun h=>by have:=h.1;omega)];exact b2,?_,?_,by rw[hR'g,if_neg ω];exact b5⟩
   ·unfold yJ;rw[if_neg ω,if_neg ω];exact b3
   ·unfold yJ;rw[if_neg ω,if_neg ω];exact b4
 ·rcases hv with hv|rfl
  ·obtain⟨b1,b2,b3,b4,b5⟩:=h.wt v hv;have e:v≠t:=fun e=>b2 (by rw[e];exact hd);have e1:bI sl t R.next v=sl v:=by unfold bI;rw[if_neg e]
   have e2:bI d t x' v=d v:=by unfold bI;rw[if_neg e]
   have hsn:=(h.Vf v b1 b2).1;have hne:sl v≠R.next:=ω;rw[e1,e2,hpc,if_neg hne];exact⟨b1,b2,by rw[Ak h.ok htk,b3];rfl,b4,b5⟩
  ·have e1:bI sl v R.next v=R.next:=by unfold bI;rw[if_pos rfl]
   have e2:bI d v x' v=x':=by unfold bI;rw[if_pos rfl]
   rw[e1,e2,hpc,if_pos rfl];exact⟨ht,hx,by rw[Ak h.ok htk];simp,rfl,rfl⟩
 ·rw[Ak h.ok htk]at hy;simp only[Bool.or_eq_true,decide_eq_true_eq]at hy
  by_cases e:y=R.next
  ·exact⟨t,Or.inr rfl,by unfold bI;rw[if_pos rfl,e]⟩
  ·obtain⟨u,hu,he⟩:=h.lv y (by rcases hy with h1|h1;exact h1;omega);have e2:u≠t:=fun e2=>(h.wt u hu).2.1 (by rw[e2];exact hd);exact⟨u,Or.inl hu,by unfold bI;rw[if_neg e2];exact he⟩
theorem DS.low(h:DS N d W R A q c hc f sl){t x':Nat}(hW:W t)(hx:x'<=d t)(hdi:d t<=inf)(hxi:x'≠inf):DS N (bI d t x') (fun u=>W u\/u=t) R (ay A (sl t:Int) (x':Int) (A.c (sl t)).s) q c hc f sl:=by
 obtain⟨a1,a2,a3,a4,a5⟩:=h.wt t hW;have hin:bS A (sl t:Int)=true:=by rw[←h.link];exact a3
 have hlo:=MI hin (k:=(x':Int)) (by rw[a5];omega);have hlc:=rD hlo ((ah _ _).1 hin).1;have hkey:=h.okA.key (sl t);have hiff:∀v,v<N->(bI d t x' v=inf↔d v=inf):=fun v hv=>by
  unfold bI
  by_cases e:v=t
  ·rw[if_pos e,e];exact⟨fun h=>absurd h hxi,fun h=>absurd h a2⟩
  ·rw[if_neg e]
 refine⟨h.ok,Lj h.okA _ _ _ ⟨ω,by unfold inf at hdi;omega,hkey.2.2.1,hkey.2.2.2⟩,by rw[fE];exact h.lA,h.lR,fun y=>by rw[Gp];exact h.link y,by rw[show bJ (ay A (sl t:Int) (x':Int) (A.c (sl t)).s) 1=bJ A 1 from by unfold bJ;rw[lJ]];exact h.has,h.most,h.wait,by rw[h.next];exact(Ef hiff).symm,h.qn,h.cn,fun v hv hd=>h.Vf v hv (fun e=>hd ((hiff v hv).2 e)),fun v hv=>?_,fun y hy=>?_⟩
 ·have hv':W v:=by rcases hv with h1|rfl;exact h1;exact hW
  obtain⟨b1,b2,b3,b4,b5⟩:=h.wt v hv';rw[hlc]
  by_cases e:v=t
  ·subst e;rw[if_pos rfl];have e2:bI d v x' v=x':=by unfold bI;rw[if_pos rfl]
   rw[e2];exact⟨b1,hxi,b3,b4,rfl⟩
  ·have hne:sl v≠sl t:=fun e2=>e (h.inj b1 b2 a1 a2 e2);rw[if_neg hne];have e2:bI d t x' v=d v:=by unfold bI;rw[if_neg e]
   rw[e2];exact⟨b1,b2,b3,b4,b5⟩
 ·obtain⟨u,hu,he⟩:=h.lv y hy;exact⟨u,Or.inl hu,he⟩
end
end Go.Proofs.YtklibcncmbofpaaGreat
