/-
  Lemmas for ProofOne: Ds. Conditions: those of each lemma.
-/
import Derived.Test.YtklibcncmbofpaaGreatO16
set_option linter.all false
set_option maxHeartbeats 8000000
set_option maxRecDepth 10000
namespace Go.Proofs.YtklibcncmbofpaaGreat
open Go Go.RowKit
structure DS (N:Nat) (d:Nat->Nat) (W:Nat->Prop) (R:AR) (A:NS) (q c:Nat) (hc:Nat->Value) (f:Int->Int->Option Int) (sl:Nat->Nat):Prop where
 ok:R.Ok
 okA:A.Ok
 lA:A.cs.length=N
 lR:R.sl.length=N
 link:∀x:Nat,R.v x=bM A (x:Int)
 has:bB A 1=true
 most:R.most=1
 wait:R.wait=[]
 next:R.next=cntF d N
 qn:q=R.next
 cn:c=R.next
 VF:∀v,v<N->d v≠inf->sl v<R.next/\f (sl v:Int) 1=some (v:Int)/\hc (v*2)=.int .i64 (sl v:Int)/\hc (v*2+1)=.int .u32 1/\R.g (sl v)=1
 wt:∀v,W v->v<N/\d v≠inf/\R.v (sl v)=true/\(A.c (sl v)).i=1/\(A.c (sl v)).k=(d v:Int)
 lv:∀x,R.v x=true->∃v,W v/\sl v=x
section
variable {N:Nat} {d:Nat->Nat} {W:Nat->Prop} {R:AR} {A:NS} {q c:Nat} {hc:Nat->Value} {f:Int->Int->Option Int} {sl:Nat->Nat}
theorem DS.inj (h:DS N d W R A q c hc f sl) {u v:Nat} (hu:u<N) (hu2:d u≠inf) (hv:v<N) (hv2:d v≠inf) (e:sl u=sl v):u=v:=by
 have h1:=(h.VF u hu hu2).2.1;have h2:=(h.VF v hv hv2).2.1;rw [e,h2] at h1;cases h1;omega
theorem DS.none (h:DS N d W R A q c hc f sl) (hm:dD A 1=none):∀v,¬W v:=fun v hv=>by
 have h1:=(jD ω).1 hm;obtain ⟨a1,a2,a3,a4,a5⟩:=h.wt v hv;have h3:bM A (sl v:Int)=true:=by rw [←h.link];exact a3
 have h4:=(ae _ _).1 h3;have:0<dF A 1:=eH.2 ⟨sl v,h4.1,a4,ω⟩;omega
theorem DS.min (h:DS N d W R A q c hc f sl) {x:Nat} (hm:dD A 1=some x):∃v,W v/\sl v=x/\(A.c x).k=(d v:Int)/\(∀u,W u->d v<=d u)/\f (x:Int) 1=some (v:Int)/\R.g x=1/\R.v x=true:=by
 obtain ⟨m1,m2,m3,m4⟩:=lg hm;have hv:R.v x=true:=by rw [h.link];exact m4
 obtain ⟨v,hW,rfl⟩:=h.lv x hv;obtain ⟨a1,a2,a3,a4,a5⟩:=h.wt v hW;have hs:=h.VF v a1 a2;refine ⟨v,hW,rfl,a5,fun u hu=>?_,hs.2.1,hs.2.2.2.2,hv⟩;obtain ⟨b1,b2,b3,b4,b5⟩:=h.wt u hu;have hf:=(iE ω).1 hm;have hu3:bM A (sl u:Int)=true:=by rw [←h.link];exact b3
 have fP:=(ae _ _).1 hu3;rcases hf.2.2 (sl u) fP.1 b4 with e|e
 ·have:u=v:=h.inj b1 b2 a1 a2 e;rw [this];exact Θ _
 ·unfold bU at e;rw [a5,b5] at e;omega
theorem DS.take (h:DS N d W R A q c hc f sl) {v:Nat} (hW:W v):DS N d (fun u=>W u/\u≠v) (kG R (sl v)) (aY A (sl v:Int)) q c hc f sl:=by
 obtain ⟨a1,a2,a3,a4,a5⟩:=h.wt v hW;have hin:bM A (sl v:Int)=true:=by rw [←h.link];exact a3
 have hg:=(h.VF v a1 a2).2.2.2.2;have hwt:(kG R (sl v)).wait=[]:=by
  show (if R.g (sl v)<R.most then R.wait++[sl v] else R.wait)=[]
  rw [Γ (by rw [hg,h.most];omega),h.wait]
 have eg:∀y,(kG R (sl v)).g y=R.g y:=fun y=>by
  show (R.put (sl v) (R.g (sl v),false)).g y=_
  rw [AR.ym]
  split
  ·rename_i e;rw [e.1]
  ·rfl
 refine ⟨(Eb h.ok a3).1,FE h.okA _,by rw [eO];exact h.lA,by rw [Dg];exact h.lR,fun y=>by rw [D5 a3,L8 hin,h.link],by rw [show bB (aY A (sl v:Int)) 1=bB A 1 from by unfold bB;rw [iL]];exact h.has,h.most,hwt,h.next,h.qn,h.cn,fun u hu hd=>?_,fun u hu=>?_,fun y hy=>?_⟩
 ·obtain ⟨b1,b2,b3,b4,b5⟩:=h.VF u hu hd;exact ⟨b1,b2,b3,b4,by rw [eg];exact b5⟩
 ·obtain ⟨b1,b2,b3,b4,b5⟩:=h.wt u hu.1;have hne:sl u≠sl v:=fun e=>hu.2 (h.inj b1 b2 a1 a2 e);have hc:=xH hin (sl u);rw [Γ hne] at hc;exact ⟨b1,b2,by rw [D5 a3,b3,Ξ hne];rfl,by rw [hc];exact b4,by rw [hc];exact b5⟩
 ·rw [D5 a3] at hy;simp only [Τ,Bool.not_eq_true',decide_eq_false_iff_not] at hy;obtain ⟨u,hu,rfl⟩:=h.lv y hy.1;exact ⟨u,⟨hu,fun e=>hy.2 (by rw [e])⟩,rfl⟩
theorem DS.new (h:DS N d W R A q c hc f sl) {t x':Nat} (ht:t<N) (hd:d t=inf) (hx:x'≠inf) (hxm:x'<=inf):∃R',uO R=some (R.next,R')/\R.g R.next=0/\
  DS N (bA d t x') (fun u=>W u\/u=t) R' (aH A 1 (R.next:Int) (x':Int) ((q:Int)+1)) (q+1) (c+1) (yx hc t (R.next:Int) ((R.g R.next:Int)+1)) (fun z e=>if z=(R.next:Int)/\e=(R.g R.next:Int)+1 then some (t:Int) else f z e) (bA sl t R.next):=by
 have hcs:=wu (n:=N) ht hd hx;have hle:=DV (bA d t x') N;have hlt:R.next<N:=by rw [h.next];omega
 have hfr:=h.ok.fresh R.next (Θ _);have hpk:uU R=some (R.next,{ R with next:=R.next+1 }):=by
  unfold uU;rw [h.wait];simp only [List.getLast?_nil];rw [Γ (by rw [h.lR];omega)]
 obtain ⟨R',hR⟩:∃R',R'=AR.put { R with next:=R.next+1 } R.next (R.g R.next+1,true):=⟨_,rfl⟩;have htk:uO R=some (R.next,R'):=by unfold uO;rw [hpk,hR];rfl
 obtain ⟨t1,t2,t3,t4,t5,t6,t7⟩:=wC h.ok htk;have Z7:R'.next=R.next+1:=by rw [hR];rfl
 have hR'w:R'.wait=[]:=by rw [hR];exact h.wait
 have hR'g:∀y,R'.g y=if y=R.next then 1 else R.g y:=fun y=>by
  have e:R'.g y=(R.put R.next (R.g R.next+1,true)).g y:=by
   show (R'.sl.getD y (0,false)).1=((R.sl.set R.next (R.g R.next+1,true)).getD y (0,false)).1
   rw [t5]
  rw [e,AR.ym]
  by_cases e2:y=R.next
  ·rw [Δ ⟨e2,t2⟩,Δ e2,hfr.1]
  ·rw [Γ (fun h=>e2 h.1),Γ e2]
 have hBp:nY A 1 (R.next:Int)=true:=by
  rw [dV];refine ⟨h.has,(gF _ _).2 ⟨ω,by rw [h.lA];omega⟩,?_⟩;rw [←h.link];exact hfr.2
 have hpc:∀y,(aH A 1 (R.next:Int) (x':Int) ((q:Int)+1)).c y=if y=R.next then ⟨1,x',(q:Int)+1⟩ else A.c y:=fun y=>by
  unfold aH;rw [Δ hBp,jT]
  by_cases e2:y=R.next
  ·rw [Δ ⟨ω,by rw [h.lA];omega⟩,Δ e2]
  ·rw [Γ (fun h=>e2 ω),Γ e2]
 have hsd:∀u,bA d t x' u≠inf->u≠t->d u≠inf:=fun u hu e=>by unfold bA at hu;rw [Γ e] at hu;exact hu
 have hN4:N<=65536:=by have:=h.okA.c1;have:=h.lA;omega
 refine ⟨R',htk,hfr.1,t1,ze h.okA _ _ _ _ ⟨ω,by unfold inf at hxm;omega,ω,by have:=h.qn;omega⟩,by rw [Iw];exact h.lA,by rw [t5];simp [h.lR],fun y=>by rw [zk h.ok htk,QK hBp,h.link],?_,by rw [t6];exact h.most,hR'w,by rw [Z7,h.next,hcs],by rw [Z7,h.qn],by rw [Z7,h.cn],fun v hv hdv=>?_,fun v hv=>?_,fun y hy=>?_⟩
 ·unfold aH;rw [Δ hBp];exact h.has
 ·by_cases e:v=t
  ·subst e;have e1:bA sl v R.next v=R.next:=by unfold bA;rw [Δ rfl]
   rw [e1,hfr.1];refine ⟨ω,by rw [Δ ⟨rfl,ω⟩],?_,?_,by rw [hR'g,Δ rfl]⟩
   ·unfold yx;rw [Γ ω,Δ rfl]
   ·unfold yx;rw [Δ rfl];rfl
  ·have e1:bA sl t R.next v=sl v:=by unfold bA;rw [Γ e]
   obtain ⟨b1,b2,b3,b4,b5⟩:=h.VF v hv (hsd v hdv e);rw [e1];refine ⟨ω,by rw [Γ (fun h=>by have:=h.1;omega)];exact b2,?_,?_,by rw [hR'g,Γ ω];exact b5⟩
   ·unfold yx;rw [Γ ω,Γ ω];exact b3
   ·unfold yx;rw [Γ ω,Γ ω];exact b4
 ·rcases hv with hv|rfl
  ·obtain ⟨b1,b2,b3,b4,b5⟩:=h.wt v hv;have e:v≠t:=fun e=>b2 (by rw [e];exact hd);have e1:bA sl t R.next v=sl v:=by unfold bA;rw [Γ e]
   have e2:bA d t x' v=d v:=by unfold bA;rw [Γ e]
   have hsn:=(h.VF v b1 b2).1;have hne:sl v≠R.next:=ω;rw [e1,e2,hpc,Γ hne];exact ⟨b1,b2,by rw [zk h.ok htk,b3];rfl,b4,b5⟩
  ·have e1:bA sl v R.next v=R.next:=by unfold bA;rw [Δ rfl]
   have e2:bA d v x' v=x':=by unfold bA;rw [Δ rfl]
   rw [e1,e2,hpc,Δ rfl];exact ⟨ht,hx,by rw [zk h.ok htk];simp,rfl,rfl⟩
 ·rw [zk h.ok htk] at hy;simp only [Bool.or_eq_true,Ο] at hy
  by_cases e:y=R.next
  ·exact ⟨t,Β rfl,by unfold bA;rw [Δ rfl,e]⟩
  ·obtain ⟨u,hu,he⟩:=h.lv y (by rcases hy with h1|h1;exact h1;omega);have e2:u≠t:=fun e2=>(h.wt u hu).2.1 (by rw [e2];exact hd);exact ⟨u,Α hu,by unfold bA;rw [Γ e2];exact he⟩
theorem DS.low (h:DS N d W R A q c hc f sl) {t x':Nat} (hW:W t) (hx:x'<=d t) (hdi:d t<=inf) (hxi:x'≠inf):DS N (bA d t x') (fun u=>W u\/u=t) R (ak A (sl t:Int) (x':Int) (A.c (sl t)).s) q c hc f sl:=by
 obtain ⟨a1,a2,a3,a4,a5⟩:=h.wt t hW;have hin:bM A (sl t:Int)=true:=by rw [←h.link];exact a3
 have hlo:=LV hin (k:=(x':Int)) (by rw [a5];omega);have hlc:=qU hlo ((ae _ _).1 hin).1;have hkey:=h.okA.key (sl t);have hiff:∀v,v<N->(bA d t x' v=inf↔d v=inf):=fun v hv=>by
  unfold bA
  by_cases e:v=t
  ·rw [Δ e,e];exact ⟨fun h=>absurd h hxi,fun h=>absurd h a2⟩
  ·rw [Γ e]
 refine ⟨h.ok,Mc h.okA _ _ _ ⟨ω,by unfold inf at hdi;omega,hkey.2.2.1,hkey.2.2.2⟩,by rw [dY];exact h.lA,h.lR,fun y=>by rw [IG];exact h.link y,by rw [show bB (ak A (sl t:Int) (x':Int) (A.c (sl t)).s) 1=bB A 1 from by unfold bB;rw [kZ]];exact h.has,h.most,h.wait,by rw [h.next];exact (DK hiff).symm,h.qn,h.cn,fun v hv hd=>h.VF v hv (fun e=>hd ((hiff v hv).2 e)),fun v hv=>?_,fun y hy=>?_⟩
 ·have hv':W v:=by rcases hv with h1|rfl;exact h1;exact hW
  obtain ⟨b1,b2,b3,b4,b5⟩:=h.wt v hv';rw [hlc]
  by_cases e:v=t
  ·subst e;rw [Δ rfl];have e2:bA d v x' v=x':=by unfold bA;rw [Δ rfl]
   rw [e2];exact ⟨b1,hxi,b3,b4,rfl⟩
  ·have hne:sl v≠sl t:=fun e2=>e (h.inj b1 b2 a1 a2 e2);rw [Γ hne];have e2:bA d t x' v=d v:=by unfold bA;rw [Γ e]
   rw [e2];exact ⟨b1,b2,b3,b4,b5⟩
 ·obtain ⟨u,hu,he⟩:=h.lv y hy;exact ⟨u,Α hu,he⟩
end
end Go.Proofs.YtklibcncmbofpaaGreat
