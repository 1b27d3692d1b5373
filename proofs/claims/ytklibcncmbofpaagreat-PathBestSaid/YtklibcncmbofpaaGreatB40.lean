/-
  Lemmas for PathBest: Ds, PbP. Conditions: those of each lemma.
-/
import Derived.Test.YtklibcncmbofpaaGreatB39
set_option linter.all false
set_option maxHeartbeats 8000000
set_option maxRecDepth 10000
namespace Go.Proofs.YtklibcncmbofpaaGreat
open Go Go.RowKit
structure DS (N:Nat) (d:Nat->Nat) (W:Nat->Prop) (R:AR) (A:NS) (q c:Nat) (hc:Nat->Value) (f:Int->Int->Option Int) (sl:Nat->Nat):Prop where
 ok:R.Ok
 okA:A.Ok
 lA:A.cs.length=N
 lR:R.sl.length=N
 link:∀x:Nat,R.v x=bX A (x:Int)
 has:bK A 1=true
 most:R.most=1
 wait:R.wait=[]
 next:R.next=cntF d N
 qn:q=R.next
 cn:c=R.next
 Ws:∀v,v<N->d v≠inf->sl v<R.next/\f (sl v:Int) 1=some (v:Int)/\hc (v*2)=.int .i64 (sl v:Int)/\hc (v*2+1)=.int .u32 1/\R.g (sl v)=1
 wt:∀v,W v->v<N/\d v≠inf/\R.v (sl v)=true/\(A.c (sl v)).i=1/\(A.c (sl v)).k=(d v:Int)
 lv:∀x,R.v x=true->∃v,W v/\sl v=x
section
variable {N:Nat} {d:Nat->Nat} {W:Nat->Prop} {R:AR} {A:NS} {q c:Nat} {hc:Nat->Value} {f:Int->Int->Option Int} {sl:Nat->Nat}
theorem DS.inj (h:DS N d W R A q c hc f sl) {u v:Nat} (hu:u<N) (hu2:d u≠inf) (hv:v<N) (hv2:d v≠inf) (e:sl u=sl v):u=v:=by
 have h1:=(h.Ws u hu hu2).2.1;have h2:=(h.Ws v hv hv2).2.1;rw [e,h2] at h1;cases h1;omega
theorem DS.none (h:DS N d W R A q c hc f sl) (hm:dW A 1=none):∀v,¬W v:=fun v hv=>by
 have h1:=(jT ω).1 hm;obtain ⟨a1,a2,a3,a4,a5⟩:=h.wt v hv;have h3:bX A (sl v:Int)=true:=by rw [←h.link];exact a3
 have h4:=(ai _ _).1 h3;have:0<dZ A 1:=fM.2 ⟨sl v,h4.1,a4,ω⟩;omega
theorem DS.min (h:DS N d W R A q c hc f sl) {x:Nat} (hm:dW A 1=some x):∃v,W v/\sl v=x/\(A.c x).k=(d v:Int)/\(∀u,W u->d v<=d u)/\f (x:Int) 1=some (v:Int)/\R.g x=1/\R.v x=true:=by
 obtain ⟨m1,m2,m3,m4⟩:=lM hm;have hv:R.v x=true:=by rw [h.link];exact m4
 obtain ⟨v,hW,rfl⟩:=h.lv x hv;obtain ⟨a1,a2,a3,a4,a5⟩:=h.wt v hW;have hs:=h.Ws v a1 a2;refine ⟨v,hW,rfl,a5,fun u hu=>?_,hs.2.1,hs.2.2.2.2,hv⟩;obtain ⟨b1,b2,b3,b4,b5⟩:=h.wt u hu;have hf:=(iZ ω).1 hm;have hu3:bX A (sl u:Int)=true:=by rw [←h.link];exact b3
 have iC:=(ai _ _).1 hu3;rcases hf.2.2 (sl u) iC.1 b4 with e|e
 ·have:u=v:=h.inj b1 b2 a1 a2 e;rw [this];exact Nat.le_refl _
 ·unfold cZ at e;rw [a5,b5] at e;omega
theorem DS.take (h:DS N d W R A q c hc f sl) {v:Nat} (hW:W v):DS N d (fun u=>W u/\u≠v) (lu R (sl v)) (bz A (sl v:Int)) q c hc f sl:=by
 obtain ⟨a1,a2,a3,a4,a5⟩:=h.wt v hW;have hin:bX A (sl v:Int)=true:=by rw [←h.link];exact a3
 have hg:=(h.Ws v a1 a2).2.2.2.2;have hwt:(lu R (sl v)).wait=[]:=by
  show (if R.g (sl v)<R.most then R.wait++[sl v] else R.wait)=[]
  rw [if_neg (by rw [hg,h.most];omega),h.wait]
 have eg:∀y,(lu R (sl v)).g y=R.g y:=fun y=>by
  show (R.put (sl v) (R.g (sl v),false)).g y=_
  rw [AR.yl]
  split
  ·rename_i e;rw [e.1]
  ·rfl
 refine ⟨(EG h.ok a3).1,Gx h.okA _,by rw [fT];exact h.lA,by rw [Dh];exact h.lR,fun y=>by rw [Eo a3,KY hin,h.link],by rw [show bK (bz A (sl v:Int)) 1=bK A 1 from by unfold bK;rw [je]];exact h.has,h.most,hwt,h.next,h.qn,h.cn,fun u hu hd=>?_,fun u hu=>?_,fun y hy=>?_⟩
 ·obtain ⟨b1,b2,b3,b4,b5⟩:=h.Ws u hu hd;exact ⟨b1,b2,b3,b4,by rw [eg];exact b5⟩
 ·obtain ⟨b1,b2,b3,b4,b5⟩:=h.wt u hu.1;have hne:sl u≠sl v:=fun e=>hu.2 (h.inj b1 b2 a1 a2 e);have hc:=xR hin (sl u);rw [if_neg hne] at hc;exact ⟨b1,b2,by rw [Eo a3,b3,decide_eq_false hne];rfl,by rw [hc];exact b4,by rw [hc];exact b5⟩
 ·rw [Eo a3] at hy;simp only [Bool.and_eq_true,Bool.not_eq_true',decide_eq_false_iff_not] at hy;obtain ⟨u,hu,rfl⟩:=h.lv y hy.1;exact ⟨u,⟨hu,fun e=>hy.2 (by rw [e])⟩,rfl⟩
theorem DS.new (h:DS N d W R A q c hc f sl) {t x':Nat} (ht:t<N) (hd:d t=inf) (hx:x'≠inf) (hxm:x'<=inf):∃R',uO R=some (R.next,R')/\R.g R.next=0/\
  DS N (cK d t x') (fun u=>W u\/u=t) R' (aN A 1 (R.next:Int) (x':Int) ((q:Int)+1)) (q+1) (c+1) (yo hc t (R.next:Int) ((R.g R.next:Int)+1)) (fun z e=>if z=(R.next:Int)/\e=(R.g R.next:Int)+1 then some (t:Int) else f z e) (cK sl t R.next):=by
 have hcs:=wM (n:=N) ht hd hx;have hle:=Ey (cK d t x') N;have hlt:R.next<N:=by rw [h.next];omega
 have hfr:=h.ok.fresh R.next (Nat.le_refl _);have hpk:uU R=some (R.next,{ R with next:=R.next+1 }):=by
  unfold uU;rw [h.wait];simp only [List.getLast?_nil];rw [if_neg (by rw [h.lR];omega)]
 obtain ⟨R',hR⟩:∃R',R'=AR.put { R with next:=R.next+1 } R.next (R.g R.next+1,true):=⟨_,rfl⟩;have htk:uO R=some (R.next,R'):=by unfold uO;rw [hpk,hR];rfl
 obtain ⟨t1,t2,t3,t4,t5,t6,t7⟩:=wS h.ok htk;have Y6:R'.next=R.next+1:=by rw [hR];rfl
 have hR'w:R'.wait=[]:=by rw [hR];exact h.wait
 have hR'g:∀y,R'.g y=if y=R.next then 1 else R.g y:=fun y=>by
  have e:R'.g y=(R.put R.next (R.g R.next+1,true)).g y:=by
   show (R'.sl.getD y (0,false)).1=((R.sl.set R.next (R.g R.next+1,true)).getD y (0,false)).1
   rw [t5]
  rw [e,AR.yl]
  by_cases e2:y=R.next
  ·rw [if_pos ⟨e2,t2⟩,if_pos e2,hfr.1]
  ·rw [if_neg (fun h=>e2 h.1),if_neg e2]
 have hBp:oF A 1 (R.next:Int)=true:=by
  rw [fE];refine ⟨h.has,(ic _ _).2 ⟨ω,by rw [h.lA];omega⟩,?_⟩;rw [←h.link];exact hfr.2
 have hpc:∀y,(aN A 1 (R.next:Int) (x':Int) ((q:Int)+1)).c y=if y=R.next then ⟨1,x',(q:Int)+1⟩ else A.c y:=fun y=>by
  unfold aN;rw [if_pos hBp,kV]
  by_cases e2:y=R.next
  ·rw [if_pos ⟨ω,by rw [h.lA];omega⟩,if_pos e2]
  ·rw [if_neg (fun h=>e2 ω),if_neg e2]
 have hsd:∀u,cK d t x' u≠inf->u≠t->d u≠inf:=fun u hu e=>by unfold cK at hu;rw [if_neg e] at hu;exact hu
 have hN4:N<=65536:=by have:=h.okA.c1;have:=h.lA;omega
 refine ⟨R',htk,hfr.1,t1,yY h.okA _ _ _ _ ⟨ω,by unfold inf at hxm;omega,ω,by have:=h.qn;omega⟩,by rw [FN];exact h.lA,by rw [t5];simp [h.lR],fun y=>by rw [Ae h.ok htk,SA hBp,h.link],?_,by rw [t6];exact h.most,hR'w,by rw [Y6,h.next,hcs],by rw [Y6,h.qn],by rw [Y6,h.cn],fun v hv hdv=>?_,fun v hv=>?_,fun y hy=>?_⟩
 ·unfold aN;rw [if_pos hBp];exact h.has
 ·by_cases e:v=t
  ·subst e;have e1:cK sl v R.next v=R.next:=by unfold cK;rw [if_pos rfl]
   rw [e1,hfr.1];refine ⟨ω,by rw [if_pos ⟨rfl,ω⟩],?_,?_,by rw [hR'g,if_pos rfl]⟩
   ·unfold yo;rw [if_neg ω,if_pos rfl]
   ·unfold yo;rw [if_pos rfl];rfl
  ·have e1:cK sl t R.next v=sl v:=by unfold cK;rw [if_neg e]
   obtain ⟨b1,b2,b3,b4,b5⟩:=h.Ws v hv (hsd v hdv e);rw [e1];refine ⟨ω,by rw [if_neg (fun h=>by have:=h.1;omega)];exact b2,?_,?_,by rw [hR'g,if_neg ω];exact b5⟩
   ·unfold yo;rw [if_neg ω,if_neg ω];exact b3
   ·unfold yo;rw [if_neg ω,if_neg ω];exact b4
 ·rcases hv with hv|rfl
  ·obtain ⟨b1,b2,b3,b4,b5⟩:=h.wt v hv;have e:v≠t:=fun e=>b2 (by rw [e];exact hd);have e1:cK sl t R.next v=sl v:=by unfold cK;rw [if_neg e]
   have e2:cK d t x' v=d v:=by unfold cK;rw [if_neg e]
   have hsn:=(h.Ws v b1 b2).1;have hne:sl v≠R.next:=ω;rw [e1,e2,hpc,if_neg hne];exact ⟨b1,b2,by rw [Ae h.ok htk,b3];rfl,b4,b5⟩
  ·have e1:cK sl v R.next v=R.next:=by unfold cK;rw [if_pos rfl]
   have e2:cK d v x' v=x':=by unfold cK;rw [if_pos rfl]
   rw [e1,e2,hpc,if_pos rfl];exact ⟨ht,hx,by rw [Ae h.ok htk];simp,rfl,rfl⟩
 ·rw [Ae h.ok htk] at hy;simp only [Bool.or_eq_true,decide_eq_true_eq] at hy
  by_cases e:y=R.next
  ·exact ⟨t,Or.inr rfl,by unfold cK;rw [if_pos rfl,e]⟩
  ·obtain ⟨u,hu,he⟩:=h.lv y (by rcases hy with h1|h1;exact h1;omega);have e2:u≠t:=fun e2=>(h.wt u hu).2.1 (by rw [e2];exact hd);exact ⟨u,Or.inl hu,by unfold cK;rw [if_neg e2];exact he⟩
theorem DS.low (h:DS N d W R A q c hc f sl) {t x':Nat} (hW:W t) (hx:x'<=d t) (hdi:d t<=inf) (hxi:x'≠inf):DS N (cK d t x') (fun u=>W u\/u=t) R (aB A (sl t:Int) (x':Int) (A.c (sl t)).s) q c hc f sl:=by
 obtain ⟨a1,a2,a3,a4,a5⟩:=h.wt t hW;have hin:bX A (sl t:Int)=true:=by rw [←h.link];exact a3
 have hlo:=LF hin (k:=(x':Int)) (by rw [a5];omega);have hlc:=rA hlo ((ai _ _).1 hin).1;have hkey:=h.okA.key (sl t);have hiff:∀v,v<N->(cK d t x' v=inf↔d v=inf):=fun v hv=>by
  unfold cK
  by_cases e:v=t
  ·rw [if_pos e,e];exact ⟨fun h=>absurd h hxi,fun h=>absurd h a2⟩
  ·rw [if_neg e]
 refine ⟨h.ok,Lv h.okA _ _ _ ⟨ω,by unfold inf at hdi;omega,hkey.2.2.1,hkey.2.2.2⟩,by rw [fJ];exact h.lA,h.lR,fun y=>by rw [Ii];exact h.link y,by rw [show bK (aB A (sl t:Int) (x':Int) (A.c (sl t)).s) 1=bK A 1 from by unfold bK;rw [lN]];exact h.has,h.most,h.wait,by rw [h.next];exact (Dw hiff).symm,h.qn,h.cn,fun v hv hd=>h.Ws v hv (fun e=>hd ((hiff v hv).2 e)),fun v hv=>?_,fun y hy=>?_⟩
 ·have hv':W v:=by rcases hv with h1|rfl;exact h1;exact hW
  obtain ⟨b1,b2,b3,b4,b5⟩:=h.wt v hv';rw [hlc]
  by_cases e:v=t
  ·subst e;rw [if_pos rfl];have e2:cK d v x' v=x':=by unfold cK;rw [if_pos rfl]
   rw [e2];exact ⟨b1,hxi,b3,b4,rfl⟩
  ·have hne:sl v≠sl t:=fun e2=>e (h.inj b1 b2 a1 a2 e2);rw [if_neg hne];have e2:cK d t x' v=d v:=by unfold cK;rw [if_neg e]
   rw [e2];exact ⟨b1,b2,b3,b4,b5⟩
 ·obtain ⟨u,hu,he⟩:=h.lv y hy;exact ⟨u,Or.inl hu,he⟩
end
theorem row_step {N s a:Nat} {E:List Ed} {i:Nat} {far:Int} (hw:dV (N:Int) E=true) (hs:s<N) (hi:i<E.length) (hf:(E.getD i default).f=(a:Int)) (ha:((passes (eN E) s N a:Nat):Int)<=far) (hl:far<4611686018427387904) :
  ((passes (eN E) s N (E.getD i default).t.toNat:Nat):Int)<=far+(E.getD i default).w:=by
 have he:E.getD i default∈E:=List.mem_of_getElem? (show E[i]?=some (E.getD i default) by simp [φ,hi]);have h1:=iE hw he;have hm:toN (E.getD i default)∈eN E:=by unfold eN;exact List.mem_map.2 ⟨_,he,rfl⟩
 have h2:=Ce (nJ hw hs) _ hm;generalize E.getD i default=e at *;have e1:(toN e).f=a:=by show e.f.toNat=a;omega
 have e2:(toN e).t=e.t.toNat:=rfl;have e3:(toN e).w=e.w.toNat:=rfl;have h3:passes (eN E) s N (toN e).f≠inf->passes (eN E) s N (toN e).t<=passes (eN E) s N (toN e).f+(toN e).w:=h2;rw [e1,e2,e3] at h3;have h4:=h3 (by unfold inf;omega);omega
theorem CJ {N s:Nat} {E:List Ed} (hw:dV (N:Int) E=true) (hs:s<N):passes (eN E) s N s=0:=(ma (nJ hw hs) N).src
section
variable {E:List En} {by':Nat->Int} {D:Nat->Nat} {s N:Nat}
theorem ED (P6:s<N) (hs:∀x,x<N->jr E by' D x=true->qd E by' x<N) {x:Nat} (hx:x<N) (h:aY E by' D s N x=true):aY E by' D s (N-1) x=true:=by
 have key:∀k,(∀x,x<N->aY E by' D s (k+1) x=true->aY E by' D s k x=true)\/k<xE (fun x=>aY E by' D s k x=true) N:=by
  intro k
  induction k with
  | zero=>exact Or.inr (zm P6 (by simp [aY]))
  | succ k ih=>
   by_cases hall:∀x,x<N->aY E by' D s (k+1) x=true->aY E by' D s k x=true
   ·left;intro x hx hc;exact jR _ _ (oJ (k:=k) hs hall 2 x hx hc)
   ·right;rcases ih with ih|ih
    ·exact absurd ih hall
    ·obtain ⟨x,hx⟩:=Classical.not_forall.1 hall;obtain ⟨h1,h2⟩:=Classical.not_imp.1 hx;obtain ⟨h3,h4⟩:=Classical.not_imp.1 h2;have:=yX (P:=fun x=>aY E by' D s k x=true) (Q:=fun x=>aY E by' D s (k+1) x=true) (fun v hv=>jR _ _ hv) h1 h4 h3;omega
 have e:N-1+1=N:=ω;rcases key (N-1) with hk|hk
 ·exact hk x hx (by rw [e];exact h)
 ·refine Classical.byContradiction fun hn=>?_;have:=yX (P:=fun x=>aY E by' D s (N-1) x=true) (Q:=fun _=>True) (fun v hv=>trivial) hx hn trivial;have:=DV (fun _:Nat=>True) N;omega
end
inductive jU (E:List Ed):Int->List Int->Int->Int->Prop
 | done (v:Int):jU E v [] v 0
 | step {i:Nat} {l:List Int} {u x:Int}:i<E.length->jU E (E.getD i default).t l u x->jU E (E.getD i default).f ((i:Int)::l) u ((E.getD i default).w+x)
theorem jU.snoc {E:List Ed} {v:Int} {l:List Int} {u x:Int} (h:jU E v l u x) {i:Nat} (hi:i<E.length) (hf:(E.getD i default).f=u):jU E v (l++[(i:Int)]) (E.getD i default).t (x+(E.getD i default).w):=by
 induction h with
 | done v=>
  subst hf;have:=jU.step hi (jU.done (E.getD i default).t);rw [show (0:Int)+(E.getD i default).w=(E.getD i default).w+0 by omega];exact this
 | @step j l u x hj _ ih=>
  have:=jU.step hj (ih hf);rw [show (E.getD j default).w+x+(E.getD i default).w=(E.getD j default).w+(x+(E.getD i default).w) by omega];exact this
theorem PV {N s:Nat} {E:List Ed} {D B:List Int} (hw:dV (N:Int) E=true) (hs:s<N) (hT:BU (eN E) N s (passes (eN E) s N) D B) :
  ∀ (k x:Nat) (f:Nat) (out:List Int),k<f->x<N->aY (eN E) (fun x=>B.getD x 0) (passes (eN E) s N) s k x=true->∃l,zR E B f x out=some (l++out)/\jU E s l x ((passes (eN E) s N x:Nat):Int):=by
 have at_s:∀ (f:Nat) (out:List Int),0<f->∃l,zR E B f s out=some (l++out)/\jU E s l s ((passes (eN E) s N s:Nat):Int):=by
  intro f out hf;obtain ⟨f,rfl⟩:∃q,f=q+1:=⟨f-1,ω⟩;refine ⟨[],Fp ((hT.2.2 s hs).2.1 (Or.inl rfl)),?_⟩;rw [CJ hw hs];exact jU.done _
 intro k
 induction k with
 | zero=>
  intro x f out hf hx h;have e:x=s:=by simpa [aY] using h
  subst e;exact at_s f out hf
 | succ k ih=>
  intro x f out hf hx h
  by_cases e:x=s
  ·subst e;exact at_s f out ω
  ·rw [zg e,Bool.and_eq_true] at h;obtain ⟨a0,a1,a2,a3,a4⟩:=(ig _ _ _ _).1 h.1;have hc:=h.2;obtain ⟨i,hi⟩:∃i:Nat,B.getD x 0=i:=⟨(B.getD x 0).toNat,by have:0<=B.getD x 0:=a0;omega⟩;rw [zL] at a1;have hil:i<E.length:=by simp only [hi] at a1;omega
   simp only [hi] at a2;rw [wz (by simp only [hi];omega)] at a4 hc;simp only [hi] at a4 hc;rw [QZ E i hil] at a2 a4 hc;have he:E.getD i default∈E:=List.mem_of_getElem? (show E[i]?=some (E.getD i default) by simp [φ,hil]);have hr:=gY (gX hw) he;have QJ:=iE hw he;have ht:(E.getD i default).t.toNat=x:=a2;obtain ⟨f,rfl⟩:∃q,f=q+1:=⟨f-1,ω⟩;obtain ⟨l,h1,h2⟩:=ih (E.getD i default).f.toNat f ((i:Int)::out) ω ω hc;refine ⟨l++[(i:Int)],?_,?_⟩
   ·rw [CE hi hil ω,h1];simp
   ·have h3:=h2.snoc hil ω;have h4:passes (eN E) s N (E.getD i default).f.toNat + (E.getD i default).w.toNat=passes (eN E) s N x:=a4;rw [show (E.getD i default).t=(x:Int) by omega] at h3;rw [show ((passes (eN E) s N x:Nat):Int)=((passes (eN E) s N (E.getD i default).f.toNat:Nat):Int)+(E.getD i default).w by omega];exact h3
theorem Rz {N s x:Nat} {E:List Ed} {D B:List Int} (hw:dV (N:Int) E=true) (hs:s<N) (hT:BU (eN E) N s (passes (eN E) s N) D B) (hx:x<N) (hf:passes (eN E) s N x≠inf) :
  ∃l,TG (N:Int) E D B (x:Int)=some l/\jU E s l x ((passes (eN E) s N x:Nat):Int):=by
 have hd:=(hT.2.2 x hx).1;have hk:uY (N:Int) E D B (x:Int)=true:=by
  unfold uY;have h1:=hT.1;have h2:=hT.2.1;have hle:passes (eN E) s N x<=9223372036854775807:=(ma (nJ hw hs) N).le x;have hne:passes (eN E) s N x≠9223372036854775807:=hf;simp only [gX hw,Bool.true_and,Bool.and_eq_true,decide_eq_true_eq,beq_iff_eq,bne_iff_ne,π,hd];omega
 have hst:∀x,x<N->jr (eN E) (fun x=>B.getD x 0) (passes (eN E) s N) x=true->qd (eN E) (fun x=>B.getD x 0) x<N:=fun x hx h=>nZ (nJ hw hs) h;have hc:aY (eN E) (fun x=>B.getD x 0) (passes (eN E) s N) s (N-1) x=true:=by
  by_cases c:x=s\/passes (eN E) s N x=inf
  ·rcases c with c|c
   ·rw [c];exact Cw _
   ·exact absurd c hf
  ·exact ED hs hst hx ((hT.2.2 x hx).2.2 c)
 obtain ⟨l,h1,h2⟩:=PV hw hs hT (N-1) x N [] ω hx hc;refine ⟨l,?_,h2⟩;unfold TG;rw [hk,if_pos rfl,π,π,h1,List.append_nil]
end Go.Proofs.YtklibcncmbofpaaGreat
