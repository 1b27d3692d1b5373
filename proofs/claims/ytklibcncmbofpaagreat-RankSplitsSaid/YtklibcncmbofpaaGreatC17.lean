/-
  Lemmas for RankSplits: RkP, RkK, RkN, RkL, RkR2, RkM, RkW, RkE, Ll, Ll2, Ll3, RkT, RkV, RkB. Conditions: those of each lemma.
-/
import Derived.Test.YtklibcncmbofpaaGreatC05
import Derived.Test.YtklibcncmbofpaaGreatC06
import Derived.Test.YtklibcncmbofpaaGreatC16
set_option linter.all false
set_option maxHeartbeats 8000000
set_option maxRecDepth 10000
namespace Go.Proofs.YtklibcncmbofpaaGreat
open Go Go.RowKit
def A9 (ks:Nat->Int) (x y:Nat):Prop:=ks x<ks y\/(ks x=ks y/\x<y)
theorem Kv {ks:Nat->Int} {x y z:Nat} (h:A9 ks x y) (h':A9 ks y z):A9 ks x z:=by unfold A9 at *;omega
theorem Sa {ks:Nat->Int} {x:Nat}:¬A9 ks x x:=by unfold A9;omega
def zV (ks:Nat->Int) (i:Nat):List Nat->List Nat
 | []=>[i]
 | x::l=>if ks i<ks x then i::x::l else x::zV ks i l
def eO (ks:Nat->Int):Nat->List Nat
 | 0=>[]
 | n+1=>zV ks n (eO ks n)
theorem vW (ks:Nat->Int) (i:Nat):∀l:List Nat,(zV ks i l).Perm (i::l)
 | []=>ό _
 | x::l=>by
  unfold zV
  split
  ·exact ό _
  ·exact ((vW ks i l).cons x).trans (List.Perm.swap i x l)
theorem jU (ks:Nat->Int):∀n,(eO ks n).Perm (List.range n)
 | 0=>ό _
 | n+1=>by
  rw [List.range_succ];exact ((vW ks n _).trans ((jU ks n).cons n)).trans (Φ (l₁:=[n]))
theorem gU {ks:Nat->Int} {n x:Nat}:x∈eO ks n↔x<n:=by rw [(jU ks n).mem_iff,List.mem_range]
theorem nT (ks:Nat->Int) (n:Nat):(eO ks n).length=n:=by rw [(jU ks n).length_eq,List.length_range]
theorem wJ (ks:Nat->Int) (n:Nat):(eO ks n).Nodup:=(jU ks n).nodup_iff.2 List.nodup_range
theorem wI {ks:Nat->Int} {i:Nat}:∀ {l:List Nat},l.Pairwise (A9 ks)->(∀x,x∈l->x<i)->(zV ks i l).Pairwise (A9 ks)
 | [],_,_=>by unfold zV;simp
 | x::l,h,hl=>by
  rw [ϛ] at h;unfold zV
  split
  ·rename_i hk
   rw [ϛ,ϛ];refine ⟨fun y hy=>?_,h.1,h.2⟩;rcases ρ.1 hy with e|e
   ·subst e;exact Α hk
   ·exact Kv (Α hk) (h.1 y e)
  ·rename_i hk
   rw [ϛ];refine ⟨fun y hy=>?_,wI h.2 (fun y hy=>hl y (Λ _ hy))⟩;rcases ρ.1 ((vW ks i l).mem_iff.1 hy) with e|e
   ·subst e;have:=hl x σ;unfold A9;omega
   ·exact h.1 y e
theorem iL (ks:Nat->Int):∀n,(eO ks n).Pairwise (A9 ks)
 | 0=>List.Pairwise.nil
 | n+1=>wI (iL ks n) (fun x hx=>gU.1 hx)
structure VR (n:Nat) (ks:Nat->Int) (R:AR) (A:NS) (q j:Nat):Prop where
 ok:R.Ok
 xI:A.Ok
 lA:A.cs.length=n
 lR:R.sl.length=n
 link:∀x:Nat,R.v x=bV A (x:Int)
 has:bq A 1=true
 next:R.next=j
 wait:R.wait=[]
 qj:q=j
 jn:j<=n
 put:∀x,x<j->R.v x=true/\R.g x=1/\A.c x=⟨1,ks x,(x:Int)+1⟩
theorem VR.step {n:Nat} {ks:Nat->Int} {R:AR} {A:NS} {q j:Nat} (h:VR n ks R A q j) (hj:j<n) (hk:-9223372036854775808<=ks j/\ks j<=9223372036854775807):∃R',iC R=some (j,R')/\R.g j=0/\VR n ks R' (az A 1 (j:Int) (ks j) ((q:Int)+1)) (q+1) (j+1):=by
 have hfr:=h.ok.fresh j (by rw [h.next];exact Θ _);have hpk:lX R=some (j,{ R with next:=j+1 }):=by
  unfold lX;rw [h.wait];simp only [List.getLast?_nil];rw [Γ (by rw [h.lR,h.next];omega),h.next]
 obtain ⟨R',hR⟩:∃R',R'=AR.put { R with next:=j+1 } j (R.g j+1,true):=⟨_,rfl⟩;have htk:iC R=some (j,R'):=by unfold iC;rw [hpk,hR];rfl
 obtain ⟨t1,t2,t3,t4,t5,t6,t7⟩:=lK h.ok htk;have hR'n:R'.next=j+1:=by rw [hR];rfl
 have hR'w:R'.wait=[]:=by rw [hR];exact h.wait
 have hR'g:∀y,R'.g y=if y=j then 1 else R.g y:=fun y=>by
  have e:R'.g y=(R.put j (R.g j+1,true)).g y:=by
   show (R'.sl.getD y (0,false)).1=((R.sl.set j (R.g j+1,true)).getD y (0,false)).1
   rw [t5]
  rw [e,AR.mZ]
  by_cases e2:y=j
  ·rw [Δ ⟨e2,t2⟩,Δ e2,hfr.1]
  ·rw [Γ (fun h=>e2 h.1),Γ e2]
 have JB:iM A 1 (j:Int)=true:=by
  rw [bX];refine ⟨h.has,(dE _ _).2 ⟨ω,by rw [h.lA];omega⟩,?_⟩;rw [←h.link];exact hfr.2
 have hpc:∀y,(az A 1 (j:Int) (ks j) ((q:Int)+1)).c y=if y=j then ⟨1,ks j,(q:Int)+1⟩ else A.c y:=fun y=>by
  unfold az;rw [Δ JB,iN]
  by_cases e2:y=j
  ·rw [Δ ⟨ω,by rw [h.lA];omega⟩,Δ e2]
  ·rw [Γ (fun h=>e2 ω),Γ e2]
 have hN4:n<=65536:=by have:=h.xI.c1;have:=h.lA;omega
 refine ⟨R',htk,hfr.1,t1,rD h.xI _ _ _ _ ⟨hk.1,hk.2,ω,by have:=h.qj;omega⟩,by rw [qo];exact h.lA,by rw [t5];simp [h.lR],fun y=>by rw [tu h.ok htk,Cc JB,h.link],by unfold az;rw [Δ JB];exact h.has,hR'n,hR'w,by rw [h.qj],hj,fun y hy=>?_⟩;rw [tu h.ok htk,hR'g,hpc]
 by_cases e:y=j
 ·subst e;rw [Δ rfl,Δ rfl];exact ⟨σ,rfl,by rw [h.qj]⟩
 ·have:=h.put y ω;rw [Γ e,Γ e];exact ⟨by rw [this.1];rfl,this.2⟩
structure Xo (n:Nat) (ks:Nat->Int) (R:AR) (A:NS) (t:Nat):Prop where
 ok:R.Ok
 xI:A.Ok
 lA:A.cs.length=n
 lR:R.sl.length=n
 link:∀x:Nat,R.v x=bV A (x:Int)
 has:bq A 1=true
 lv:∀x,R.v x=true↔x∈(eO ks n).drop t
 cl:∀x,x∈(eO ks n).drop t->R.g x=1/\A.c x=⟨1,ks x,(x:Int)+1⟩
theorem VR.all {n:Nat} {ks:Nat->Int} {R:AR} {A:NS} {q:Nat} (h:VR n ks R A q n):Xo n ks R A 0:=by
 refine ⟨h.ok,h.xI,h.lA,h.lR,h.link,h.has,fun x=>?_,fun x hx=>?_⟩
 ·rw [List.drop_zero,gU];constructor
  ·intro hv;have:=AR.Ht hv;rw [h.lR] at this;exact this
  ·exact fun hx=>(h.put x hx).1
 ·rw [List.drop_zero,gU] at hx;exact (h.put x hx).2
theorem Xo.step {n:Nat} {ks:Nat->Int} {R:AR} {A:NS} {t:Nat} (h:Xo n ks R A t) (ht:t<n):∃x:Nat,(eO ks n)[t]?=some x/\x<n/\bB A 1=some x/\R.g x=1/\(A.c x).k=ks x/\Xo n ks (eB R x) (aN A (x:Int)) (t+1):=by
 have hl:t<(eO ks n).length:=by rw [nT];exact ht
 obtain ⟨x,hx⟩:∃x,(eO ks n)[t]=x:=⟨_,rfl⟩;have hd:(eO ks n).drop t=x::(eO ks n).drop (t+1):=by rw [Ϣ hl,hx]
 have hs:=(iL ks n).sublist (List.drop_sublist t _);have hn:=(wJ ks n).sublist (List.drop_sublist t _);rw [hd,ϛ] at hs;rw [hd,Ζ] at hn;have hxm:x∈(eO ks n).drop t:=by rw [hd];simp
 have tY:x<n:=gU.1 (List.mem_of_mem_drop hxm);have hv:R.v x=true:=(h.lv x).2 hxm;have hin:bV A (x:Int)=true:=by rw [←h.link];exact hv
 have hc:=h.cl x hxm;have hmin:bB A 1=some x:=by
  refine (dD ω).2 ⟨((aj _ _).1 hin).1,by rw [hc.2],fun y hy hyi=>?_⟩;have hyv:R.v y=true:=by
   rw [h.link];exact (aj _ _).2 ⟨hy,by rw [hyi];omega⟩
  have hym:=(h.lv y).1 hyv;have hcy:=h.cl y hym;rw [hd] at hym;rcases ρ.1 hym with e|e
  ·exact Α e
  ·have:=hs.1 y e;refine Β ?_;unfold eU;rw [hc.2,hcy.2];unfold A9 at this;simp only;omega
 have eg:∀y,(eB R x).g y=R.g y:=fun y=>by
  show (R.put x (R.g x,false)).g y=_
  rw [AR.mZ]
  split
  ·rename_i e;rw [e.1]
  ·rfl
 refine ⟨x,by rw [ε hl,hx],tY,hmin,hc.1,by rw [hc.2],(uq h.ok hv).1,uu h.xI _,by rw [dm];exact h.lA,by rw [rJ];exact h.lR,fun y=>by rw [oN hv,xw hin,h.link],by rw [show bq (aN A (x:Int)) 1=bq A 1 from by unfold bq;rw [fJ]];exact h.has,fun y=>?_,fun y hy=>?_⟩
 ·rw [oN hv];simp only [Τ,Bool.not_eq_true',decide_eq_false_iff_not];rw [h.lv,hd,ρ];constructor
  ·rintro ⟨h1|h1,h2⟩
   ·exact absurd h1 h2
   ·exact h1
  ·exact fun h1=>⟨Β h1,fun e=>hn.1 (by rw [←e];exact h1)⟩
 ·have hym:y∈(eO ks n).drop t:=by rw [hd];exact Λ _ hy
  have hne:y≠x:=fun e=>hn.1 (by rw [←e];exact hy);have hcy:=h.cl y hym;have Xq:=pY hin y;rw [Γ hne] at Xq;exact ⟨by rw [eg];exact hcy.1,by rw [Xq];exact hcy.2⟩
theorem Om {n:Nat} (ks:Nat->Int) (hn:n<=65536):VR n ks (AR.new n 4294967295) (Js (NS.new n) 1) 0 0:=by
 have hm:Js (NS.new n) 1=aC (NS.new n):=rfl;rw [hm];refine ⟨AR.mg hn ω,qa (NS.mg n hn),by rw [nS];simp [NS.new],by simp [AR.new],fun x=>by rw [qd,FN,BK],?_,rfl,rfl,rfl,Nat.zero_le _,fun x hx=>ω⟩;unfold aC NS.new bq;simp
end Go.Proofs.YtklibcncmbofpaaGreat
namespace Go.Proofs.YtklibcncmbofpaaGreat
theorem filter_one {p q:Nat->Bool} {x:Nat} (hp:p x=false) (hq:q x=true):∀ {l:List Nat},l.Nodup->(∀y,y∈l->y≠x->q y=p y)->x∈l->(l.filter q).Perm (x::l.filter p)
 | [],_,_,h=>by cases h
 | a::l,hn,he,hx=>by
  rw [Ζ] at hn
  by_cases e:a=x
  ·subst e;rw [List.filter_cons_of_pos (by simpa using hq),List.filter_cons_of_neg (by simp [hp])];rw [show l.filter q=l.filter p from List.filter_congr (fun y hy=>he y (Λ _ hy) (fun e=>hn.1 (by rw [←e];exact hy)))]
  ·have hx':x∈l:=(ρ.1 hx).resolve_left (fun h=>e h.symm);have ih:=filter_one hp hq hn.2 (fun y hy hne=>he y (Λ _ hy) hne) hx';have ha:=he a σ e;cases PN:p a with
   | true=>
    rw [List.filter_cons_of_pos (by rw [ha];exact PN),List.filter_cons_of_pos PN];exact (ih.cons a).trans (List.Perm.swap x a _)
   | false=>
    rw [List.filter_cons_of_neg (by rw [ha,PN];simp),List.filter_cons_of_neg (by rw [PN];simp)];exact ih
def gY (A:NS) (h:Int):List Nat:=(List.range A.cs.length).filter (fun x=>decide ((A.c x).i=h))
def iG (A:NS) (h:Int):List Int:=(gY A h).map (fun x=>(A.c x).k)
theorem iy {A:NS} {h:Int} {x:Nat}:x∈gY A h↔x<A.cs.length/\(A.c x).i=h:=by unfold gY;simp
theorem vD {A:NS} {h:Int} (hh:0<h) {m:Nat} (hm:bB A h=some m):(A.c m).k∈iG A h/\∀y,y∈iG A h->(A.c m).k<=y:=by
 have hf:=(dD hh).1 hm;refine ⟨List.mem_map.2 ⟨m,iy.2 ⟨hf.1,hf.2.1⟩,rfl⟩,fun y hy=>?_⟩;obtain ⟨x,hx,rfl⟩:=List.mem_map.1 hy;have h2:=iy.1 hx;rcases hf.2.2 x h2.1 h2.2 with e|e
 ·rw [e];exact Int.le_refl _
 ·unfold eU at e;omega
theorem qZ {A:NS} {h x:Nat} {k s:Int} (hB:iM A h x=true) (ok:A.Ok):(iG (az A h x k s) h).Perm (k::iG A h)/\∀g:Int,0<g->g≠h->iG (az A h x k s) g=iG A g:=by
 obtain ⟨b1,b2,b3⟩:=(bX _ _ _).1 hB;have b4:=(aQ _ _).1 b1;have hx:x<A.cs.length:=by have:=(dE _ _).1 b2;omega
 have h0:(A.c x).i=0:=by
  have:=(ok.nat x hx).1;have h3:¬ (0<(A.c x).i):=fun h'=>by rw [(aj A x).2 ⟨hx,h'⟩] at b3;cases b3
  omega
 have hc:∀y,(az A h x k s).c y=if y=x then ⟨h,k,s⟩ else A.c y:=fun y=>by
  unfold az;rw [Δ hB,π,iN]
  by_cases e:y=x
  ·rw [Δ ⟨e,hx⟩,Δ e]
  ·rw [Γ (fun h=>e h.1),Γ e]
 have hl:(az A h x k s).cs.length=A.cs.length:=qo _ _ _ _ _;constructor
 ·have h1:(gY (az A h x k s) h).Perm (x::gY A h):=by
   unfold gY;rw [hl];refine filter_one (by simp [h0];omega) (by simp [hc]) List.nodup_range (fun y _ hy=>by rw [hc,Γ hy]) (by simpa using hx)
  have h2:=h1.map (fun y=>((az A h x k s).c y).k);refine h2.trans ?_;rw [List.map_cons,hc,Δ rfl];refine List.Perm.cons k ?_;unfold iG
  rw [List.map_congr_left (fun y hy=>by
   have:=(iy.1 hy).2
   show ((az A h x k s).c y).k=(A.c y).k
   rw [hc,Γ (fun e=>by rw [e,h0] at this;omega)])]
 ·intro g hg hgh;have h1:gY (az A h x k s) g=gY A g:=by
   unfold gY;rw [hl];refine List.filter_congr (fun y _=>?_);rw [hc]
   by_cases e:y=x
   ·rw [Δ e,e,h0];have e1:¬ (h:Int)=g:=fun e=>hgh e.symm;have e2:¬ (0:Int)=g:=ω;simp [e1,e2]
   ·rw [Γ e]
  unfold iG;rw [h1]
  exact List.map_congr_left (fun y hy=>by
   have:=(iy.1 hy).2
   rw [hc,Γ (fun e=>by rw [e,h0] at this;omega)])
theorem xR {A:NS} {m:Nat} (hin:bV A (m:Int)=true):(iG A (A.c m).i).Perm ((A.c m).k::iG (aN A (m:Int)) (A.c m).i)/\∀g:Int,0<g->g≠(A.c m).i->iG (aN A (m:Int)) g=iG A g:=by
 have hi:=(aj _ _).1 hin;have hc:=pY hin;have hcm:=hc m;rw [Δ rfl] at hcm;have hne:∀y,y≠m->(aN A (m:Int)).c y=A.c y:=fun y e=>by rw [hc,Γ e]
 have h0:((aN A (m:Int)).c m).i=0:=by rw [hcm];rfl
 have hl:(aN A (m:Int)).cs.length=A.cs.length:=dm _ _;constructor
 ·have h1:(gY A (A.c m).i).Perm (m::gY (aN A (m:Int)) (A.c m).i):=by
   unfold gY;rw [hl];refine filter_one (by rw [h0];simp;omega) σ List.nodup_range (fun y _ hy=>by rw [hne y hy]) (by simpa using hi.1)
  have h2:=h1.map (fun y=>(A.c y).k);refine h2.trans ?_;rw [List.map_cons];refine List.Perm.cons _ ?_;unfold iG
  rw [List.map_congr_left (fun y hy=>by
   have:=(iy.1 hy).2
   show (A.c y).k=((aN A (m:Int)).c y).k
   rw [hne y (fun e=>by rw [e,h0] at this;omega)])]
 ·intro g hg hgh;have h1:gY (aN A (m:Int)) g=gY A g:=by
   unfold gY;rw [hl];refine List.filter_congr (fun y _=>?_)
   by_cases e:y=m
   ·rw [e,h0];have e1:¬ (A.c m).i=g:=fun e=>hgh e.symm;have e2:¬ (0:Int)=g:=ω;simp [e1,e2]
   ·rw [hne y e]
  unfold iG;rw [h1]
  exact List.map_congr_left (fun y hy=>by
   have:=(iy.1 hy).2
   rw [hne y (fun e=>by rw [e] at this;exact hgh this.symm)])
theorem MK {l m:List Int} (hl:l.Pairwise (·<=·)) (hm:m.Pairwise (·<=·)) (hp:l.Perm m):l=m:=by
 induction l generalizing m with
 | nil=>exact (List.nil_perm.1 hp).symm
 | cons a l ih=>
  cases m with
  | nil=>exact absurd hp.length_eq σ
  | cons b m=>
   rw [ϛ] at hl hm;have h1:b<=a:=by
    rcases ρ.1 (hp.mem_iff.1 (show a∈a::l by simp)) with e|e
    ·omega
    ·exact hm.1 a e
   have h2:a<=b:=by
    rcases ρ.1 (hp.mem_iff.2 (show b∈b::m by simp)) with e|e
    ·omega
    ·exact hl.1 b e
   have e:a=b:=ω;subst e;rw [ih hl.2 hm.2 (List.Perm.cons_inv hp)]
theorem Jg (l:List Int):∃m:List Int,m.Perm l/\m.Pairwise (·<=·):=by
 refine ⟨l.mergeSort (fun a b=>decide (a<=b)),List.mergeSort_perm _ _,?_⟩;have:=List.pairwise_mergeSort (le:=fun a b:Int=>decide (a<=b)) (fun a b c h1 h2=>by simp at *;omega) (fun a b=>ζ) l;exact this.imp (fun h=>by simpa using h)
theorem KR {S P Q:List Int} (hS:S.Pairwise (·<=·)) (hp:S.Perm (P++Q)) (hPQ:∀a,a∈P->∀b,b∈Q->a<=b) {M:Int} (hM:M∈P) (hmax:∀a,a∈P->a<=M):S[P.length-1]?=some M:=by
 obtain ⟨P',p1,p2⟩:=Jg P;obtain ⟨Q',q1,q2⟩:=Jg Q
 have e:S=P'++Q':=MK hS (by
  rw [List.pairwise_append]
  exact ⟨p2,q2,fun a ha b hb=>hPQ a (p1.mem_iff.1 ha) b (q1.mem_iff.1 hb)⟩) (hp.trans (p1.append q1).symm)
 have hl:=p1.length_eq;have hpos:0<P.length:=List.length_pos_of_mem hM;rw [e,Ρ ω];have hlt:P.length-1<P'.length:=ω;rw [ε hlt]
 congr 1
 have h1:P'[P.length-1]<=M:=hmax _ (p1.mem_iff.1 (Ϝ hlt));obtain ⟨j,hj,hjM⟩:=List.getElem_of_mem (p1.mem_iff.2 hM);have h2:P'[j]<=P'[P.length-1]:=by
  by_cases e:j=P.length-1
  ·subst e;exact Int.le_refl _
  ·exact List.pairwise_iff_getElem.1 p2 j (P.length-1) hj hlt ω
 omega
theorem Gv (kf:Nat->Int) (n:Nat):((eO kf n).map kf).Pairwise (·<=·)/\((eO kf n).map kf).Perm ((List.range n).map kf):=by
 refine ⟨?_,(jU kf n).map kf⟩;rw [List.pairwise_map];exact (iL kf n).imp (fun h=>by unfold A9 at h;omega)
structure kX (P Q K:List Int) (c:Nat):Prop where
 perm:(P++Q).Perm K
 ord:∀a,a∈P->∀b,b∈Q->a<=b
 len:P.length=c
theorem kX.push {P Q K P1:List Int} {c:Nat} {k M:Int} (h:kX P Q K c) (hp:(k::P).Perm (M::P1)) (hM:∀a,a∈k::P->a<=M):kX P1 (M::Q) (k::K) c:=by
 refine ⟨?_,fun a ha b hb=>?_,?_⟩
 ·have h1:(P1++M::Q).Perm (M::P1++Q):=Ϥ;refine h1.trans ?_;refine (hp.symm.append_right Q).trans ?_;exact h.perm.cons k
 ·have ha':a∈k::P:=hp.mem_iff.2 (Λ _ ha);rcases ρ.1 hb with e|e
  ·rw [e];exact hM a ha'
  ·rcases ρ.1 ha' with e2|e2
   ·have hMm:M∈k::P:=hp.mem_iff.2 σ;rcases ρ.1 hMm with e3|e3
    ·by_cases hkk:∃y,y∈P/\y=k
     ·obtain ⟨y,hy,e4⟩:=hkk;rw [e2,←e4];exact h.ord y hy b e
     ·-- M=k,taken away: a=k would be one more k
      exfalso;subst e3;have:=(List.perm_cons M).1 hp;exact hkk ⟨a,this.mem_iff.2 ha,e2⟩
    ·have h5:=h.ord M e3 b e;have h6:=hM a ha';omega
   ·exact h.ord a e2 b e
 ·have:=hp.length_eq;simp at this;rw [←this];exact h.len
theorem kX.lift {P Q K Q1:List Int} {c:Nat} {m:Int} (h:kX P Q K c) (hp:Q.Perm (m::Q1)) (hm:∀b,b∈Q->m<=b):kX (m::P) Q1 K (c+1):=by
 refine ⟨?_,fun a ha b hb=>?_,by simp [h.len]⟩
 ·have h1:(P++m::Q1).Perm (m::P++Q1):=Ϥ;exact h1.symm.trans ((hp.symm.append_left P).trans h.perm)
 ·have hbQ:b∈Q:=hp.mem_iff.2 (Λ _ hb);rcases ρ.1 ha with e|e
  ·rw [e];exact hm b hbQ
  ·exact h.ord a e b hbQ
end Go.Proofs.YtklibcncmbofpaaGreat
namespace Go.Proofs.YtklibcncmbofpaaGreat
open Go Go.RowKit
theorem Ej {w:World} {ops:Array Oper} {rest:List Oper} {o:Oper} {a:Act} {Q:Exit->Act->World->Prop} (hgd:o.guard=none) (m x v:Operand) (hop:o.op=Op.mapUpdate 82 m x v)
  (b c:Nat) (f:Int->Int->Option Int) (hm:a.eval m=.map (some b)) (h:lU w b c f) (hc:c<9223372036854775807) (k g z:Int) (hx:a.eval x=hV k g) (hv:a.eval v=.int .i64 z) (hk:-9223372036854775808<=k/\k<=9223372036854775807) (hg:0<=g/\g<=4294967295) (hz:-9223372036854775808<=z/\z<=9223372036854775807)
  (hK:∀w',lU w' b (c+1) (fun y e=>if y=k/\e=g then some z else f y e)->aa [b] w w'->wpList Tryz.prog ops Q rest (a.put o.dst undef) w'):wpList Tryz.prog ops Q (o::rest) a w:=
 wpList_plain hgd fun _ hK'=>SA m x v hop b c f hm h hc k g z hx hv hk hg hz fun w' h1 h2=>hK' _ _ (hK w' h1 h2)
def Nf (l:List Nat):List Int:=l.map (fun (x:Nat)=>(x:Int))
theorem Gg (a b:List Nat):Nf (a++b)=Nf a++Nf b:=by unfold Nf;rw [List.map_append]
theorem Ms {K:dV} (kd d:Int) (vk:Value) (ks:List Int) (k:Nat) (w:World) (hS:fO w [] vk ks) (hb:∀x,x∈ks->-9223372036854775808<=x/\x<=9223372036854775807) (hc:xY kd d=0) (hn:ks.length<=65536) (hk:k<=ks.length) (ko:lG K kd d ks.length) :
  Calls Tryz.prog 17 #[.agg #[.int .i64 kd,.int .i64 d],vk,.int .i64 (k:Int)] w fun e w'=>∃ao co,e=.returned (.tuple #[.slice ao k co,.int .i64 0])/\w'.ownsRow w.heap.size 3 1 (.slice ao k co) k (aM (Nf ((eO (fun i=>ks.getD i 0) ks.length).take k)))/\aa [] w w':=by
 have kp:∀W:World,_:=fun W=>tN kd d ks.length 1 W hc hn ω ko;obtain ⟨a,cap,rfl,hcap1,hcap2,hcell⟩:=hS;have hkb:∀j,j<ks.length->-9223372036854775808<=ks.getD j 0/\ks.getD j 0<=9223372036854775807:=fun j hj=>by
  rw [φ,ε hj];exact hb _ (Ϝ hj)
 have hrow:∀j,j<ks.length->∃g off,a=some ⟨g,off,none⟩/\g<w.heap.size/\w.cell? ⟨g,off+j,none⟩=some (.int .i64 (ks.getD j 0)):=fun j hj=>by
  obtain ⟨g,off,h1,h2,_,h3⟩:=hcell j ks[j] (ε hj);exact ⟨g,off,h1,h2,by rw [h3,φ,ε hj];rfl⟩
 have HR:=χ (ψ hkb hrow);have hz:=Om (fun i=>ks.getD i 0) hn;clear hcell hb hkb hrow hc ko;generalize UZ:(fun i=>ks.getD i 0)=kf at *;have HKF:=χ UZ;generalize hnn:ks.length=n at *;have HZ:=χ hz;clear hz UZ hnn;have hk0:¬ (k:Int)<0:=ω;have hk1:¬ (k:Int) > (n:Int):=ω;have hkd0:decide ((k:Int)<0)=false:=ι;have hkd1:decide ((k:Int) > (n:Int))=false:=ζ;rw [show ((1:Nat):Int)=1 from rfl] at kp;have hkd2:decide (n<k)=false:=ζ;have hmm:=@run_makeMap Tryz.prog
 go_enter Tryz.func17,Tryz.ntmps17
 go_wp2_with (first
  | ((go_at_call 39;(with_reducible refine (kp _).mono ?_));rintro e w1 ⟨p,F,rfl,Ho,hu0,hF⟩)
  | fail)
 have hu1:aa [] w w1:=aa.trans β hu0;have s1:=hu1.size;have xS:=Ho.lt;have X6:=lU.made w1;refine eY (fun W=>dK K W p F kd d (AR.new n 4294967295) (Js (NS.new n) 1) 0/\lU W w1.heap.size 0 (fun _ _=>none)/\aa [] w W) ⟨Ho.ae β,X6.upd (S:=[]) (by first|exact aa.refl _ _|exact β) σ,β⟩ ?_;rintro W ⟨hP,hMp,Lj⟩;have hb1:w.heap.size<=w1.heap.size:=by simpa using s1
 have HI:=χ (ψ hP (ψ hMp (ψ Lj (ψ hF xS))));clear hP hMp Lj hF xS hu1 kp hmm s1 Ho X6 hu0;generalize w1.heap.size=b at *
 go_loopw [11,12,13,14,40] (fun v11 v12 v13 v14 v40 wr=>∃ (j:Nat) (F':List Nat) (R:AR) (A:NS) (f:Int->Int->Option Int),j<=n/\v40=.int .i64 (j:Int)/\dK K wr p F' kd d R A j/\VR n kf R A j j/\lU wr b j f/\(∀x:Nat,x<j->f (x:Int) 1=some (x:Int))/\aa [] w wr/\(∀x,x∈F'->w.heap.size<=x)/\b∉F') (fun _ _ _ _ v40 _=>n-(intOf v40).toNat)
 case atStart=>
  obtain ⟨hP,hMp,Lj,hF,xS⟩:=HI.out;exact ⟨0,F,_,_,_,Nat.zero_le _,rfl,hP,HZ.out,hMp,fun x hx=>ω,Lj,fun x hx=>by have:=hF x hx;(try simp at this);omega,fun hm=>by have:=xS b hm;omega⟩
 case round=>
  obtain ⟨j,F',R,A,f,hj,rfl,hP,hA,hM,hf,hu,hF,wC⟩:=hrel;rename World=>wr
  by_cases hjn:j<n
  ·have J3:decide ((j:Int)<(n:Int))=true:=ζ;have hjI2:(j:Int)<(n:Int):=ω;obtain ⟨hkb,hrow⟩:=HR.out;obtain ⟨g,off,rfl,hg,hc⟩:=hrow j hjn;have hc1:=hu.was hc;have ekj:ks.getD j 0=kf j:=by rw [←HKF.out]
   have hkj:=hkb j hjn;rw [ekj] at hc1 hkj;obtain ⟨R',hT,hg0,hA'⟩:=hA.step hjn hkj;have ki:=qD hP 1 (kf j) hA.has hkj ω hT;rw [hg0,show (((0:Nat):Int)+1)=1 from rfl] at ki;have HN:=χ (ψ hA' (ψ hM (ψ hf (ψ hu (ψ hF wC)))));have hbl:=hM.lt;clear hP hA hA' hM hf hu hF wC hkb hrow hc ekj hT hg0;generalize kf j=kj at *
   go_wp2_with (first
    | ((go_at_call 40;(with_reducible refine (ki).mono ?_));rintro e w2 ⟨rfl,F2,hP2,hu2,hF2⟩;(have hM2:lU (w2.alloc (.cells #[.int .i64 (j:Int),.int .u32 1] 85)) b j f:=(HN.out.2.1.upd hu2 HN.out.2.2.2.2.2).upd (S:=[]) β σ))
    | (at_mapUpdate;refine Ej rfl _ _ _ rfl b j f rfl hM2 ω (j:Int) 1 (j:Int) rfl rfl ω ω ω ?_;intro w3 Dt hu3)
    | fail)
   go_roundw
   case rel=>
    obtain ⟨hA',hM,hf,hu,hF,wC⟩:=HN.out;have hs:=hu.size;have hs2:=hu2.size;have Sm:=hP2.lt;have Ym:b∉F2:=fun hm=>by rcases hF2 b hm with h|h;exact wC h;omega
    have GX:aa [] w2 (w2.alloc (.cells #[.int .i64 (j:Int),.int .u32 1] 85)):=(aa.refl _ _).alloc _;refine ⟨j+1,F2,_,_,_,ω,by go_num,(hP2.ae GX).upd hu3 (fun x hx=>by simp at hx;rw [hx];exact Ym),hA',Dt,fun x hx=>?_,((hu.joined hu2 (fun x hx=>Β (hF x hx))).trans GX).joined hu3 (fun x hx=>Β (by simp at hx;omega)),fun x hx=>by rcases hF2 x hx with h|h;exact hF x h;omega,Ym⟩
    by_cases e:x=j
    ·subst e;rw [Δ ⟨rfl,rfl⟩]
    ·rw [Γ (fun h=>e (by have:=h.1;omega))];exact hf x ω
   case measure=>simp [intOf];omega
  ·obtain rfl:j=n:=ω;have J3:decide ((j:Int)<(j:Int))=false:=σ;have hT:=hA.all;have HN:=χ (ψ hP (ψ hT (ψ hM (ψ hf (ψ hu (ψ hF wC))))));clear hP hA hT hM hf hu hF wC;go_wp2
   go_loopw [15,16,17,18,56] (fun v15 v16 v17 v18 v56 wr2=>∃ (t:Nat) (F2:List Nat) (R2:AR) (A2:NS) (ao:Option Addr) (co:Nat),t<=k/\v56=.int .i64 (t:Int)/\v15=.slice ao t co/\wr2.ownsRow w.heap.size 3 1 (.slice ao t co) t (aM (Nf ((eO kf j).take t)))/\dK K wr2 p F2 kd d R2 A2 j/\Xo j kf R2 A2 t/\lU wr2 b j f/\aa [] w wr2/\(∀x,x∈F2->w.heap.size<=x)/\b∉F2/\(∀g,(Value.slice ao t co).ownBlock=some g->g∉F2/\g≠b)) (fun _ _ _ _ v56 _=>k-(intOf v56).toNat)
   case atStart=>
    obtain ⟨hP,hT,hM,hf,hu,hF,wC⟩:=HN.out;exact ⟨0,F',R,A,none,0,Nat.zero_le _,rfl,rfl,⟨rfl,Α ⟨rfl,rfl⟩⟩,hP,hT,hM,hu,hF,wC,fun g hg=>by cases hg⟩
   case round=>
    obtain ⟨t,F2,R2,A2,ao,co,ht,rfl,rfl,ho,hP,hT,hM,hu,hF,wC,hnb⟩:=hrel;rename World=>wr2
    by_cases htk:t<k
    ·have htI:decide ((t:Int)<(k:Int))=true:=ζ;obtain ⟨x,hx,tY,hmin,hg1,hkx,q9⟩:=hT.step ω;have ke:=vC hP 1 hmin;rw [hg1,hkx] at ke;rw [show ((1:Nat):Int)=1 from rfl] at ke;have hfx:=HN.out.2.2.2.1 x tY;have HQ:=χ (ψ q9 (ψ hu (ψ hF (ψ wC (ψ hnb (ψ hx hfx))))));have HM:=χ hM;have hbl:=hM.lt;have hrl:∀g,(Value.slice ao t co).ownBlock=some g->g<wr2.heap.size:=fun g hg=>(ho.lt g hg).2;have hbase:w.heap.size<=wr2.heap.size:=hu.size;have Xi:=χ hrl;clear hP hT q9 hM hu hF wC hnb hx hfx hmin hg1 hkx hrl;generalize kf x=kx at *
     go_wp2_with (first
      | ((go_at_call 41;(with_reducible refine (ke).mono ?_));rintro e w3 ⟨rfl,F3,hP3,hu3,Xh⟩;(have oP:lU (w3.alloc (.cells #[.int .i64 (x:Int),.int .u32 1] 85)) b j f:=(HM.out.upd hu3 HQ.out.2.2.2.1).upd (S:=[]) β σ);(have hlk:(Instr.lookup 82 (.map (some b)) (.agg #[.int .i64 (x:Int),.int .u32 1]) false).run Tryz.prog (w3.alloc (.cells #[.int .i64 (x:Int),.int .u32 1] 85))=.ok (.int .i64 (x:Int)) (w3.alloc (.cells #[.int .i64 (x:Int),.int .u32 1] 85)):=oP.look HQ.out.2.2.2.2.2.2 ω ω);(have hs3:=hu3.size);(have ho3:=ay (ay ho hu3 (fun g hg=>(HQ.out.2.2.2.2.1 g hg).1)) (S:=[]) ((aa.refl _ _).alloc (.cells #[.int .i64 (x:Int),.int .u32 1] 85)) σ))
      | ((at_builtin;refine aI rfl _ _ 26 rfl w.heap.size 3 (.int .i64 0) 1 8 Tryz.underlying26 dX rfl δ _ _ _ rfl (ho3) [.int .i64 (x:Int)] rfl (by simp [Value.oneCell']) (by first|rfl|(rw [Κ];rfl)) μ ω (ζ) ?_;intro v2 w4 Zn om ZL);obtain ⟨a4,c4,rfl,hc4⟩:=aU Zn)
      | fail)
     go_roundw
     case rel=>
      obtain ⟨q9,hu,hF,wC,hnb,hx,hfx⟩:=HQ.out;have Zi:=hP3.lt;have hbF3:b∉F3:=fun hm=>by rcases Xh b hm with h|h;exact wC h;omega
      have Zc:∀g,(Value.slice ao t co).ownBlock=some g->g∉F3:=fun g hg hm=>by
       rcases Xh g hm with h|h
       ·exact (hnb g hg).1 h
       ·have:=Xi.out g hg;omega
      have hal:aa [] w3 (w3.alloc (.cells #[.int .i64 (x:Int),.int .u32 1] 85)):=(aa.refl _ _).alloc _;have hwa:aa [] w (w3.alloc (.cells #[.int .i64 (x:Int),.int .u32 1] 85)):=(hu.joined hu3 (fun z hz=>Β (hF z hz))).trans hal;have hlx:(eO kf j).take (t+1)=(eO kf j).take t++[x]:=by rw [ϐ,hx];rfl
      refine ⟨t+1,F3,_,_,a4,c4,ω,by go_num,rfl,by rw [hlx,Gg,bz];exact Zn,(hP3.ae hal).upd om (fun z hz=>Zc z (Option.mem_toList.1 hz)),q9,oP.upd om (fun hm=>(hnb b (Option.mem_toList.1 hm)).2 rfl),hwa.own ho3 (Θ _) om,fun z hz=>by rcases Xh z hz with h|h;exact hF z h;omega,hbF3,fun g hg=>?_⟩;rcases ZL with h|h
      ·rw [h] at hg;exact ⟨Zc g hg,(hnb g hg).2⟩
      ·have h9:=h g hg;simp at h9;exact ⟨fun hm=>by have:=Zi g hm;omega,fun e=>ω⟩
     case measure=>simp [intOf];omega
    ·obtain rfl:t=k:=ω;have htI:decide ((t:Int)<(t:Int))=false:=σ;have HQ:=χ (ψ ho hu);clear ho hP hT hM hu hF wC hnb;go_wp2;go_ret2;exact ⟨ao,co,rfl,HQ.out.1,HQ.out.2⟩
theorem Jm {W:World} {base:Nat} {a:Option Addr} {n c:Nat} {xs:List Int} (h:W.ownsRow base 3 1 (.slice a n c) n (aM xs)) {j:Nat} {y:Int} (hj:xs[j]?=some y):∃g,a=some ⟨g,0,none⟩/\base<=g/\g<W.heap.size/\W.cell? ⟨g,j,none⟩=some (.int .i64 y):=by
 have hl:=h.1;rw [dO] at hl;have hjl:j<xs.length:=(List.getElem?_eq_some_iff.1 hj).1;obtain ⟨g,cap,e,hb,_⟩:=dH h ω
 injection e with e1 e2 e3
 subst e1;have hlt:=h.lt g rfl;refine ⟨g,rfl,hb,hlt.2,?_⟩;rw [h.cellAt j ω,jg hjl,φ,hj];rfl
theorem Jn {l:List Nat} {j x:Nat} (h:l[j]?=some x):(Nf l)[j]?=some (x:Int):=by unfold Nf;simp [h]
theorem yw {kf kg:Nat->Int} {i:Nat} (hi:kf i=kg i):∀ {l:List Nat},(∀x,x∈l->kf x=kg x)->zV kf i l=zV kg i l
 | [],_=>rfl
 | x::l,h=>by
  unfold zV;rw [hi,h x σ,yw hi (fun y hy=>h y (Λ _ hy))]
theorem wK {kf kg:Nat->Int}:∀ {n:Nat},(∀x,x<n->kf x=kg x)->eO kf n=eO kg n
 | 0,_=>rfl
 | n+1,h=>by
  unfold eO;rw [←wK (fun x hx=>h x ω)];exact yw (h n ω) (fun x hx=>h x (by have:=gU.1 hx;omega))
def Mi (kf:Nat->Int) (i:Nat):Int:=kf ((eO kf (i+1)).getD (i / 2) 0)
def rW (kf:Nat->Int) (n:Nat):List Int:=(List.range n).map (Mi kf)
theorem Ao (kf:Nat->Int) (n:Nat):rW kf (n+1)=rW kf n++[Mi kf n]:=by unfold rW;rw [List.range_succ,List.map_append];rfl
theorem xg:(Tryz.prog.info? 2).map (fun i=>(i.zero,i.size,i.bytes))=some (some (.int .i64 0),1,8):=by kernel_rfl
def tn (x:Int):Int:=-1-x
theorem N7 (x:Int):tn (tn x)=x:=by unfold tn;omega
theorem kX.congr {P Q K P' Q' K':List Int} {c:Nat} (h:kX P Q K c) (hp:P'.Perm P) (hq:Q'.Perm Q) (hk:K'.Perm K):kX P' Q' K' c:=
 ⟨((hp.append hq).trans h.perm).trans hk.symm,fun a ha b hb=>h.ord a (hp.mem_iff.1 ha) b (hq.mem_iff.1 hb),hp.length_eq.trans h.len⟩
theorem zy:∀ (l:List (Nat×Bool)),(∀x,x<l.length->(l.getD x (0,false)).2=true)->CE l=l.length
 | [],_=>rfl
 | q::r,h=>by
  rw [nP,zy r (fun x hx=>by have:=h (x+1) (by simpa using hx);rwa [List.getD_cons_succ] at this)];have:=h 0 σ;rw [List.getD_cons_zero] at this;rw [Δ this];rfl
structure JN (n:Nat) (R:AR) (A:NS) (q j:Nat):Prop where
 ok:R.Ok
 xI:A.Ok
 lA:A.cs.length=n
 lR:R.sl.length=n
 link:∀x:Nat,R.v x=bV A (x:Int)
 h1:bq A 1=true
 h2:bq A 2=true
 ms:R.most=4294967295
 gn:∀x,R.g x<=q
 fl:∀x,x<R.next->R.v x=true\/x∈R.wait
 ct:R.cnt=j
section
variable {n:Nat} {R:AR} {A:NS} {q j:Nat}
theorem JN.room (h:JN n R A q j) (hj:j<n):∃x R',iC R=some (x,R'):=by
 unfold iC;cases hp:lX R with
 | some p=>exact ⟨_,_,rfl⟩
 | none=>
  exfalso;unfold lX at hp;cases hw:R.wait.getLast? with
  | some y=>rw [hw] at hp;cases hp
  | none=>
   rw [hw] at hp;have hw0:R.wait=[]:=List.getLast?_eq_none_iff.1 hw;dsimp only at hp
   split at hp
   ·rename_i hn
    have hc:R.cnt=R.sl.length:=zy _ (fun x hx=>by
     rcases h.fl x ω with h1|h1
     ·exact h1
     ·rw [hw0] at h1;cases h1)
    have:=h.ct;have:=h.lR;omega
   ·cases hp
theorem BC {R':AR} {x:Nat} (ok:R.Ok) (hT:iC R=some (x,R')) (fl:∀x,x<R.next->R.v x=true\/x∈R.wait):∀y,y<R'.next->R'.v y=true\/y∈R'.wait:=by
 intro y hy;rw [tu ok hT];unfold iC at hT;unfold lX at hT;cases hw:R.wait.getLast? with
 | some z=>
  rw [hw] at hT;simp only [ϡ,ϙ,Prod.mk.injEq] at hT;obtain ⟨rfl,rfl⟩:=hT;have happ:R.wait=R.wait.dropLast++[z]:=by
   obtain ⟨l,hl'⟩:=List.getLast?_eq_some_iff.1 hw;rw [hl'];simp
  rcases fl y hy with h1|h1
  ·exact Α (by rw [h1];rfl)
  ·rw [happ,τ] at h1;rcases h1 with h1|h1
   ·exact Β h1
   ·simp at h1;exact Α (by simp [h1])
 | none=>
  rw [hw] at hT;dsimp only at hT
  split at hT
  ·cases hT
  ·simp only [ϡ,ϙ,Prod.mk.injEq] at hT;obtain ⟨rfl,rfl⟩:=hT;have hy':y<R.next+1:=hy
   by_cases e:y=R.next
   ·exact Α (by simp [e])
   ·rcases fl y ω with h1|h1
    ·exact Α (by rw [h1];rfl)
    ·exact Β h1
theorem JN.put (h:JN n R A q j) (hq:q+1<=4294967295) {g:Nat} (hg:bq A (g:Int)=true) {k:Int} (hk:-9223372036854775808<=k/\k<=9223372036854775807) {x:Nat} {R':AR} (hT:iC R=some (x,R')) :
  iM A (g:Int) (x:Int)=true/\JN n R' (az A (g:Int) (x:Int) k ((q:Int)+1)) (q+1) (j+1):=by
 obtain ⟨t1,t2,t3,t4,t5,t6,t7⟩:=lK h.ok hT;have JB:iM A (g:Int) (x:Int)=true:=by
  rw [bX];refine ⟨hg,(dE _ _).2 ⟨ω,by rw [h.lA];have:=h.lR;omega⟩,?_⟩;rw [←h.link];exact t3
 have hh:∀i,bq (az A (g:Int) (x:Int) k ((q:Int)+1)) i=bq A i:=fun i=>by unfold az;rw [Δ JB];rfl
 refine ⟨JB,t1,rD h.xI _ _ _ _ ⟨hk.1,hk.2,ω,ω⟩,by rw [qo];exact h.lA,by rw [t5];simp [h.lR],fun y=>by rw [tu h.ok hT,Cc JB,h.link],by rw [hh];exact h.h1,by rw [hh];exact h.h2,t6.trans h.ms,fun y=>?_,BC h.ok hT h.fl,by rw [t7,h.ct]⟩;have e:R'.g y=(R.put x (R.g x+1,true)).g y:=by
  show (R'.sl.getD y (0,false)).1=((R.sl.set x (R.g x+1,true)).getD y (0,false)).1
  rw [t5]
 rw [e,AR.mZ];have h1:=h.gn x;have h2:=h.gn y
 split
 ·show R.g x+1<=q+1;omega
 ·omega
theorem JN.give (h:JN n R A q (j+1)) (hq:q<4294967295) {g:Int} (hg:0<g) {m:Nat} (hm:bB A g=some m):R.v m=true/\bV A (m:Int)=true/\(A.c m).i=g/\JN n (eB R m) (aN A (m:Int)) q j:=by
 have hf:=(dD hg).1 hm;have hin:bV A (m:Int)=true:=(aj _ _).2 ⟨hf.1,by rw [hf.2.1];exact hg⟩;have hv:R.v m=true:=by rw [h.link];exact hin
 have hgo:=uq h.ok hv;have eg:∀z,(eB R m).g z=R.g z:=fun z=>by
  show (R.put m (R.g m,false)).g z=_
  rw [AR.mZ]
  split
  ·rename_i e;rw [e.1]
  ·rfl
 refine ⟨hv,hin,hf.2.1,hgo.1,uu h.xI _,by rw [dm];exact h.lA,by rw [rJ];exact h.lR,fun y=>by rw [oN hv,xw hin,h.link],by unfold bq;rw [fJ];exact h.h1,by unfold bq;rw [fJ];exact h.h2,h.ms,fun y=>by rw [eg];exact h.gn y,fun y hy=>?_,by have:=hgo.2;have:=h.ct;omega⟩;rw [oN hv];have hw:(eB R m).wait=R.wait++[m]:=by
  show (if R.g m<R.most then R.wait++[m] else R.wait)=_
  rw [Δ (by have:=h.gn m;rw [h.ms];omega)]
 rw [hw]
 by_cases e:y=m
 ·subst e;exact Β σ
 ·rcases h.fl y hy with h1|h1
  ·exact Α (by rw [h1];simp [e])
  ·exact Β (by simp [h1])
theorem sW {A:NS} {g:Int} (hg:0<g) (h:iG A g≠[]):∃m,bB A g=some m:=by
 cases hm:bB A g with
 | some m=>exact ⟨m,rfl⟩
 | none=>
  exfalso;apply h;have h0:=(iJ hg).1 hm;unfold iG;cases hs:gY A g with
  | nil=>rfl
  | cons x l=>
   have hx:=iy.1 (show x∈gY A g by rw [hs];simp);have:=dL.2 ⟨x,hx.1,hx.2,hg⟩;omega
def K7 (A:NS) (K:List Int) (c:Nat):Prop:=kX ((iG A 1).map tn) (iG A 2) K c
theorem K7.push {K:List Int} {c:Nat} (h:K7 A K c) (xI:A.Ok) {k s:Int} {x:Nat} (hB:iM A 1 (x:Int)=true) {A1 A2 A3:NS} (e1:A1=az A 1 (x:Int) (tn k) s) {m:Nat} (hm:bB A1 1=some m) (hin:bV A1 (m:Int)=true) (e2:A2=aN A1 (m:Int)) (okA2:A2.Ok)
  {y:Nat} {s':Int} (hB2:iM A2 2 (y:Int)=true) (e3:A3=az A2 2 (y:Int) (tn (A1.c m).k) s'):K7 A3 (k::K) c:=by
 have p1:=qZ (h:=1) (x:=x) (k:=tn k) (s:=s) hB xI;rw [show ((1:Nat):Int)=1 from rfl,←e1] at p1;have hi:=((dD ω).1 hm).2.1;have p2:=xR hin;rw [hi,←e2] at p2;have p3:=qZ (h:=2) (x:=y) (k:=tn (A1.c m).k) (s:=s') hB2 okA2;rw [show ((2:Nat):Int)=2 from rfl,←e3] at p3;have hmin:=vD ω hm;have hp:(k::(iG A 1).map tn).Perm (tn (A1.c m).k::(iG A2 1).map tn):=by
  have a1:=(p1.1.symm.trans p2.1).map tn;rw [List.map_cons,List.map_cons,N7] at a1;exact a1
 have hall:∀a,a∈k::(iG A 1).map tn->a<=tn (A1.c m).k:=fun a ha=>by
  have a2:=(p1.1.map tn);rw [List.map_cons,N7] at a2;obtain ⟨b,hb,rfl⟩:=List.mem_map.1 (a2.mem_iff.2 ha);have:=hmin.2 b hb;unfold tn;omega
 refine (kX.push h hp hall).congr ?_ ?_ (ό _)
 ·rw [p3.2 1 ω ω]
 ·rw [←p1.2 2 ω ω,←p2.2 2 ω ω];exact p3.1
theorem K7.lift {K:List Int} {c:Nat} (h:K7 A K c) {m:Nat} (hm:bB A 2=some m) (hin:bV A (m:Int)=true) {A1 A2:NS} (e1:A1=aN A (m:Int)) (okA1:A1.Ok) {x:Nat} {s:Int} (hB:iM A1 1 (x:Int)=true) (e2:A2=az A1 1 (x:Int) (tn (A.c m).k) s):K7 A2 K (c+1):=by
 have hi:=((dD ω).1 hm).2.1;have p1:=xR hin;rw [hi,←e1] at p1;have p2:=qZ (h:=1) (x:=x) (k:=tn (A.c m).k) (s:=s) hB okA1;rw [show ((1:Nat):Int)=1 from rfl,←e2] at p2;have hmin:=vD ω hm;refine (kX.lift h p1.1 hmin.2).congr ?_ ?_ (ό _)
 ·have:=p2.1.map tn;rw [List.map_cons,N7,p1.2 1 ω ω] at this;exact this
 ·rw [p2.2 2 ω ω]
theorem K7.mid {K:List Int} {kf:Nat->Int} (h:K7 A K (j / 2+1)) (hK:K.Perm ((List.range (j+1)).map kf)) {m:Nat} (hm:bB A 1=some m):tn (A.c m).k=Mi kf j:=by
 have hmin:=vD ω hm;have hs:=Gv kf (j+1)
 have:=KR (M:=tn (A.c m).k) hs.1 (hs.2.trans (hK.symm.trans h.perm.symm)) h.ord (List.mem_map.2 ⟨_,hmin.1,rfl⟩) (fun a ha=>by
  obtain ⟨b,hb,rfl⟩:=List.mem_map.1 ha;have:=hmin.2 b hb
  unfold tn;omega)
 rw [h.len,Nat.add_sub_cancel,ϔ] at this;unfold Mi;rw [φ];cases hx:(eO kf (j+1))[j / 2]? with
 | none=>rw [hx] at this;cases this
 | some x=>rw [hx] at this;simp only [ϡ,ϙ] at this;rw [←this];rfl
structure O7 (n:Nat) (kf:Nat->Int) (R:AR) (A:NS) (q j:Nat):Prop where
 s:JN n R A q j
 h:∃K,K7 A K ((j+1) / 2)/\K.Perm ((List.range j).map kf)
 qj:q<=3*j
theorem Qa {K:List Int} {kf:Nat->Int} {j:Nat} (h:K.Perm ((List.range j).map kf)):(kf j::K).Perm ((List.range (j+1)).map kf):=by
 rw [List.range_succ,List.map_append];exact (h.cons (kf j)).trans (Φ (l₁:=[kf j]))
theorem AP {x:Int} (h:-9223372036854775808<=x/\x<=9223372036854775807):-9223372036854775808<=tn x/\tn x<=9223372036854775807:=by unfold tn;omega
theorem JN.wG (h:JN n R A q j) {g x:Nat} {k s:Int} (hg:0<g) (hB:iM A (g:Int) (x:Int)=true):∃m,bB (az A (g:Int) (x:Int) k s) (g:Int)=some m:=by
 refine sW ω (fun e=>?_);have:=(qZ (k:=k) (s:=s) hB h.xI).1.length_eq;rw [e] at this;simp at this
theorem O7.first {kf:Nat->Int} (h:O7 n kf R A q j) (hj:j<n) (hn:n<=65536) (hk:-9223372036854775808<=kf j/\kf j<=9223372036854775807) :
  ∃x R1 A1 m R2 A2 y R3 A3,bq A 1=true/\iC R=some (x,R1)/\A1=az A 1 (x:Int) (tn (kf j)) ((q:Int)+1)/\bB A1 1=some m/\R2=eB R1 m/\A2=aN A1 (m:Int)/\bq A2 2=true/\iC R2=some (y,R3)/\A3=az A2 2 (y:Int) (tn (A1.c m).k) (((q+1:Nat):Int)+1)/\
   (-9223372036854775808<=(A1.c m).k/\(A1.c m).k<=9223372036854775807)/\JN n R3 A3 (q+2) (j+1)/\∃K,K7 A3 K ((j+1) / 2)/\K.Perm ((List.range (j+1)).map kf):=by
 obtain ⟨K,hH,hK⟩:=h.h;have hq:=h.qj;obtain ⟨x,R1,hT⟩:=h.s.room hj;have s1:=h.s.put (g:=1) ω h.s.h1 (AP hk) hT;obtain ⟨m,hm⟩:=h.s.wG (g:=1) (k:=tn (kf j)) (s:=(q:Int)+1) ω s1.1;rw [show ((1:Nat):Int)=1 from rfl] at s1 hm;obtain ⟨A1,e1⟩:∃A1,A1=az A 1 (x:Int) (tn (kf j)) ((q:Int)+1):=⟨_,rfl⟩;rw [←e1] at s1 hm;have QZ:=s1.2.xI.key m;have s2:=s1.2.give ω ω hm;obtain ⟨y,R3,q9⟩:=s2.2.2.2.room hj;have s3:=s2.2.2.2.put (g:=2) ω s2.2.2.2.h2 (AP ⟨QZ.1,QZ.2.1⟩) q9;rw [show ((2:Nat):Int)=2 from rfl] at s3
 exact ⟨x,R1,A1,m,eB R1 m,aN A1 (m:Int),y,R3,_,h.s.h1,hT,e1,hm,rfl,rfl,s2.2.2.2.h2,q9,rfl,⟨QZ.1,QZ.2.1⟩,s3.2,_,hH.push h.s.xI s1.1 e1 hm s2.2.1 rfl s2.2.2.2.xI s3.1 rfl,Qa hK⟩
theorem O7.odd {kf:Nat->Int} {K:List Int} (s:JN n R A q (j+1)) (hq:q<=3*(j+1)) (hH:K7 A K ((j+1) / 2)) (hK:K.Perm ((List.range (j+1)).map kf)) (ho:j % 2=1):O7 n kf R A q (j+1)/\∃m,bB A 1=some m/\tn (A.c m).k=Mi kf j:=by
 have e1:(j+1) / 2=j / 2+1:=ω;have e2:(j+1+1) / 2=j / 2+1:=ω;rw [e1] at hH
 obtain ⟨m,hm⟩:=sW (A:=A) (g:=1) ω (fun e=>by
  have:=hH.len
  rw [e] at this;simp at this)
 exact ⟨⟨s,⟨K,by rw [e2];exact hH,hK⟩,hq⟩,m,hm,hH.mid hK hm⟩
theorem O7.even {kf:Nat->Int} {K:List Int} (s:JN n R A q (j+1)) (hj:j<n) (hq:q+1<=3*(j+1)) (hn:n<=65536) (hH:K7 A K ((j+1) / 2)) (hK:K.Perm ((List.range (j+1)).map kf)) (ho:j % 2=0) :
  ∃m R1 A1 x R2 A2,bB A 2=some m/\R1=eB R m/\A1=aN A (m:Int)/\bq A1 1=true/\iC R1=some (x,R2)/\A2=az A1 1 (x:Int) (tn (A.c m).k) ((q:Int)+1)/\(-9223372036854775808<=(A.c m).k/\(A.c m).k<=9223372036854775807)/\
   O7 n kf R2 A2 (q+1) (j+1)/\∃m',bB A2 1=some m'/\tn (A2.c m').k=Mi kf j:=by
 have e1:(j+1) / 2=j / 2:=ω;have e2:(j+1+1) / 2=j / 2+1:=ω;rw [e1] at hH
 obtain ⟨m,hm⟩:=sW (A:=A) (g:=2) ω (fun e=>by
  have h1:=hH.len;have h2:=(hH.perm.trans hK).length_eq
  rw [e] at h2;simp at h2 h1;omega)
 have QZ:=s.xI.key m;have s2:=s.give ω ω hm;obtain ⟨x,R2,hT⟩:=s2.2.2.2.room hj;have s3:=s2.2.2.2.put (g:=1) ω s2.2.2.2.h1 (AP ⟨QZ.1,QZ.2.1⟩) hT;rw [show ((1:Nat):Int)=1 from rfl] at s3;have hL:=hH.lift (s:=(q:Int)+1) hm s2.2.1 rfl s2.2.2.2.xI s3.1 rfl;obtain ⟨m',hm'⟩:=s2.2.2.2.wG (g:=1) (k:=tn (A.c m).k) (s:=(q:Int)+1) ω s3.1;exact ⟨m,eB R m,aN A (m:Int),x,R2,_,hm,rfl,rfl,s2.2.2.2.h1,hT,rfl,⟨QZ.1,QZ.2.1⟩,⟨s3.2,⟨K,by rw [e2];exact hL,hK⟩,hq⟩,m',hm',hL.mid hK hm'⟩
theorem Ou (kf:Nat->Int) (hn:n<=65536):O7 n kf (AR.new n 4294967295) (Js (NS.new n) 2) 0 0:=by
 have hm:Js (NS.new n) 2=aC (aC (NS.new n)):=rfl;rw [hm];have hl:(aC (aC (NS.new n))).cs.length=n:=by rw [nS,nS];simp [NS.new]
 have hin:∀x:Nat,bV (aC (aC (NS.new n))) (x:Int)=false:=fun x=>by rw [qd,qd,BK]
 have hk:∀g:Int,0<g->iG (aC (aC (NS.new n))) g=[]:=fun g hg=>by
  unfold iG;cases hs:gY (aC (aC (NS.new n))) g with
  | nil=>rfl
  | cons x l=>
   have hx:=iy.1 (show x∈gY (aC (aC (NS.new n))) g by rw [hs];simp);have:=hin x;rw [(aj _ _).2 ⟨hx.1,by rw [hx.2];exact hg⟩] at this;cases this
 have hg0:∀x,(AR.new n 4294967295).g x=0:=fun x=>((AR.mg hn ω).fresh x (Nat.zero_le _)).1;refine ⟨⟨AR.mg hn ω,qa (qa (NS.mg n hn)),hl,by simp [AR.new],fun x=>by rw [FN,hin],?_,?_,rfl,fun x=>by rw [hg0];exact Θ _,fun x hx=>absurd hx (Nat.not_lt_zero _),AR.Ci _ _⟩,⟨[],?_,ό _⟩,Θ _⟩
 ·unfold aC NS.new bq;simp
 ·unfold aC NS.new bq;simp
 ·unfold K7;rw [hk 1 ω,hk 2 ω];exact ⟨ό _,fun a ha=>(by cases ha),rfl⟩
end
theorem wm {K:dV} (kd d:Int) (vk:Value) (ks:List Int) (w:World) (hS:fO w [] vk ks) (hb:∀x,x∈ks->-9223372036854775808<=x/\x<=9223372036854775807) (hc:xY kd d=0) (hn:ks.length<=65536) (ko:lG K kd d ks.length) :
  Calls Tryz.prog 16 #[.agg #[.int .i64 kd,.int .i64 d],vk] w fun e w'=>∃ao co,e=.returned (.tuple #[.slice ao ks.length co,.int .i64 0])/\w'.ownsRow w.heap.size 3 1 (.slice ao ks.length co) ks.length (aM (Nf (eO (fun i=>ks.getD i 0) ks.length)))/\aa [] w w':=by
 have hS0:=hS;obtain ⟨a,cap,rfl,hcap1,hcap2,hcell⟩:=hS;have u0:aa [] w (w.alloc (.cells #[.int .i64 kd,.int .i64 d] 23)):=(aa.refl _ _).alloc _;have kl:=fun W (hW:aa [] w W)=>Ms kd d (.slice a ks.length cap) ks ks.length W (hS0.fresh hW (fun g hg=>Α hg)) hb hc hn (Θ _) ko;rw [List.take_of_length_le (by rw [nT];exact Θ _)] at kl;generalize eO (fun i=>ks.getD i 0) ks.length=L at *;clear hS0 hb hc hn ko hcell;generalize ks.length=n at *
 go_enter Tryz.func16,Tryz.ntmps16
 go_wp2_with (first
  | ((go_at_call 17;(with_reducible refine (kl _ β).mono ?_));rintro e w1 ⟨ao,co,rfl,ho,hu1⟩)
  | fail)
 go_ret2;exact ⟨ao,co,rfl,jT ho σ,aa.trans β hu1⟩
def vU (w:World) (v:Value) (Z:List (List Int)):Prop:=
 ∃a cap,v=.slice a Z.length cap/\Z.length<=cap/\cap<=9223372036854775807/\∀x l,Z[x]?=some l->∃g off vx,a=some ⟨g,off,none⟩/\g<w.heap.size/\w.cell? ⟨g,off+x,none⟩=some vx/\fO w [] vx l
theorem vU.upd {w w':World} {v:Value} {Z:List (List Int)} (h:vU w v Z) (hu:aa [] w w'):vU w' v Z:=by
 obtain ⟨a,cap,rfl,h1,h2,h3⟩:=h;refine ⟨a,cap,rfl,h1,h2,fun x l hx=>?_⟩;obtain ⟨g,off,vx,rfl,hg,hc,hs⟩:=h3 x l hx;exact ⟨g,off,vx,rfl,Ψ hg hu.size,hu.was hc,hs.fresh hu (fun g hg=>Α hg)⟩
theorem vU.shape {w:World} {v:Value} {Z:List (List Int)} (h:vU w v Z):∃a cap,v=.slice a Z.length cap/\Z.length<=cap/\cap<=9223372036854775807:=by
 obtain ⟨a,cap,rfl,h1,h2,_⟩:=h;exact ⟨a,cap,rfl,h1,h2⟩
theorem fO.form {w:World} {F:List Nat} {v:Value} {xs:List Int} (h:fO w F v xs):∃a cap,v=.slice a xs.length cap/\xs.length<=cap/\cap<=9223372036854775807:=by
 obtain ⟨a,cap,rfl,h1,h2,_⟩:=h;exact ⟨a,cap,rfl,h1,h2⟩
theorem vU.at {w:World} {a:Option Addr} {n cap:Nat} {Z:List (List Int)} (h:vU w (.slice a n cap) Z) {x:Nat} {l:List Int} (hx:Z[x]?=some l) :
  ∃g off ax cx,a=some ⟨g,off,none⟩/\g<w.heap.size/\w.cell? ⟨g,off+x,none⟩=some (.slice ax l.length cx)/\l.length<=cx/\cx<=9223372036854775807/\fO w [] (.slice ax l.length cx) l:=by
 obtain ⟨a',cap',he,_,_,h3⟩:=h;cases he;obtain ⟨g,off,vx,rfl,hg,hc,hs⟩:=h3 x l hx;obtain ⟨ax,cx,rfl,h1,h2⟩:=hs.form;exact ⟨g,off,ax,cx,rfl,hg,hc,h1,h2,hs⟩
def mM:Nat->List (List Int)->Nat
 | n,[]=>n
 | n,l::r=>if 65536<n+l.length then n+l.length else mM (n+l.length) r
def dI (Z:List (List Int)):Nat:=(Z.map List.length).sum
theorem Fz:∀ (Z:List (List Int)) (n:Nat),n+dI Z<=65536->mM n Z=n+dI Z
 | [],n,_=>by simp [mM,dI]
 | l::r,n,h=>by
  have e:dI (l::r)=l.length+dI r:=by simp [dI]
  rw [e] at h ⊢;unfold mM;rw [Γ ω,Fz r (n+l.length) ω];omega
theorem L9 (w:World) (va:Value) (Z:List (List Int)) (h:vU w va Z) (hkb:∀i,i<Z.length->(Z.getD i []).length<=1000000000000):Calls Tryz.prog 44 #[va] w fun e w'=>e=.returned (.int .i64 (mM 0 Z:Int))/\aa [] w w':=by
 obtain ⟨a,cap,rfl,h1,h2⟩:=h.shape;have HZ:=χ h;have HE:Hid (∀i,i<Z.length->Z[i]?=some (Z.getD i [])):=fun i hi=>by simp [φ,hi]
 have HD:Hid (∀i n,i<Z.length->mM n (Z.drop i)=if 65536<n+(Z.getD i []).length then n+(Z.getD i []).length else mM (n+(Z.getD i []).length) (Z.drop (i+1))):=fun i n hi=>by
  rw [Ϣ hi,mM,φ,ε hi];rfl
 have HK:=χ hkb;clear hkb;have HL:Hid (∀n,mM n (Z.drop Z.length)=n):=fun n=>by simp [mM]
 have hr0:mM 0 Z=mM 0 (Z.drop 0):=σ;generalize mM 0 Z=r at *;have HR:=χ hr0;clear h hr0;generalize hn:Z.length=n at *;have HN:=χ hn;clear hn
 go_enter Tryz.func44,Tryz.ntmps44
 go_wp2
 go_loopw [3,5,8] (fun v3 _ v8 wr=>∃i m:Nat,v8=.int .i64 (i:Int)/\v3=.int .i64 (m:Int)/\i<=n/\m<=65536/\r=mM m (Z.drop i)/\aa [] w wr) (fun _ _ v8 _=>n-(intOf v8).toNat)
 case atStart=>exact ⟨0,0,rfl,rfl,Nat.zero_le _,ω,HR.out,aa.refl _ _⟩
 case round=>
  obtain ⟨i,m,rfl,rfl,hi,hm,hrr,hu⟩:=hrel;rename World=>wr
  by_cases hin:i<n
  ·have NH:(i:Int)<(n:Int):=ω;obtain ⟨g,off,ax,cx,rfl,hg,hc,hl1,hl2, -⟩:=(HZ.out.upd hu).at (HE.out i hin);have hd:=HD.out i m hin;have hkk:=HK.out i hin;generalize (Z.getD i []).length=k at *;have hwr:IntKind.i64.wrap ((i:Int)+1)=(i:Int)+1:=Μ _ ω;obtain ⟨t,ht⟩:∃t:Nat,t=m+k:=⟨_,rfl⟩;have hwk:(m:Int)+(k:Int)=(t:Int):=ω;have htb:(t:Int)<=9223372036854775807+65536:=ω;rw [←ht] at hd
   by_cases hb:65536<t
   ·rw [Δ hb] at hd;have hbI:(t:Int) > 65536:=ω;have hwt:IntKind.i64.wrap (t:Int)=(t:Int):=Μ _ ω;have hfin:r=t:=hrr.trans hd;have HF:=χ hfin;clear hrr hd hfin ht;go_wp2;go_ret;exact ⟨by rw [HF.out];rfl,hu⟩
   ·rw [Γ hb] at hd;have hbI:¬ (t:Int) > 65536:=ω;have HF:=χ (hrr.trans hd);have hwt:IntKind.i64.wrap (t:Int)=(t:Int):=Μ _ ω;have htl:t<=65536:=ω;clear hrr hd ht hb;go_wp2
    go_roundw
    case rel=>exact ⟨i+1,t,by go_num,by go_num,ω,htl,HF.out,hu⟩
    case measure=>simp [intOf];omega
  ·obtain rfl:i=n:=ω;have NH:¬ (i:Int)<(i:Int):=ω;have hiD:decide ((i:Int)<(i:Int))=false:=σ;have hfin:r=m:=by rw [hrr,HL.out]
   have HF:=χ hfin;clear hrr hfin;go_wp2;go_ret;exact ⟨by rw [HF.out];rfl,hu⟩
def gW (l:List Int):Bool:=decide (∀i,i<l.length-1->l.getD i 0<=l.getD (i+1) 0)
theorem sJ {l:List Int}:gW l=true↔∀i,i+1<l.length->l.getD i 0<=l.getD (i+1) 0:=by
 unfold gW;rw [Ο];exact ⟨fun h i hi=>h i ω,fun h i hi=>h i ω⟩
theorem KO (x y:Int) (w:World):Calls Tryz.prog 71 #[.int .i64 x,.int .i64 y] w fun e w'=>e=.returned (.bool (decide (x<y)))/\w'=w:=by
 have kn:∀z (W:World),Calls Tryz.prog 85 #[.int .i64 z] W fun e w'=>e=.returned (.bool false)/\w'=W:=fun z W=>by
  have hz:(z != z)=false:=σ
  go_enter Tryz.func85,Tryz.ntmps85
  go_wp2;go_ret;exact ⟨rfl,rfl⟩
 have kx:=kn x;have ky:=kn y;clear kn
 go_enter Tryz.func71,Tryz.ntmps71
 go_wp2_with (first
  | ((go_at_call 85;(with_reducible refine (kx _).mono ?_));rintro e w1 ⟨rfl,rfl⟩)
  | ((go_at_call 85;(with_reducible refine (ky _).mono ?_));rintro e w1 ⟨rfl,rfl⟩)
  | fail)
 go_ret;exact ⟨rfl,rfl⟩
theorem Df (w:World) (va:Value) (l:List Int) (h:fO w [] va l):Calls Tryz.prog 47 #[va] w fun e w'=>e=.returned (.bool (gW l))/\aa [] w w':=by
 obtain ⟨a,cap,rfl,hcap1,hcap2,hcell⟩:=h;have HB:Hid (∀b,(b=true↔∀i,i+1<l.length->l.getD i 0<=l.getD (i+1) 0)->gW l=b):=fun b hb=>by
  have:=sJ (l:=l);cases b with
  | true=>exact this.2 (hb.1 rfl)
  | false=>
   cases hr:gW l with
   | false=>rfl
   | true=>exact absurd (hb.2 (this.1 hr)) σ
 generalize gW l=rb at *;have hrow:∀j,j<l.length->∃g off,a=some ⟨g,off,none⟩/\g<w.heap.size/\w.cell? ⟨g,off+j,none⟩=some (.int .i64 (l.getD j 0)):=fun j hj=>by
  obtain ⟨g,off,h1,h2,_,h3⟩:=hcell j l[j] (ε hj);exact ⟨g,off,h1,h2,by rw [h3,φ,ε hj];rfl⟩
 have HR:=χ hrow;have kc:=fun x y W=>KO x y W;clear hcell hrow;generalize hn:l.length=n at *;clear hn;have HX:Hid (∀j,l.getD j 0=l.getD j 0):=fun _=>rfl
 go_enter Tryz.func47,Tryz.ntmps47
 go_wp2
 go_loopw [3] (fun v3 wr=>∃i:Int,v3=.int .i64 i/\-1<=i/\i<=(n:Int)-1/\(∀k:Nat,i<=k->k+1<n->l.getD k 0<=l.getD (k+1) 0)/\aa [] w wr) (fun v3 _=>(intOf v3).toNat)
 case atStart=>exact ⟨(n:Int)-1,by first|rfl|(rw [Μ _ ω])|(go_num),ω,Int.le_refl _,fun k h1 h2=>ω,aa.refl _ _⟩
 case round=>
  obtain ⟨i,rfl,hi1,hi2,hP,hu⟩:=hrel;rename World=>wr
  by_cases hi0:0<i
  ·obtain ⟨j,rfl⟩:∃j:Nat,i=(j:Int):=⟨i.toNat,ω⟩;obtain ⟨k,hk⟩:∃k:Nat,j=k+1:=⟨j-1,ω⟩;have hgt:(j:Int) > 0:=hi0;obtain ⟨g,off,rfl,hg,hc0⟩:=HR.out k ω;obtain ⟨g',off',he,_,hc1⟩:=HR.out j ω;cases he;have c0:∀X,aa [] wr X->_:=fun X hX=>(hu.trans hX).was hc0;have c1:∀X,aa [] wr X->_:=fun X hX=>(hu.trans hX).was hc1;have Gd:(k:Int)<(n:Int):=ω;have hkI2:(j:Int)<(n:Int):=ω;have hks:(j:Int)-1=(k:Int):=ω;have hwk:IntKind.i64.wrap (k:Int)=(k:Int):=Μ _ ω;have HP:=χ (ψ hP (ψ hu hk));have kq:=kc (l.getD j 0) (l.getD k 0)
   have HV:Hid (l.getD j 0<l.getD k 0->rb=false):=fun h3=>HB.out false (by
    constructor
    ·intro h;cases h
    ·intro h;have:=h k ω;rw [←hk] at this;omega)
   have Zw:Hid (¬l.getD j 0<l.getD k 0->∀q:Nat,(k:Int)<=q->q+1<n->l.getD q 0<=l.getD (q+1) 0):=fun h q h1 h2=>by
    by_cases e:q=k
    ·subst e;rw [←HP.out.2.2];omega
    ·exact HP.out.1 q ω h2
   clear hP hu hc0 hc1 kc hk
   by_cases hlt:l.getD j 0<l.getD k 0
   ·have HQ:=χ (HV.out hlt);rw [Ν hlt] at kq;clear HV Zw hlt;generalize l.getD j 0=y at *;generalize l.getD k 0=x at *
    go_upto_region 4 with (fail)
    go_region_held3 (aa [] wr) (exact ν)
     (first
      | ((go_at_call 71;(with_reducible refine (kq _).mono ?_));rintro e w1 ⟨rfl,rfl⟩))
    go_wp2;go_ret;refine ⟨?_,?_⟩
    ·rw [HQ.out];rfl
    ·exact HP.out.2.1.trans ν
   ·have HQ:=χ (Zw.out hlt);rw [Ξ hlt] at kq;clear HV Zw hlt;generalize l.getD j 0=y at *;generalize l.getD k 0=x at *
    go_upto_region 4 with (fail)
    go_region_held3 (aa [] wr) (exact ν)
     (first
      | ((go_at_call 71;(with_reducible refine (kq _).mono ?_));rintro e w1 ⟨rfl,rfl⟩))
    go_wp2
    go_roundw
    case rel=>exact ⟨(k:Int),by go_num,ω,ω,HQ.out,HP.out.2.1.trans ν⟩
    case measure=>simp [intOf];omega
  ·have hgt:¬i > 0:=ω;have hgd:decide (i > 0)=false:=ζ;have hrb:=HB.out true ⟨fun _ k hk=>hP k ω hk,fun _=>rfl⟩;have HQ:=χ (ψ hrb hu);clear hrb hu hP;go_wp2;go_ret;exact ⟨by rw [HQ.out.1];rfl,HQ.out.2⟩
theorem J8 (w:World) (va:Value) (l:List Int) (h:fO w [] va l):Calls Tryz.prog 46 #[va] w fun e w'=>e=.returned (.bool (!gW l))/\aa [] w w':=by
 have h0:=h;obtain ⟨a,cap,rfl,_,_,_⟩:=h;have ki:=Df w _ l h0;generalize gW l=b at *;clear h0;generalize l.length=n at *
 go_enter Tryz.func46,Tryz.ntmps46
 go_wp2_with (first
  | ((go_at_call 47;(with_reducible refine (ki).mono ?_));rintro e w1 ⟨rfl,hu1⟩)
  | fail)
 go_ret;exact ⟨rfl,hu1⟩
theorem PH (w:World) (va:Value) (Z:List (List Int)) (h:vU w va Z) :
  Calls Tryz.prog 70 #[va,.func (Fn.func 46) #[] #[]] w (Jy (Z.any (fun l=>!gW l)) w):=by
 obtain ⟨a,cap,rfl,hcap,hcap2⟩:=h.shape;have HE:=χ h;have hcp:Z.length<=9223372036854775807:=ω;clear h;generalize hn:Z.length=n at *;have HN:=χ hn;clear hn
 go_enter Tryz.func70,Tryz.ntmps70
 go_wp2
 go_loopw [5,8] (fun _ i wr=>∃k:Nat,k<=n/\i=.int .i64 (k:Int)/\(Z.take k).any (fun l=>!gW l)=false/\aa [] w wr) (fun _ i _=>n-(intOf i).toNat)
 case atStart=>exact ⟨0,ω,rfl,σ,aa.refl _ _⟩
 case round=>
  obtain ⟨k,hk,rfl,hany,hu⟩:=hrel;rename World=>wr
  by_cases hkn:k<n
  ·have hkE:k<Z.length:=by rw [HN.out];exact hkn
   have hx:Z[k]?=some (Z.getD k []):=by simp [φ,hkE]
   have hmem:Z.getD k []∈Z:=Η hx;obtain ⟨g,off,ax,cx,rfl,hg,hc,hl1,hl2,hs⟩:=(HE.out.upd hu).at hx;have kc:=J8 wr _ _ hs;generalize Z.getD k []=l at *;have HM:=χ hmem;have HT:=χ (P8 (fun l=>!gW l) Z k _ hx);have HA:=χ hany;have hwr:IntKind.i64.wrap ((k:Int)+1)=(k:Int)+1:=Μ _ ω;have Gd:(k:Int)<(n:Int):=ω;clear hx hmem hany hs;generalize l.length=nl at *;cases hp:(!gW l) with
   | false=>
    rw [hp] at kc;have HP:=χ hp;clear hp
    go_wp2_with (first
     | ((go_at_call 46;(with_reducible refine (kc).mono ?_));rintro e w2 ⟨rfl,hu2⟩)
     | fail)
    go_roundw
    case rel=>exact ⟨k+1,ω,by go_num,by rw [HT.out,HA.out,HP.out];rfl,hu.trans hu2⟩
    case measure=>simp [intOf];omega
   | true=>
    rw [hp] at kc;have HP:=χ hp;clear hp
    go_wp2_with (first
     | ((go_at_call 46;(with_reducible refine (kc).mono ?_));rintro e w2 ⟨rfl,hu2⟩)
     | fail)
    go_ret;refine ⟨(k:Int),rfl,?_,hu.trans hu2⟩;rw [List.any_eq_true.2 ⟨_,HM.out,HP.out⟩];simp
  ·obtain rfl:k=n:=ω;have hfin:Z.any (fun l=>!gW l)=false:=by rw [←hany,←HN.out,List.take_length]
   have HF:=χ hfin;have hkD:decide ((k:Int)<(k:Int))=false:=σ;clear hany hfin;go_wp2;go_ret;exact ⟨-1,rfl,by rw [HF.out];rfl,hu⟩
theorem PU (w:World) (va:Value) (Z:List (List Int)) (h:vU w va Z) :
  Calls Tryz.prog 45 #[va,.func (Fn.func 46) #[] #[]] w fun e w'=>e=.returned (.bool (Z.any (fun l=>!gW l)))/\aa [] w w':=by
 have k:=PH w va Z h;unfold Jy at k;obtain ⟨a,cap,rfl,hcap,hcap2⟩:=h.shape;clear h;generalize Z.any (fun l=>!gW l)=b at *;generalize Z.length=n at *
 go_enter Tryz.func45,Tryz.ntmps45
 go_wp2_with (first
  | ((go_at_call 70;(with_reducible refine (k).mono ?_));rintro e w1 ⟨i,rfl,hi,hu1⟩)
  | fail)
 go_ret;exact ⟨bA (by rw [←hi]),hu1⟩
theorem Wz (x:Int) (h:-9223372036854775808<=x/\x<=9223372036854775807):bits BinOp.xor IntKind.i64 (-1) x=-1-x:=by
 unfold bits
 show IntKind.i64.wrap ((BitVec.ofInt 64 (-1) ^^^ BitVec.ofInt 64 x).toNat:Int)=_
 have h1:BitVec.ofInt 64 (-1)=BitVec.allOnes 64:=δ;rw [h1,BitVec.allOnes_xor,BitVec.toNat_not,BitVec.toNat_ofInt];have h2:(((2 ^ 64-1-(x % ((2 ^ 64:Nat):Int)).toNat:Nat)):Int)=18446744073709551615-x % 18446744073709551616:=ω;rw [h2]
 by_cases hx:0<=x
 ·rw [Int.emod_eq_of_lt hx ω];unfold IntKind.wrap;simp [IntKind.bits,IntKind.signed];omega
 ·have h3:x % 18446744073709551616=x+18446744073709551616:=ω;rw [h3];unfold IntKind.wrap;simp [IntKind.bits,IntKind.signed];omega
theorem mf (x:Int) (w:World) (h:-9223372036854775808<=x/\x<=9223372036854775807) :
  Calls Tryz.prog 42 #[.int .i64 x] w fun e w'=>e=.returned (.int .i64 (-1-x))/\w'=w:=by
 have HX:=χ (Wz x h)
 go_enter Tryz.func42,Tryz.ntmps42
 go_wp2;go_ret;refine ⟨?_,rfl⟩;rw [HX.out];rfl
structure wS (K:dV) (w0 w:World) (p:Nat) (F:List Nat) (kd d:Int) (R:AR) (A:NS) (q:Nat) (v:Value) (n:Nat) (xs:List Value):Prop where
 pq:dK K w p F kd d R A q
 up:aa [] w0 w
 lo:∀x,x∈F->w0.heap.size<=x
 own:w.ownsRow w0.heap.size 2 1 v n xs
 off:∀g,v.ownBlock=some g->g∉F
section
variable {K:dV} {w0 w w':World} {p:Nat} {F:List Nat} {kd d:Int} {R R':AR} {A A':NS} {q q':Nat} {v:Value} {n:Nat} {xs:List Value}
theorem wS.go (h:wS K w0 w p F kd d R A q v n xs) (hg:Goes F w w' (fun F'=>dK K w' p F' kd d R' A' q')):∃F',wS K w0 w' p F' kd d R' A' q' v n xs:=by
 obtain ⟨F',h1,h2,h3⟩:=hg;have hs:=h.up.size;refine ⟨F',h1,h.up.joined h2 (fun x hx=>Β (h.lo x hx)),fun x hx=>?_,ay h.own h2 h.off,fun g hg hm=>?_⟩
 ·rcases h3 x hx with h'|h'
  ·exact h.lo x h'
  ·omega
 ·rcases h3 g hm with h'|h'
  ·exact h.off g hg h'
  ·have:=(h.own.lt g hg).2;omega
theorem wS.ae (h:wS K w0 w p F kd d R A q v n xs) (hu:aa [] w w'):wS K w0 w' p F kd d R A q v n xs:=
 ⟨h.pq.ae hu,h.up.trans hu,h.lo,ay h.own hu σ,h.off⟩
theorem wS.put (h:wS K w0 w p F kd d R A q v n xs) {g x:Nat} {k:Int} (hB:bq A (g:Int)=true) (hk:-9223372036854775808<=k/\k<=9223372036854775807) (hq:q+1<=18446744073709551615) (hT:iC R=some (x,R')) (e:A'=az A (g:Int) (x:Int) k ((q:Int)+1)) :
  Calls Tryz.prog 40 #[.pointer (some ⟨p,0,none⟩),.int .i64 (g:Int),.int .i64 k] w fun e w'=>∃z,e=.returned (.tuple #[.agg #[.int .i64 (x:Int),.int .u32 z],.int .i64 0])/\∃F',wS K w0 w' p F' kd d R' A' (q+1) v n xs:=by
 subst e;exact (qD h.pq g k hB hk hq hT).mono (fun e w' hh=>⟨_,hh.1,h.go hh.2⟩)
theorem wS.ext (h:wS K w0 w p F kd d R A q v n xs) {g m:Nat} (hM:bB A (g:Int)=some m) {k:Int} (hk:(A.c m).k=k) (e1:R'=eB R m) (e2:A'=aN A m) :
  Calls Tryz.prog 41 #[.pointer (some ⟨p,0,none⟩),.int .i64 (g:Int)] w fun e w'=>∃z,e=.returned (.tuple #[.agg #[.int .i64 (m:Int),.int .u32 z],.int .i64 k,.int .i64 0])/\∃F',wS K w0 w' p F' kd d R' A' q v n xs:=by
 subst e1 e2 hk;exact (vC h.pq g hM).mono (fun e w' hh=>⟨_,hh.1,h.go hh.2⟩)
theorem wS.min (h:wS K w0 w p F kd d R A q v n xs) {g m:Nat} (hM:bB A (g:Int)=some m) {k:Int} (hk:(A.c m).k=k) :
  Calls Tryz.prog 43 #[.pointer (some ⟨p,0,none⟩),.int .i64 (g:Int)] w fun e w'=>∃z,e=.returned (.tuple #[.agg #[.int .i64 (m:Int),.int .u32 z],.int .i64 k,.int .i64 0])/\∃F',wS K w0 w' p F' kd d R A q v n xs:=by
 subst hk;exact (vP h.pq g hM).mono (fun e w' hh=>⟨_,hh.1,h.go hh.2⟩)
end
theorem OV {K:dV} (kd d:Int) (vk:Value) (ks:List Int) (w:World) (hS:fO w [] vk ks) (hb:∀x,x∈ks->-9223372036854775808<=x/\x<=9223372036854775807) (hc:xY kd d=0) (hn:ks.length<=65536) (ko:lG K kd d ks.length) :
  Calls Tryz.prog 21 #[.agg #[.int .i64 kd,.int .i64 d],vk] w fun e w'=>∃ao co,e=.returned (.tuple #[.slice ao ks.length co,.int .i64 0])/\w'.ownsRow w.heap.size 2 1 (.slice ao ks.length co) ks.length (aM (rW (fun i=>ks.getD i 0) ks.length))/\aa [] w w':=by
 have kp:∀W:World,_:=fun W=>tN kd d ks.length 2 W hc hn ω ko;obtain ⟨a,cap,rfl,hcap1,hcap2,hcell⟩:=hS;have hkb:∀j,j<ks.length->-9223372036854775808<=ks.getD j 0/\ks.getD j 0<=9223372036854775807:=fun j hj=>by
  rw [φ,ε hj];exact hb _ (Ϝ hj)
 have hrow:∀j,j<ks.length->∃g off,a=some ⟨g,off,none⟩/\g<w.heap.size/\w.cell? ⟨g,off+j,none⟩=some (.int .i64 (ks.getD j 0)):=fun j hj=>by
  obtain ⟨g,off,h1,h2,_,h3⟩:=hcell j ks[j] (ε hj);exact ⟨g,off,h1,h2,by rw [h3,φ,ε hj];rfl⟩
 have HR:Hid ((∀j,j<ks.length->-9223372036854775808<=(fun i=>ks.getD i 0) j/\(fun i=>ks.getD i 0) j<=9223372036854775807)/\(∀j,j<ks.length->∃g off,a=some ⟨g,off,none⟩/\g<w.heap.size/\w.cell? ⟨g,off+j,none⟩=some (.int .i64 ((fun i=>ks.getD i 0) j)))/\O7 ks.length (fun i=>ks.getD i 0) (AR.new ks.length 4294967295) (Js (NS.new ks.length) 2) 0 0):=⟨hkb,hrow,Ou _ hn⟩;clear hcell hb hkb hrow hc ko;generalize (fun i=>ks.getD i 0)=kf at *;generalize ks.length=n at *;rw [show ((2:Nat):Int)=2 from rfl] at kp
 go_enter Tryz.func21,Tryz.ntmps21
 go_wp2_with (first
  | ((go_at_call 39;(with_reducible refine (kp _).mono ?_));rintro e w1 ⟨p,F,rfl,Ho,hu0,hF⟩)
  | fail)
 have hu1:aa [] w w1:=aa.trans β hu0;have s1:w.heap.size<=w1.heap.size:=hu1.size;have HI:Hid (wS K w w1 p F kd d (AR.new n 4294967295) (Js (NS.new n) 2) 0 (.slice none 0 0) 0 (aM (rW kf 0))):=⟨Ho,hu1,fun x hx=>by have:=hF x hx;simp at this;omega,⟨rfl,Α ⟨rfl,rfl⟩⟩,fun g hg=>by cases hg⟩;clear Ho hu0 hF hu1 kp s1
 go_loopw [8,9,10,11,12,13,14,15,16,17,18,19,32] (fun v8 v9 v10 v11 v12 v13 v14 v15 v16 v17 v18 v19 v32 wr=>∃ (j q:Nat) (F':List Nat) (R:AR) (A:NS) (ao:Option Addr) (co:Nat),j<=n/\v32=.int .i64 (j:Int)/\v8=.slice ao j co/\wS K w wr p F' kd d R A q (.slice ao j co) j (aM (rW kf j))/\O7 n kf R A q j) (fun _ _ _ _ _ _ _ _ _ _ _ _ v32 _=>n-(intOf v32).toNat)
 case atStart=>exact ⟨0,0,F,_,_,none,0,Nat.zero_le _,rfl,rfl,HI.out,HR.out.2.2⟩
 case round=>
  obtain ⟨j,q,F',R,A,ao,co,hj,rfl,rfl,hP,hI⟩:=hrel;rename World=>wr
  by_cases hjn:j<n
  ·have J3:decide ((j:Int)<(n:Int))=true:=ζ;have hjI2:(j:Int)<(n:Int):=ω;obtain ⟨hkb,hrow, -⟩:=HR.out;obtain ⟨g,off,rfl,hg,hc⟩:=hrow j hjn;have hc1:=hP.up.was hc;have hkj:=hkb j hjn;obtain ⟨x,R1,A1,m,R2,A2,y,R3,A3,zH,hT1,e1,hm1,e2,e3,Vr,q9,e4,hr1,Hz,Kl,hH3,hK3⟩:=hI.first hjn hn hkj;have hqj:=hI.qj;have kI1:=hP.put (g:=1) zH (AP hkj) ω hT1 e1;obtain ⟨t1,ht1⟩:∃t1,(A1.c m).k=t1:=⟨_,rfl⟩;rw [ht1] at hr1 e4;have kE1:∀W F1,wS K w W p F1 kd d R1 A1 (q+1) (.slice ao j co) j (aM (rW kf j))->_:=fun W F1 h=>h.ext (g:=1) hm1 ht1 e2 e3
   have kI2:∀W F1,wS K w W p F1 kd d R2 A2 (q+1) (.slice ao j co) j (aM (rW kf j))->_:=fun W F1 h=>h.put (g:=2) Vr (AP hr1) ω q9 e4;have hb0:w.heap.size<=wr.heap.size:=hP.up.size;rw [show ((1:Nat):Int)=1 from rfl] at kI1 kE1;rw [show ((2:Nat):Int)=2 from rfl] at kI2;unfold tn at kI1 kI2;rcases Nat.mod_two_eq_zero_or_one j with ho|ho
   ·obtain ⟨m2,R4,A4,x3,R5,A5,hm2,e5,e6,hh3,Ai,e7,hr2,KX,m3,Dt,hmv⟩:=O7.even Hz hjn ω hn hH3 hK3 ho;obtain ⟨t2,ht2⟩:∃t2,(A3.c m2).k=t2:=⟨_,rfl⟩;rw [ht2] at hr2 e7;obtain ⟨t3,ht3⟩:∃t3,(A5.c m3).k=t3:=⟨_,rfl⟩;rw [ht3] at hmv;have hr3:-9223372036854775808<=t3/\t3<=9223372036854775807:=by rw [←ht3];exact ⟨(KX.s.xI.key m3).1,(KX.s.xI.key m3).2.1⟩
    have kE2:∀W F1,wS K w W p F1 kd d R3 A3 (q+1+1) (.slice ao j co) j (aM (rW kf j))->_:=fun W F1 h=>h.ext (g:=2) hm2 ht2 e5 e6;have kI3:∀W F1,wS K w W p F1 kd d R4 A4 (q+1+1) (.slice ao j co) j (aM (rW kf j))->_:=fun W F1 h=>h.put (g:=1) hh3 (AP hr2) ω Ai e7;have kM:∀W F1,wS K w W p F1 kd d R5 A5 (q+1+1+1) (.slice ao j co) j (aM (rW kf j))->_:=fun W F1 h=>h.min (g:=1) Dt ht3;rw [show ((2:Nat):Int)=2 from rfl] at kE2;rw [show ((1:Nat):Int)=1 from rfl] at kI3 kM;unfold tn at kI3;have hpar:(j:Int).tmod 2=0:=by rw [show (j:Int).tmod 2=((j % 2:Nat):Int) from rfl,ho];rfl
    have HQ:=χ (ψ KX hmv);clear hP hI KX hmv Hz hH3 hK3 hc hkb hrow hT1 q9 Ai e1 e2 e3 e4 e5 e6 e7 hm1 hm2 Dt ht1 ht2 ht3 zH Vr hh3 ho;generalize kf j=kj at *
    go_upto_region 15 with (first
     | ((go_at_call 42;(with_reducible refine (mf kj _ hkj).mono ?_));rintro e wt ⟨rfl,rfl⟩)|((go_at_call 42;(with_reducible refine (mf t1 _ hr1).mono ?_));rintro e wt ⟨rfl,rfl⟩)|((go_at_call 42;(with_reducible refine (mf t2 _ hr2).mono ?_));rintro e wt ⟨rfl,rfl⟩)
     | ((go_at_call 40;(with_reducible refine (kI1).mono ?_));rintro e wi ⟨z,rfl,Fi,hI1⟩)|((go_at_call 41;(with_reducible refine (kE1 _ _ hI1).mono ?_));rintro e we ⟨z,rfl,Fe,hE1⟩)|((go_at_call 40;(with_reducible refine (kI2 _ _ (hE1.ae β)).mono ?_));rintro e wi ⟨z,rfl,Fi,hI2⟩)|((go_at_call 41;(with_reducible refine (kE2 _ _ hI2).mono ?_));rintro e we ⟨z,rfl,Fe,hE2⟩)|((go_at_call 40;(with_reducible refine (kI3 _ _ (hE2.ae β)).mono ?_));rintro e wi ⟨z,rfl,Fi,X0⟩)
     | ((go_at_call 43;(with_reducible refine (kM _ _ X0).mono ?_));rintro e we ⟨z,rfl,Fm,hM⟩)
     | fail)
    refine eY (fun W=>∃F6,wS K w W p F6 kd d _ _ (q+1+1+1) (.slice ao j co) j (aM (rW kf j))) ⟨_,hM.ae β⟩ ?_;rintro W ⟨F6,pU⟩;have Xd:=pU.own;have hb6:w.heap.size<=W.heap.size:=pU.up.size;have HP:=χ pU;clear pU hM
    go_wp2_with (first|((go_at_call 42;(with_reducible refine (mf t3 _ hr3).mono ?_));rintro e wt ⟨rfl,rfl⟩)|(at_builtin;refine aI rfl _ _ 24 rfl w.heap.size 2 (.int .i64 0) 1 8 Tryz.underlying24 xg rfl δ _ _ _ rfl Xd [.int .i64 _] rfl (by simp [Value.oneCell']) (by first|rfl|(rw [Κ];rfl)) μ ω ω ?_;intro v2 w9 I9 jJ uB;obtain ⟨a9,c9,rfl,hc9⟩:=aU I9)|fail)
    go_roundw
    case rel=>
     obtain ⟨KX,hmv⟩:=HQ.out;have pU:=HP.out;have hl6:=pU.pq.lt;refine ⟨j+1,_,F6,_,_,a9,c9,ω,by go_num,rfl,⟨pU.pq.upd jJ (fun x hx=>pU.off x (Option.mem_toList.1 hx)),pU.up.own Xd (Θ _) jJ,pU.lo,by rw [Ao,←hmv,bz];exact I9,fun g hg=>?_⟩,KX⟩;rcases uB with h|h
     ·rw [h] at hg;exact pU.off g hg
     ·have h9:=h g hg;exact fun hm=>by have:=hl6 g hm;omega
    case measure=>simp [intOf];omega
   ·obtain ⟨KX,m3,Dt,hmv⟩:=O7.odd Hz ω hH3 hK3 ho;obtain ⟨t3,ht3⟩:∃t3,(A3.c m3).k=t3:=⟨_,rfl⟩;rw [ht3] at hmv;have hr3:-9223372036854775808<=t3/\t3<=9223372036854775807:=by rw [←ht3];exact ⟨(KX.s.xI.key m3).1,(KX.s.xI.key m3).2.1⟩
    have kM:∀W F1,wS K w W p F1 kd d R3 A3 (q+1+1) (.slice ao j co) j (aM (rW kf j))->_:=fun W F1 h=>h.min (g:=1) Dt ht3;rw [show ((1:Nat):Int)=1 from rfl] at kM;have hpar:(j:Int).tmod 2=1:=by rw [show (j:Int).tmod 2=((j % 2:Nat):Int) from rfl,ho];rfl
    have HQ:=χ (ψ KX hmv);clear hP hI KX hmv Hz hH3 hK3 hc hkb hrow hT1 q9 e1 e2 e3 e4 hm1 Dt ht1 ht3 zH Vr ho;generalize kf j=kj at *
    go_upto_region 15 with (first
     | ((go_at_call 42;(with_reducible refine (mf kj _ hkj).mono ?_));rintro e wt ⟨rfl,rfl⟩)|((go_at_call 42;(with_reducible refine (mf t1 _ hr1).mono ?_));rintro e wt ⟨rfl,rfl⟩)
     | ((go_at_call 40;(with_reducible refine (kI1).mono ?_));rintro e wi ⟨z,rfl,Fi,hI1⟩)|((go_at_call 41;(with_reducible refine (kE1 _ _ hI1).mono ?_));rintro e we ⟨z,rfl,Fe,hE1⟩)|((go_at_call 40;(with_reducible refine (kI2 _ _ (hE1.ae β)).mono ?_));rintro e wi ⟨z,rfl,Fi,hI2⟩)
     | ((go_at_call 43;(with_reducible refine (kM _ _ hI2).mono ?_));rintro e we ⟨z,rfl,Fm,hM⟩)
     | fail)
    refine eY (fun W=>∃F6,wS K w W p F6 kd d _ _ (q+1+1) (.slice ao j co) j (aM (rW kf j))) ⟨_,hM.ae β⟩ ?_;rintro W ⟨F6,pU⟩;have Xd:=pU.own;have hb6:w.heap.size<=W.heap.size:=pU.up.size;have HP:=χ pU;clear pU hM
    go_wp2_with (first|((go_at_call 42;(with_reducible refine (mf t3 _ hr3).mono ?_));rintro e wt ⟨rfl,rfl⟩)|(at_builtin;refine aI rfl _ _ 24 rfl w.heap.size 2 (.int .i64 0) 1 8 Tryz.underlying24 xg rfl δ _ _ _ rfl Xd [.int .i64 _] rfl (by simp [Value.oneCell']) (by first|rfl|(rw [Κ];rfl)) μ ω ω ?_;intro v2 w9 I9 jJ uB;obtain ⟨a9,c9,rfl,hc9⟩:=aU I9)|fail)
    go_roundw
    case rel=>
     obtain ⟨KX,hmv⟩:=HQ.out;have pU:=HP.out;have hl6:=pU.pq.lt;refine ⟨j+1,_,F6,_,_,a9,c9,ω,by go_num,rfl,⟨pU.pq.upd jJ (fun x hx=>pU.off x (Option.mem_toList.1 hx)),pU.up.own Xd (Θ _) jJ,pU.lo,by rw [Ao,←hmv,bz];exact I9,fun g hg=>?_⟩,KX⟩;rcases uB with h|h
     ·rw [h] at hg;exact pU.off g hg
     ·have h9:=h g hg;exact fun hm=>by have:=hl6 g hm;omega
    case measure=>simp [intOf];omega
  ·obtain rfl:j=n:=ω;have J3:decide ((j:Int)<(j:Int))=false:=σ;have HO:=χ hP;clear hP hI;go_wp2;go_ret2;exact ⟨ao,co,rfl,HO.out.own,HO.out.up⟩
theorem ZV {W:World} {g:Nat} {x y z u:Int} (h0:W.cell? ⟨g,0,none⟩=some (.int .i64 x)) (h1:W.cell? ⟨g,1,none⟩=some (.int .i64 y)) (h2:W.cell? ⟨g,2,none⟩=some (.int .i64 z)) (h3:W.cell? ⟨g,3,none⟩=some (.int .i64 u)):fO W [] (.slice (some ⟨g,0,none⟩) 4 4) [x,y,z,u]:=by
 refine ⟨some ⟨g,0,none⟩,4,rfl,σ,ω,fun j v hj=>⟨g,0,rfl,Ε W _ h0,σ,?_⟩⟩
 match j,hj with
 | 0,hj=>simp at hj;subst hj;exact h0
 | 1,hj=>simp at hj;subst hj;exact h1
 | 2,hj=>simp at hj;subst hj;exact h2
 | 3,hj=>simp at hj;subst hj;exact h3
 | j+4,hj=>simp at hj
theorem slk3 {W:World} {g:Nat} {x y z:Int} (h0:W.cell? ⟨g,0,none⟩=some (.int .i64 x)) (h1:W.cell? ⟨g,1,none⟩=some (.int .i64 y)) (h2:W.cell? ⟨g,2,none⟩=some (.int .i64 z)):fO W [] (.slice (some ⟨g,0,none⟩) 3 3) [x,y,z]:=by
 refine ⟨some ⟨g,0,none⟩,3,rfl,σ,ω,fun j v hj=>⟨g,0,rfl,Ε W _ h0,σ,?_⟩⟩
 match j,hj with
 | 0,hj=>simp at hj;subst hj;exact h0
 | 1,hj=>simp at hj;subst hj;exact h1
 | 2,hj=>simp at hj;subst hj;exact h2
 | j+3,hj=>simp at hj
theorem V4 {W:World} {va:Value} (h:fO W [] va [3,1,2,1]) :
  Calls Tryz.prog 16 #[.agg #[.int .i64 6,.int .i64 0],va] W fun e w'=>∃ao co,e=.returned (.tuple #[.slice ao 4 co,.int .i64 0])/\fO w' [] (.slice ao 4 co) [1,3,2,0]/\aa [] W w':=by
 refine (wm 6 0 va [3,1,2,1] W h δ (by decide +kernel) δ (ze 4 ω)).mono ?_;rintro e w' ⟨ao,co,rfl,ho,hu⟩;have e4:Nf (eO (fun i=>[3,1,2,1].getD i 0) 4)=[1,3,2,0]:=by decide +kernel
 refine ⟨ao,co,rfl,?_,hu⟩;have ho':w'.ownsRow W.heap.size 3 1 (.slice ao 4 co) 4 (aM (Nf (eO (fun i=>[3,1,2,1].getD i 0) 4))):=ho;rw [e4] at ho';exact fO.fQ (xs:=[1,3,2,0]) ho' (fun g hg=>by cases hg)
theorem YK {W:World} {va:Value} (h:fO W [] va [3,1,2]) :
  Calls Tryz.prog 21 #[.agg #[.int .i64 6,.int .i64 0],va] W fun e w'=>∃g co,e=.returned (.tuple #[.slice (some ⟨g,0,none⟩) 3 co,.int .i64 0])/\w'.cell? ⟨g,0,none⟩=some (.int .i64 3)/\w'.cell? ⟨g,1,none⟩=some (.int .i64 1)/\w'.cell? ⟨g,2,none⟩=some (.int .i64 2)/\aa [] W w':=by
 refine (OV 6 0 va [3,1,2] W h δ (by decide +kernel) δ (ze 3 ω)).mono ?_;rintro e w' ⟨ao,co,rfl,ho,hu⟩;have e4:rW (fun i=>[3,1,2].getD i 0) 3=[3,1,2]:=by decide +kernel
 have ho':w'.ownsRow W.heap.size 2 1 (.slice ao 3 co) 3 (aM (rW (fun i=>[3,1,2].getD i 0) 3)):=ho;rw [e4] at ho';obtain ⟨g,cap,he,_,_,_,_,hc,_⟩:=dH ho' ω;cases he;exact ⟨g,_,rfl,hc 0 _ rfl,hc 1 _ rfl,hc 2 _ rfl,hu⟩
theorem qi (w:World):Calls Tryz.prog 15 #[] w fun r w'=>r=.returned (.bool true)/\aa [] w w':=by
 go_enter Tryz.func15,Tryz.ntmps15
 go_upto_region 4 with (first
  | ((go_at_call 16;(with_reducible refine (V4 (ZV γ γ γ γ)).mono ?_));rintro e w1 ⟨ao,co,rfl,hS1,hu1⟩;(have q0:w1.cell? ⟨w.heap.size,0,none⟩=some (.int .i64 6):=hu1.was γ);(have q1:w1.cell? ⟨w.heap.size,1,none⟩=some (.int .i64 0):=hu1.was γ);(have hw1:aa [] w w1:=aa.trans β hu1))
  | ((go_at_call 21;(with_reducible refine (YK (slk3 γ γ γ)).mono ?_));rintro e w2 ⟨g,cm,rfl,c0,c1,c2,hu2⟩)
  | fail)
 have Wv:aa [] w1 w2:=aa.trans β hu2;have hS2:=hS1.fresh Wv (F':=[]) (fun g hg=>Α hg);have hw2:=hw1.trans Wv;have hgl:=Ε w2 _ c0;dsimp only at hgl;have hne:¬g=w2.heap.size:=ω;clear hS1 hu1 hu2 q0 q1 hw1 Wv
 go_wp2_with (first
  | ((go_at_call 20;(with_reducible refine (NG _ [] [] _ _ [1,3,2,0] (hS2.fresh β (fun g hg=>Α hg)) (ZV γ γ γ γ)).mono ?_));rintro e w3 ⟨rfl,kk,rfl⟩)
  | fail)
 go_ret;exact ⟨rfl,β⟩
end Go.Proofs.YtklibcncmbofpaaGreat
