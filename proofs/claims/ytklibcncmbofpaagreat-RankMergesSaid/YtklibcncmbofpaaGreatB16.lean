/-
  Lemmas for RankMerges: RkP, RkK, RkN, RkL, RkR, RkR2, RkM, RkW, RkE, Ll, Ll2, Ll3, RkT, RkV, RkB. Conditions: those of each lemma.
-/
import Derived.Lib.MinMax
import Derived.Shelf.Bits.Mul64
import Derived.Shelf.Slices.Reverse
import Derived.Shelf.Slices.Cells
import Derived.Ground.SlgnProg
import Derived.Shelf.SlicesE.Clone
import Derived.Test.YtklibcncmbofpaaGreatB03
import Derived.Test.YtklibcncmbofpaaGreatB04
import Derived.Test.YtklibcncmbofpaaGreatB06
set_option linter.all false
set_option maxHeartbeats 8000000
set_option maxRecDepth 10000
namespace Go.Proofs.YtklibcncmbofpaaGreat
open Go Go.RowKit
def NW (ks:Nat->Int) (x y:Nat):Prop:=ks x<ks y\/(ks x=ks y/\x<y)
theorem Mm {ks:Nat->Int} {x y z:Nat} (h:NW ks x y) (h':NW ks y z):NW ks x z:=by unfold NW at *;omega
def rM (ks:Nat->Int) (i:Nat):List Nat->List Nat
 | []=>[i]
 | x::l=>if ks i<ks x then i::x::l else x::rM ks i l
def dH (ks:Nat->Int):Nat->List Nat
 | 0=>[]
 | n+1=>rM ks n (dH ks n)
theorem vG (ks:Nat->Int) (i:Nat):∀l:List Nat,(rM ks i l).Perm (i::l)
 | []=>ό _
 | x::l=>by
  unfold rM
  split
  ·exact ό _
  ·exact ((vG ks i l).cons x).trans (List.Perm.swap i x l)
theorem jS (ks:Nat->Int):∀n,(dH ks n).Perm (List.range n)
 | 0=>ό _
 | n+1=>by
  rw [List.range_succ];exact ((vG ks n _).trans ((jS ks n).cons n)).trans (Φ (l₁:=[n]))
theorem jf {ks:Nat->Int} {n x:Nat}:x∈dH ks n↔x<n:=by rw [(jS ks n).mem_iff,List.mem_range]
theorem q9 (ks:Nat->Int) (n:Nat):(dH ks n).length=n:=by rw [(jS ks n).length_eq,List.length_range]
theorem Fq (ks:Nat->Int) (n:Nat):(dH ks n).Nodup:=(jS ks n).nodup_iff.2 List.nodup_range
theorem wB {ks:Nat->Int} {i:Nat}:∀ {l:List Nat},l.Pairwise (NW ks)->(∀x,x∈l->x<i)->(rM ks i l).Pairwise (NW ks)
 | [],_,_=>by unfold rM;simp
 | x::l,h,hl=>by
  rw [Ϛ] at h;unfold rM
  split
  ·rename_i hk
   rw [Ϛ,Ϛ];refine ⟨fun y hy=>?_,h.1,h.2⟩;rcases ρ.1 hy with e|e
   ·subst e;exact Α hk
   ·exact Mm (Α hk) (h.1 y e)
  ·rename_i hk
   rw [Ϛ];refine ⟨fun y hy=>?_,wB h.2 (fun y hy=>hl y (Λ _ hy))⟩;rcases ρ.1 ((vG ks i l).mem_iff.1 hy) with e|e
   ·subst e;have:=hl x σ;unfold NW;omega
   ·exact h.1 y e
theorem lF (ks:Nat->Int):∀n,(dH ks n).Pairwise (NW ks)
 | 0=>List.Pairwise.nil
 | n+1=>wB (lF ks n) (fun x hx=>jf.1 hx)
structure Vg (n:Nat) (ks:Nat->Int) (R:AR) (A:NS) (q j:Nat):Prop where
 ok:R.Ok
 ym:A.Ok
 lA:A.cs.length=n
 lR:R.sl.length=n
 link:∀x:Nat,R.v x=bP A (x:Int)
 has:bf A 1=true
 next:R.next=j
 wait:R.wait=[]
 qj:q=j
 jn:j<=n
 put:∀x,x<j->R.v x=true/\R.g x=1/\A.c x=⟨1,ks x,(x:Int)+1⟩
theorem Vg.step {n:Nat} {ks:Nat->Int} {R:AR} {A:NS} {q j:Nat} (h:Vg n ks R A q j) (hj:j<n) (hk:-9223372036854775808<=ks j/\ks j<=9223372036854775807):∃R',iC R=some (j,R')/\R.g j=0/\Vg n ks R' (au A 1 (j:Int) (ks j) ((q:Int)+1)) (q+1) (j+1):=by
 have hfr:=h.ok.fresh j (by rw [h.next];exact Θ _);have hpk:lU R=some (j,{ R with next:=j+1 }):=by
  unfold lU;rw [h.wait];simp only [List.getLast?_nil];rw [Γ (by rw [h.lR,h.next];omega),h.next]
 obtain ⟨R',hR⟩:∃R',R'=AR.put { R with next:=j+1 } j (R.g j+1,true):=⟨_,rfl⟩;have htk:iC R=some (j,R'):=by unfold iC;rw [hpk,hR];rfl
 obtain ⟨t1,t2,t3,t4,t5,t6,t7⟩:=lH h.ok htk;have hR'n:R'.next=j+1:=by rw [hR];rfl
 have hR'w:R'.wait=[]:=by rw [hR];exact h.wait
 have hR'g:∀y,R'.g y=if y=j then 1 else R.g y:=fun y=>by
  have e:R'.g y=(R.put j (R.g j+1,true)).g y:=by
   show (R'.sl.getD y (0,false)).1=((R.sl.set j (R.g j+1,true)).getD y (0,false)).1
   rw [t5]
  rw [e,AR.mP]
  by_cases e2:y=j
  ·rw [Δ ⟨e2,t2⟩,Δ e2,hfr.1]
  ·rw [Γ (fun h=>e2 h.1),Γ e2]
 have I5:iX A 1 (j:Int)=true:=by
  rw [bV];refine ⟨h.has,(dB _ _).2 ⟨ω,by rw [h.lA];omega⟩,?_⟩;rw [←h.link];exact hfr.2
 have hpc:∀y,(au A 1 (j:Int) (ks j) ((q:Int)+1)).c y=if y=j then ⟨1,ks j,(q:Int)+1⟩ else A.c y:=fun y=>by
  unfold au;rw [Δ I5,iy]
  by_cases e2:y=j
  ·rw [Δ ⟨ω,by rw [h.lA];omega⟩,Δ e2]
  ·rw [Γ (fun h=>e2 ω),Γ e2]
 have hN4:n<=65536:=by have:=h.ym.c1;have:=h.lA;omega
 refine ⟨R',htk,hfr.1,t1,qR h.ym _ _ _ _ ⟨hk.1,hk.2,ω,by have:=h.qj;omega⟩,by rw [qh];exact h.lA,by rw [t5];simp [h.lR],fun y=>by rw [sU h.ok htk,Ci I5,h.link],by unfold au;rw [Δ I5];exact h.has,hR'n,hR'w,by rw [h.qj],hj,fun y hy=>?_⟩;rw [sU h.ok htk,hR'g,hpc]
 by_cases e:y=j
 ·subst e;rw [Δ rfl,Δ rfl];exact ⟨σ,rfl,by rw [h.qj]⟩
 ·have:=h.put y ω;rw [Γ e,Γ e];exact ⟨by rw [this.1];rfl,this.2⟩
structure WA (n:Nat) (ks:Nat->Int) (R:AR) (A:NS) (t:Nat):Prop where
 ok:R.Ok
 ym:A.Ok
 lA:A.cs.length=n
 lR:R.sl.length=n
 link:∀x:Nat,R.v x=bP A (x:Int)
 has:bf A 1=true
 lv:∀x,R.v x=true↔x∈(dH ks n).drop t
 cl:∀x,x∈(dH ks n).drop t->R.g x=1/\A.c x=⟨1,ks x,(x:Int)+1⟩
theorem Vg.all {n:Nat} {ks:Nat->Int} {R:AR} {A:NS} {q:Nat} (h:Vg n ks R A q n):WA n ks R A 0:=by
 refine ⟨h.ok,h.ym,h.lA,h.lR,h.link,h.has,fun x=>?_,fun x hx=>?_⟩
 ·rw [List.drop_zero,jf];constructor
  ·intro hv;have:=AR.GD hv;rw [h.lR] at this;exact this
  ·exact fun hx=>(h.put x hx).1
 ·rw [List.drop_zero,jf] at hx;exact (h.put x hx).2
theorem WA.step {n:Nat} {ks:Nat->Int} {R:AR} {A:NS} {t:Nat} (h:WA n ks R A t) (ht:t<n):∃x:Nat,(dH ks n)[t]?=some x/\x<n/\bu A 1=some x/\R.g x=1/\(A.c x).k=ks x/\WA n ks (dY R x) (aL A (x:Int)) (t+1):=by
 have hl:t<(dH ks n).length:=by rw [q9];exact ht
 obtain ⟨x,hx⟩:∃x,(dH ks n)[t]=x:=⟨_,rfl⟩;have hd:(dH ks n).drop t=x::(dH ks n).drop (t+1):=by rw [ϡ hl,hx]
 have hs:=(lF ks n).sublist (List.drop_sublist t _);have hn:=(Fq ks n).sublist (List.drop_sublist t _);rw [hd,Ϛ] at hs;rw [hd,Ζ] at hn;have hxm:x∈(dH ks n).drop t:=by rw [hd];simp
 have su:x<n:=jf.1 (List.mem_of_mem_drop hxm);have hv:R.v x=true:=(h.lv x).2 hxm;have hin:bP A (x:Int)=true:=by rw [←h.link];exact hv
 have hc:=h.cl x hxm;have hmin:bu A 1=some x:=by
  refine (dD ω).2 ⟨((aj _ _).1 hin).1,by rw [hc.2],fun y hy hyi=>?_⟩;have hyv:R.v y=true:=by
   rw [h.link];exact (aj _ _).2 ⟨hy,by rw [hyi];omega⟩
  have hym:=(h.lv y).1 hyv;have hcy:=h.cl y hym;rw [hd] at hym;rcases ρ.1 hym with e|e
  ·exact Α e
  ·have:=hs.1 y e;refine Β ?_;unfold eB;rw [hc.2,hcy.2];unfold NW at this;simp only;omega
 have eg:∀y,(dY R x).g y=R.g y:=fun y=>by
  show (R.put x (R.g x,false)).g y=_
  rw [AR.mP]
  split
  ·rename_i e;rw [e.1]
  ·rfl
 refine ⟨x,by rw [ε hl,hx],su,hmin,hc.1,by rw [hc.2],(tX h.ok hv).1,tV h.ym _,by rw [cK];exact h.lA,by rw [qU];exact h.lR,fun y=>by rw [oW hv,xe hin,h.link],by rw [show bf (aL A (x:Int)) 1=bf A 1 from by unfold bf;rw [fJ]];exact h.has,fun y=>?_,fun y hy=>?_⟩
 ·rw [oW hv];simp only [Τ,Bool.not_eq_true',decide_eq_false_iff_not];rw [h.lv,hd,ρ];constructor
  ·rintro ⟨h1|h1,h2⟩
   ·exact absurd h1 h2
   ·exact h1
  ·exact fun h1=>⟨Β h1,fun e=>hn.1 (by rw [←e];exact h1)⟩
 ·have hym:y∈(dH ks n).drop t:=by rw [hd];exact Λ _ hy
  have hne:y≠x:=fun e=>hn.1 (by rw [←e];exact hy);have hcy:=h.cl y hym;have WI:=pO hin y;rw [Γ hne] at WI;exact ⟨by rw [eg];exact hcy.1,by rw [WI];exact hcy.2⟩
theorem O0 {n:Nat} (ks:Nat->Int) (hn:n<=65536):Vg n ks (AR.new n 4294967295) (Jg (NS.new n) 1) 0 0:=by
 have hm:Jg (NS.new n) 1=aD (NS.new n):=rfl;rw [hm];refine ⟨AR.mg hn ω,p9 (NS.mg n hn),by rw [nO];simp [NS.new],by simp [AR.new],fun x=>by rw [qc,EJ,Cc],?_,rfl,rfl,rfl,Nat.zero_le _,fun x hx=>ω⟩;unfold aD NS.new bf;simp
end Go.Proofs.YtklibcncmbofpaaGreat
namespace Go.Proofs.YtklibcncmbofpaaGreat
theorem filter_one {p q:Nat->Bool} {x:Nat} (hp:p x=false) (hq:q x=true):∀ {l:List Nat},l.Nodup->(∀y,y∈l->y≠x->q y=p y)->x∈l->(l.filter q).Perm (x::l.filter p)
 | [],_,_,h=>by cases h
 | a::l,hn,he,hx=>by
  rw [Ζ] at hn
  by_cases e:a=x
  ·subst e;rw [List.filter_cons_of_pos (by simpa using hq),List.filter_cons_of_neg (by simp [hp])];rw [show l.filter q=l.filter p from List.filter_congr (fun y hy=>he y (Λ _ hy) (fun e=>hn.1 (by rw [←e];exact hy)))]
  ·have hx':x∈l:=(ρ.1 hx).resolve_left (fun h=>e h.symm);have ih:=filter_one hp hq hn.2 (fun y hy hne=>he y (Λ _ hy) hne) hx';have ha:=he a σ e;cases Pt:p a with
   | true=>
    rw [List.filter_cons_of_pos (by rw [ha];exact Pt),List.filter_cons_of_pos Pt];exact (ih.cons a).trans (List.Perm.swap x a _)
   | false=>
    rw [List.filter_cons_of_neg (by rw [ha,Pt];simp),List.filter_cons_of_neg (by rw [Pt];simp)];exact ih
def gQ (A:NS) (h:Int):List Nat:=(List.range A.cs.length).filter (fun x=>decide ((A.c x).i=h))
def gZ (A:NS) (h:Int):List Int:=(gQ A h).map (fun x=>(A.c x).k)
theorem ik {A:NS} {h:Int} {x:Nat}:x∈gQ A h↔x<A.cs.length/\(A.c x).i=h:=by unfold gQ;simp
theorem vP {A:NS} {h:Int} (hh:0<h) {m:Nat} (hm:bu A h=some m):(A.c m).k∈gZ A h/\∀y,y∈gZ A h->(A.c m).k<=y:=by
 have hf:=(dD hh).1 hm;refine ⟨List.mem_map.2 ⟨m,ik.2 ⟨hf.1,hf.2.1⟩,rfl⟩,fun y hy=>?_⟩;obtain ⟨x,hx,rfl⟩:=List.mem_map.1 hy;have h2:=ik.1 hx;rcases hf.2.2 x h2.1 h2.2 with e|e
 ·rw [e];exact Int.le_refl _
 ·unfold eB at e;omega
theorem qP {A:NS} {h x:Nat} {k s:Int} (hB:iX A h x=true) (ok:A.Ok):(gZ (au A h x k s) h).Perm (k::gZ A h)/\∀g:Int,0<g->g≠h->gZ (au A h x k s) g=gZ A g:=by
 obtain ⟨b1,b2,b3⟩:=(bV _ _ _).1 hB;have b4:=(aK _ _).1 b1;have hx:x<A.cs.length:=by have:=(dB _ _).1 b2;omega
 have h0:(A.c x).i=0:=by
  have:=(ok.nat x hx).1;have h3:¬ (0<(A.c x).i):=fun h'=>by rw [(aj A x).2 ⟨hx,h'⟩] at b3;cases b3
  omega
 have hc:∀y,(au A h x k s).c y=if y=x then ⟨h,k,s⟩ else A.c y:=fun y=>by
  unfold au;rw [Δ hB,π,iy]
  by_cases e:y=x
  ·rw [Δ ⟨e,hx⟩,Δ e]
  ·rw [Γ (fun h=>e h.1),Γ e]
 have hl:(au A h x k s).cs.length=A.cs.length:=qh _ _ _ _ _;constructor
 ·have h1:(gQ (au A h x k s) h).Perm (x::gQ A h):=by
   unfold gQ;rw [hl];refine filter_one (by simp [h0];omega) (by simp [hc]) List.nodup_range (fun y _ hy=>by rw [hc,Γ hy]) (by simpa using hx)
  have h2:=h1.map (fun y=>((au A h x k s).c y).k);refine h2.trans ?_;rw [List.map_cons,hc,Δ rfl];refine List.Perm.cons k ?_;unfold gZ
  rw [List.map_congr_left (fun y hy=>by
   have:=(ik.1 hy).2
   show ((au A h x k s).c y).k=(A.c y).k
   rw [hc,Γ (fun e=>by rw [e,h0] at this;omega)])]
 ·intro g hg hgh;have h1:gQ (au A h x k s) g=gQ A g:=by
   unfold gQ;rw [hl];refine List.filter_congr (fun y _=>?_);rw [hc]
   by_cases e:y=x
   ·rw [Δ e,e,h0];have e1:¬ (h:Int)=g:=fun e=>hgh e.symm;have e2:¬ (0:Int)=g:=ω;simp [e1,e2]
   ·rw [Γ e]
  unfold gZ;rw [h1]
  exact List.map_congr_left (fun y hy=>by
   have:=(ik.1 hy).2
   rw [hc,Γ (fun e=>by rw [e,h0] at this;omega)])
theorem xC {A:NS} {m:Nat} (hin:bP A (m:Int)=true):(gZ A (A.c m).i).Perm ((A.c m).k::gZ (aL A (m:Int)) (A.c m).i)/\∀g:Int,0<g->g≠(A.c m).i->gZ (aL A (m:Int)) g=gZ A g:=by
 have hi:=(aj _ _).1 hin;have hc:=pO hin;have hcm:=hc m;rw [Δ rfl] at hcm;have hne:∀y,y≠m->(aL A (m:Int)).c y=A.c y:=fun y e=>by rw [hc,Γ e]
 have h0:((aL A (m:Int)).c m).i=0:=by rw [hcm];rfl
 have hl:(aL A (m:Int)).cs.length=A.cs.length:=cK _ _;constructor
 ·have h1:(gQ A (A.c m).i).Perm (m::gQ (aL A (m:Int)) (A.c m).i):=by
   unfold gQ;rw [hl];refine filter_one (by rw [h0];simp;omega) σ List.nodup_range (fun y _ hy=>by rw [hne y hy]) (by simpa using hi.1)
  have h2:=h1.map (fun y=>(A.c y).k);refine h2.trans ?_;rw [List.map_cons];refine List.Perm.cons _ ?_;unfold gZ
  rw [List.map_congr_left (fun y hy=>by
   have:=(ik.1 hy).2
   show (A.c y).k=((aL A (m:Int)).c y).k
   rw [hne y (fun e=>by rw [e,h0] at this;omega)])]
 ·intro g hg hgh;have h1:gQ (aL A (m:Int)) g=gQ A g:=by
   unfold gQ;rw [hl];refine List.filter_congr (fun y _=>?_)
   by_cases e:y=m
   ·rw [e,h0];have e1:¬ (A.c m).i=g:=fun e=>hgh e.symm;have e2:¬ (0:Int)=g:=ω;simp [e1,e2]
   ·rw [hne y e]
  unfold gZ;rw [h1]
  exact List.map_congr_left (fun y hy=>by
   have:=(ik.1 hy).2
   rw [hne y (fun e=>by rw [e] at this;exact hgh this.symm)])
theorem Lm {l m:List Int} (hl:l.Pairwise (·<=·)) (hm:m.Pairwise (·<=·)) (hp:l.Perm m):l=m:=by
 induction l generalizing m with
 | nil=>exact (List.nil_perm.1 hp).symm
 | cons a l ih=>
  cases m with
  | nil=>exact absurd hp.length_eq σ
  | cons b m=>
   rw [Ϛ] at hl hm;have h1:b<=a:=by
    rcases ρ.1 (hp.mem_iff.1 (show a∈a::l by simp)) with e|e
    ·omega
    ·exact hm.1 a e
   have h2:a<=b:=by
    rcases ρ.1 (hp.mem_iff.2 (show b∈b::m by simp)) with e|e
    ·omega
    ·exact hl.1 b e
   have e:a=b:=ω;subst e;rw [ih hl.2 hm.2 (List.Perm.cons_inv hp)]
theorem IC (l:List Int):∃m:List Int,m.Perm l/\m.Pairwise (·<=·):=by
 refine ⟨l.mergeSort (fun a b=>decide (a<=b)),List.mergeSort_perm _ _,?_⟩;have:=List.pairwise_mergeSort (le:=fun a b:Int=>decide (a<=b)) (fun a b c h1 h2=>by simp at *;omega) (fun a b=>ζ) l;exact this.imp (fun h=>by simpa using h)
theorem J4 {S P Q:List Int} (hS:S.Pairwise (·<=·)) (hp:S.Perm (P++Q)) (hPQ:∀a,a∈P->∀b,b∈Q->a<=b) {M:Int} (hM:M∈P) (hmax:∀a,a∈P->a<=M):S[P.length-1]?=some M:=by
 obtain ⟨P',p1,p2⟩:=IC P;obtain ⟨Q',q1,q2⟩:=IC Q
 have e:S=P'++Q':=Lm hS (by
  rw [List.pairwise_append]
  exact ⟨p2,q2,fun a ha b hb=>hPQ a (p1.mem_iff.1 ha) b (q1.mem_iff.1 hb)⟩) (hp.trans (p1.append q1).symm)
 have hl:=p1.length_eq;have hpos:0<P.length:=List.length_pos_of_mem hM;rw [e,Ρ ω];have hlt:P.length-1<P'.length:=ω;rw [ε hlt]
 congr 1
 have h1:P'[P.length-1]<=M:=hmax _ (p1.mem_iff.1 (ϛ hlt));obtain ⟨j,hj,hjM⟩:=List.getElem_of_mem (p1.mem_iff.2 hM);have h2:P'[j]<=P'[P.length-1]:=by
  by_cases e:j=P.length-1
  ·subst e;exact Int.le_refl _
  ·exact List.pairwise_iff_getElem.1 p2 j (P.length-1) hj hlt ω
 omega
theorem FV (kf:Nat->Int) (n:Nat):((dH kf n).map kf).Pairwise (·<=·)/\((dH kf n).map kf).Perm ((List.range n).map kf):=by
 refine ⟨?_,(jS kf n).map kf⟩;rw [List.pairwise_map];exact (lF kf n).imp (fun h=>by unfold NW at h;omega)
structure kX (P Q K:List Int) (c:Nat):Prop where
 perm:(P++Q).Perm K
 ord:∀a,a∈P->∀b,b∈Q->a<=b
 len:P.length=c
theorem kX.push {P Q K P1:List Int} {c:Nat} {k M:Int} (h:kX P Q K c) (hp:(k::P).Perm (M::P1)) (hM:∀a,a∈k::P->a<=M):kX P1 (M::Q) (k::K) c:=by
 refine ⟨?_,fun a ha b hb=>?_,?_⟩
 ·have h1:(P1++M::Q).Perm (M::P1++Q):=ϣ;refine h1.trans ?_;refine (hp.symm.append_right Q).trans ?_;exact h.perm.cons k
 ·have ha':a∈k::P:=hp.mem_iff.2 (Λ _ ha);rcases ρ.1 hb with e|e
  ·rw [e];exact hM a ha'
  ·rcases ρ.1 ha' with e2|e2
   ·have hMm:M∈k::P:=hp.mem_iff.2 σ;rcases ρ.1 hMm with e3|e3
    ·by_cases hkk:∃y,y∈P/\y=k
     ·obtain ⟨y,hy,e4⟩:=hkk;rw [e2,←e4];exact h.ord y hy b e
     ·-- M=k,taken away: a=k would be one more k
      exfalso;subst e3;have:=(List.perm_cons M).1 hp;exact hkk ⟨a,this.mem_iff.2 ha,e2⟩
    ·have h5:=h.ord M e3 b e;have h6:=hM a ha';omega
   ·exact h.ord a e2 b e
 ·have:=hp.length_eq;simp at this;rw [←this];exact h.len
theorem kX.lift {P Q K Q1:List Int} {c:Nat} {m:Int} (h:kX P Q K c) (hp:Q.Perm (m::Q1)) (hm:∀b,b∈Q->m<=b):kX (m::P) Q1 K (c+1):=by
 refine ⟨?_,fun a ha b hb=>?_,by simp [h.len]⟩
 ·have h1:(P++m::Q1).Perm (m::P++Q1):=ϣ;exact h1.symm.trans ((hp.symm.append_left P).trans h.perm)
 ·have hbQ:b∈Q:=hp.mem_iff.2 (Λ _ hb);rcases ρ.1 ha with e|e
  ·rw [e];exact hm b hbQ
  ·exact h.ord a e b hbQ
end Go.Proofs.YtklibcncmbofpaaGreat
namespace Go.Proofs.YtklibcncmbofpaaGreat
open Go Go.RowKit
theorem DF {w:World} {ops:Array Oper} {rest:List Oper} {o:Oper} {a:Act} {Q:Exit->Act->World->Prop} (hgd:o.guard=none) (m x v:Operand) (hop:o.op=Op.mapUpdate 82 m x v)
  (b c:Nat) (f:Int->Int->Option Int) (hm:a.eval m=.map (some b)) (h:lT w b c f) (hc:c<9223372036854775807) (k g z:Int) (hx:a.eval x=hV k g) (hv:a.eval v=.int .i64 z) (hk:-9223372036854775808<=k/\k<=9223372036854775807) (hg:0<=g/\g<=4294967295) (hz:-9223372036854775808<=z/\z<=9223372036854775807)
  (hK:∀w',lT w' b (c+1) (fun y e=>if y=k/\e=g then some z else f y e)->aa [b] w w'->wpList Tryz.prog ops Q rest (a.put o.dst undef) w'):wpList Tryz.prog ops Q (o::rest) a w:=
 wpList_plain hgd fun _ hK'=>Tu m x v hop b c f hm h hc k g z hx hv hk hg hz fun w' h1 h2=>hK' _ _ (hK w' h1 h2)
def FC (l:List Nat):List Int:=l.map (fun (x:Nat)=>(x:Int))
theorem jL (a b:List Nat):FC (a++b)=FC a++FC b:=by unfold FC;rw [List.map_append]
theorem JV {K:dI} (kd d:Int) (vk:Value) (ks:List Int) (k:Nat) (w:World) (hS:fM w [] vk ks) (hb:∀x,x∈ks->-9223372036854775808<=x/\x<=9223372036854775807) (hc:rV kd d=0) (hn:ks.length<=65536) (hk:k<=ks.length) (ko:j4 K kd d ks.length) :
  Calls Tryz.prog 17 #[.agg #[.int .i64 kd,.int .i64 d],vk,.int .i64 (k:Int)] w fun e w'=>∃ao co,e=.returned (.tuple #[.slice ao k co,.int .i64 0])/\w'.ownsRow w.heap.size 3 1 (.slice ao k co) k (aM (FC ((dH (fun i=>ks.getD i 0) ks.length).take k)))/\aa [] w w':=by
 have kp:∀W:World,_:=fun W=>oU kd d ks.length 1 W hc hn ω ko;obtain ⟨a,cap,rfl,hcap1,hcap2,hcell⟩:=hS;have hkb:∀j,j<ks.length->-9223372036854775808<=ks.getD j 0/\ks.getD j 0<=9223372036854775807:=fun j hj=>by
  rw [φ,ε hj];exact hb _ (ϛ hj)
 have hrow:∀j,j<ks.length->∃g off,a=some ⟨g,off,none⟩/\g<w.heap.size/\w.cell? ⟨g,off+j,none⟩=some (.int .i64 (ks.getD j 0)):=fun j hj=>by
  obtain ⟨g,off,h1,h2,_,h3⟩:=hcell j ks[j] (ε hj);exact ⟨g,off,h1,h2,by rw [h3,φ,ε hj];rfl⟩
 have HR:=χ (ψ hkb hrow);have hz:=O0 (fun i=>ks.getD i 0) hn;clear hcell hb hkb hrow hc ko;generalize hkf:(fun i=>ks.getD i 0)=kf at *;have HKF:=χ hkf;generalize hnn:ks.length=n at *;have HZ:=χ hz;clear hz hkf hnn;have hk0:¬ (k:Int)<0:=ω;have hk1:¬ (k:Int) > (n:Int):=ω;have hkd0:decide ((k:Int)<0)=false:=ι;have hkd1:decide ((k:Int) > (n:Int))=false:=ζ;rw [show ((1:Nat):Int)=1 from rfl] at kp;have hkd2:decide (n<k)=false:=ζ;have hmm:=@run_makeMap Tryz.prog
 go_enter Tryz.func17,Tryz.ntmps17
 go_wp2_with (first
  | ((go_at_call 39;(with_reducible refine (kp _).mono ?_));rintro e w1 ⟨p,F,rfl,FE,hu0,hF⟩)
  | fail)
 have hu1:aa [] w w1:=aa.trans β hu0;have s1:=hu1.size;have yB:=FE.lt;have Xt:=lT.made w1;refine fA (fun W=>dJ K W p F kd d (AR.new n 4294967295) (Jg (NS.new n) 1) 0/\lT W w1.heap.size 0 (fun _ _=>none)/\aa [] w W) ⟨FE.ae β,Xt.upd (S:=[]) (by first|exact aa.refl _ _|exact β) σ,β⟩ ?_;rintro W ⟨hP,hMp,Lv⟩;have hb1:w.heap.size<=w1.heap.size:=by simpa using s1
 have HI:=χ (ψ hP (ψ hMp (ψ Lv (ψ hF yB))));clear hP hMp Lv hF yB hu1 kp hmm s1 FE Xt hu0;generalize w1.heap.size=b at *
 go_loopw [11,12,13,14,40] (fun v11 v12 v13 v14 v40 wr=>∃ (j:Nat) (F':List Nat) (R:AR) (A:NS) (f:Int->Int->Option Int),j<=n/\v40=.int .i64 (j:Int)/\dJ K wr p F' kd d R A j/\Vg n kf R A j j/\lT wr b j f/\(∀x:Nat,x<j->f (x:Int) 1=some (x:Int))/\aa [] w wr/\(∀x,x∈F'->w.heap.size<=x)/\b∉F') (fun _ _ _ _ v40 _=>n-(intOf v40).toNat)
 case atStart=>
  obtain ⟨hP,hMp,Lv,hF,yB⟩:=HI.out;exact ⟨0,F,_,_,_,Nat.zero_le _,rfl,hP,HZ.out,hMp,fun x hx=>ω,Lv,fun x hx=>by have:=hF x hx;(try simp at this);omega,fun hm=>by have:=yB b hm;omega⟩
 case round=>
  obtain ⟨j,F',R,A,f,hj,rfl,hP,hA,hM,hf,hu,hF,vY⟩:=hrel;rename World=>wr
  by_cases hjn:j<n
  ·have FD:decide ((j:Int)<(n:Int))=true:=ζ;have hjI2:(j:Int)<(n:Int):=ω;obtain ⟨hkb,hrow⟩:=HR.out;obtain ⟨g,off,rfl,hg,hc⟩:=hrow j hjn;have hc1:=hu.was hc;have ekj:ks.getD j 0=kf j:=by rw [←HKF.out]
   have hkj:=hkb j hjn;rw [ekj] at hc1 hkj;obtain ⟨R',hT,hg0,hA'⟩:=hA.step hjn hkj;have ki:=qx hP 1 (kf j) hA.has hkj ω hT;rw [hg0,show (((0:Nat):Int)+1)=1 from rfl] at ki;have HN:=χ (ψ hA' (ψ hM (ψ hf (ψ hu (ψ hF vY)))));have hbl:=hM.lt;clear hP hA hA' hM hf hu hF vY hkb hrow hc ekj hT hg0;generalize kf j=kj at *
   go_wp2_with (first
    | ((go_at_call 40;(with_reducible refine (ki).mono ?_));rintro e w2 ⟨rfl,F2,hP2,hu2,hF2⟩;(have hM2:lT (w2.alloc (.cells #[.int .i64 (j:Int),.int .u32 1] 85)) b j f:=(HN.out.2.1.upd hu2 HN.out.2.2.2.2.2).upd (S:=[]) β σ))
    | (at_mapUpdate;refine DF rfl _ _ _ rfl b j f rfl hM2 ω (j:Int) 1 (j:Int) rfl rfl ω ω ω ?_;intro w3 CX hu3)
    | fail)
   go_roundw
   case rel=>
    obtain ⟨hA',hM,hf,hu,hF,vY⟩:=HN.out;have hs:=hu.size;have hs2:=hu2.size;have SA:=hP2.lt;have YA:b∉F2:=fun hm=>by rcases hF2 b hm with h|h;exact vY h;omega
    have Gn:aa [] w2 (w2.alloc (.cells #[.int .i64 (j:Int),.int .u32 1] 85)):=(aa.refl _ _).alloc _;refine ⟨j+1,F2,_,_,_,ω,by go_num,(hP2.ae Gn).upd hu3 (fun x hx=>by simp at hx;rw [hx];exact YA),hA',CX,fun x hx=>?_,((hu.joined hu2 (fun x hx=>Β (hF x hx))).trans Gn).joined hu3 (fun x hx=>Β (by simp at hx;omega)),fun x hx=>by rcases hF2 x hx with h|h;exact hF x h;omega,YA⟩
    by_cases e:x=j
    ·subst e;rw [Δ ⟨rfl,rfl⟩]
    ·rw [Γ (fun h=>e (by have:=h.1;omega))];exact hf x ω
   case measure=>simp [intOf];omega
  ·obtain rfl:j=n:=ω;have FD:decide ((j:Int)<(j:Int))=false:=σ;have hT:=hA.all;have HN:=χ (ψ hP (ψ hT (ψ hM (ψ hf (ψ hu (ψ hF vY))))));clear hP hA hT hM hf hu hF vY;go_wp2
   go_loopw [15,16,17,18,56] (fun v15 v16 v17 v18 v56 wr2=>∃ (t:Nat) (F2:List Nat) (R2:AR) (A2:NS) (ao:Option Addr) (co:Nat),t<=k/\v56=.int .i64 (t:Int)/\v15=.slice ao t co/\wr2.ownsRow w.heap.size 3 1 (.slice ao t co) t (aM (FC ((dH kf j).take t)))/\dJ K wr2 p F2 kd d R2 A2 j/\WA j kf R2 A2 t/\lT wr2 b j f/\aa [] w wr2/\(∀x,x∈F2->w.heap.size<=x)/\b∉F2/\(∀g,(Value.slice ao t co).ownBlock=some g->g∉F2/\g≠b)) (fun _ _ _ _ v56 _=>k-(intOf v56).toNat)
   case atStart=>
    obtain ⟨hP,hT,hM,hf,hu,hF,vY⟩:=HN.out;exact ⟨0,F',R,A,none,0,Nat.zero_le _,rfl,rfl,⟨rfl,Α ⟨rfl,rfl⟩⟩,hP,hT,hM,hu,hF,vY,fun g hg=>by cases hg⟩
   case round=>
    obtain ⟨t,F2,R2,A2,ao,co,ht,rfl,rfl,ho,hP,hT,hM,hu,hF,vY,hnb⟩:=hrel;rename World=>wr2
    by_cases htk:t<k
    ·have htI:decide ((t:Int)<(k:Int))=true:=ζ;obtain ⟨x,hx,su,hmin,hg1,hkx,rE⟩:=hT.step ω;have ke:=vD hP 1 hmin;rw [hg1,hkx] at ke;rw [show ((1:Nat):Int)=1 from rfl] at ke;have hfx:=HN.out.2.2.2.1 x su;have HQ:=χ (ψ rE (ψ hu (ψ hF (ψ vY (ψ hnb (ψ hx hfx))))));have HM:=χ hM;have hbl:=hM.lt;have hrl:∀g,(Value.slice ao t co).ownBlock=some g->g<wr2.heap.size:=fun g hg=>(ho.lt g hg).2;have hbase:w.heap.size<=wr2.heap.size:=hu.size;have Wy:=χ hrl;clear hP hT rE hM hu hF vY hnb hx hfx hmin hg1 hkx hrl;generalize kf x=kx at *
     go_wp2_with (first
      | ((go_at_call 41;(with_reducible refine (ke).mono ?_));rintro e w3 ⟨rfl,F3,hP3,hu3,WM⟩;(have mE:lT (w3.alloc (.cells #[.int .i64 (x:Int),.int .u32 1] 85)) b j f:=(HM.out.upd hu3 HQ.out.2.2.2.1).upd (S:=[]) β σ);(have hlk:(Instr.lookup 82 (.map (some b)) (.agg #[.int .i64 (x:Int),.int .u32 1]) false).run Tryz.prog (w3.alloc (.cells #[.int .i64 (x:Int),.int .u32 1] 85))=.ok (.int .i64 (x:Int)) (w3.alloc (.cells #[.int .i64 (x:Int),.int .u32 1] 85)):=mE.look HQ.out.2.2.2.2.2.2 ω ω);(have hs3:=hu3.size);(have ho3:=aA (aA ho hu3 (fun g hg=>(HQ.out.2.2.2.2.1 g hg).1)) (S:=[]) ((aa.refl _ _).alloc (.cells #[.int .i64 (x:Int),.int .u32 1] 85)) σ))
      | ((at_builtin;refine ak rfl _ _ 26 rfl w.heap.size 3 (.int .i64 0) 1 8 Tryz.underlying26 cO rfl δ _ _ _ rfl (ho3) [.int .i64 (x:Int)] rfl (by simp [Value.oneCell']) (by first|rfl|(rw [Κ];rfl)) μ ω (ζ) ?_;intro v2 w4 UE jN Zy);obtain ⟨a4,c4,rfl,hc4⟩:=aR UE)
      | fail)
     go_roundw
     case rel=>
      obtain ⟨rE,hu,hF,vY,hnb,hx,hfx⟩:=HQ.out;have Y9:=hP3.lt;have hbF3:b∉F3:=fun hm=>by rcases WM b hm with h|h;exact vY h;omega
      have Yk:∀g,(Value.slice ao t co).ownBlock=some g->g∉F3:=fun g hg hm=>by
       rcases WM g hm with h|h
       ·exact (hnb g hg).1 h
       ·have:=Wy.out g hg;omega
      have hal:aa [] w3 (w3.alloc (.cells #[.int .i64 (x:Int),.int .u32 1] 85)):=(aa.refl _ _).alloc _;have hwa:aa [] w (w3.alloc (.cells #[.int .i64 (x:Int),.int .u32 1] 85)):=(hu.joined hu3 (fun z hz=>Β (hF z hz))).trans hal;have hlx:(dH kf j).take (t+1)=(dH kf j).take t++[x]:=by rw [ϐ,hx];rfl
      refine ⟨t+1,F3,_,_,a4,c4,ω,by go_num,rfl,by rw [hlx,jL,aT];exact UE,(hP3.ae hal).upd jN (fun z hz=>Yk z (Option.mem_toList.1 hz)),rE,mE.upd jN (fun hm=>(hnb b (Option.mem_toList.1 hm)).2 rfl),hwa.own ho3 (Θ _) jN,fun z hz=>by rcases WM z hz with h|h;exact hF z h;omega,hbF3,fun g hg=>?_⟩;rcases Zy with h|h
      ·rw [h] at hg;exact ⟨Yk g hg,(hnb g hg).2⟩
      ·have h9:=h g hg;simp at h9;exact ⟨fun hm=>by have:=Y9 g hm;omega,fun e=>ω⟩
     case measure=>simp [intOf];omega
    ·obtain rfl:t=k:=ω;have htI:decide ((t:Int)<(t:Int))=false:=σ;have HQ:=χ (ψ ho hu);clear ho hP hT hM hu hF vY hnb;go_wp2;go_ret2;exact ⟨ao,co,rfl,HQ.out.1,HQ.out.2⟩
def mI (kf:Nat->Int) (i m:Nat) (S:List Nat) (pb:Bool) (nx:List Nat):Prop:=
 (pb=false/\nx.length=m/\rM kf i S=nx++rM kf i (S.drop m))\/(pb=true/\nx.length=m+1/\rM kf i S=nx++S.drop m)
theorem mI.put {kf:Nat->Int} {i m x:Nat} {S nx:List Nat} (h:mI kf i m S false nx) (hx:S[m]?=some x) (hk:kf i<kf x):mI kf i (m+1) S true (nx++[i]++[x]):=by
 obtain ⟨hl,hx⟩:=List.getElem?_eq_some_iff.1 hx;rcases h with ⟨-,h1,h2⟩|⟨h, -⟩
 ·refine Β ⟨rfl,by simp [h1],?_⟩;rw [h2,ϡ hl,hx];unfold rM;rw [Δ hk];simp
 ·cases h
theorem mI.skip {kf:Nat->Int} {i m x:Nat} {S nx:List Nat} (h:mI kf i m S false nx) (hx:S[m]?=some x) (hk:¬kf i<kf x):mI kf i (m+1) S false (nx++[x]):=by
 obtain ⟨hl,hx⟩:=List.getElem?_eq_some_iff.1 hx;rcases h with ⟨-,h1,h2⟩|⟨h, -⟩
 ·refine Α ⟨rfl,by simp [h1],?_⟩;rw [h2,ϡ hl,hx]
  conv=>lhs;unfold rM
  rw [Γ hk];simp
 ·cases h
theorem mI.more {kf:Nat->Int} {i m x:Nat} {S nx:List Nat} (h:mI kf i m S true nx) (hx:S[m]?=some x):mI kf i (m+1) S true (nx++[x]):=by
 obtain ⟨hl,hx⟩:=List.getElem?_eq_some_iff.1 hx;rcases h with ⟨h, -⟩|⟨-,h1,h2⟩
 ·cases h
 ·refine Β ⟨rfl,by simp [h1],?_⟩;rw [h2,ϡ hl,hx];simp
theorem mI.endF {kf:Nat->Int} {i:Nat} {S nx:List Nat} (h:mI kf i S.length S false nx):rM kf i S=nx++[i]:=by
 rcases h with ⟨-,h1,h2⟩|⟨h, -⟩
 ·rw [h2,List.drop_length];rfl
 ·cases h
theorem mI.endT {kf:Nat->Int} {i:Nat} {S nx:List Nat} (h:mI kf i S.length S true nx):rM kf i S=nx:=by
 rcases h with ⟨h, -⟩|⟨-,h1,h2⟩
 ·cases h
 ·rw [h2,List.drop_length,Υ]
theorem IQ {W:World} {base:Nat} {a:Option Addr} {n c:Nat} {xs:List Int} (h:W.ownsRow base 3 1 (.slice a n c) n (aM xs)) {j:Nat} {y:Int} (hj:xs[j]?=some y):∃g,a=some ⟨g,0,none⟩/\base<=g/\g<W.heap.size/\W.cell? ⟨g,j,none⟩=some (.int .i64 y):=by
 have hl:=h.1;rw [fB] at hl;have hjl:j<xs.length:=(List.getElem?_eq_some_iff.1 hj).1;obtain ⟨g,cap,e,hb,_⟩:=dM h ω
 injection e with e1 e2 e3
 subst e1;have hlt:=h.lt g rfl;refine ⟨g,rfl,hb,hlt.2,?_⟩;rw [h.cellAt j ω,lL hjl,φ,hj];rfl
theorem Jt {l:List Nat} {j x:Nat} (h:l[j]?=some x):(FC l)[j]?=some (x:Int):=by unfold FC;simp [h]
theorem EH (vk:Value) (ks:List Int) (w:World) (hS:fM w [] vk ks) (hn:ks.length<=65536) :
  Calls Tryz.prog 19 #[vk] w fun e w'=>∃ao co,e=.returned (.slice ao ks.length co)/\w'.ownsRow w.heap.size 3 1 (.slice ao ks.length co) ks.length (aM (FC (dH (fun i=>ks.getD i 0) ks.length)))/\aa [] w w':=by
 obtain ⟨a,cap,rfl,hcap1,hcap2,hcell⟩:=hS;have hrow:∀j,j<ks.length->∃g off,a=some ⟨g,off,none⟩/\g<w.heap.size/\w.cell? ⟨g,off+j,none⟩=some (.int .i64 (ks.getD j 0)):=fun j hj=>by
  obtain ⟨g,off,h1,h2,_,h3⟩:=hcell j ks[j] (ε hj);exact ⟨g,off,h1,h2,by rw [h3,φ,ε hj];rfl⟩
 clear hcell;have HR:Hid (∀j,j<ks.length->∃g off,a=some ⟨g,off,none⟩/\g<w.heap.size/\w.cell? ⟨g,off+j,none⟩=some (.int .i64 ((fun i=>ks.getD i 0) j))):=hrow;clear hrow;generalize (fun i=>ks.getD i 0)=kf at *;generalize ks.length=n at *
 go_enter Tryz.func19,Tryz.ntmps19
 go_wp2;have hO0:=iR w (aM []) 3 w.heap.size 1 0 rfl (Θ _) μ;refine fA (fun W=>W.ownsRow w.heap.size 3 1 (.slice (some ⟨w.heap.size,0,none⟩) 0 0) 0 (aM (FC (dH kf 0)))/\aa [] w W) ⟨hO0,β⟩ ?_;rintro W ⟨hO,hW⟩;have H0:=χ (ψ hO hW);clear hO hW hO0
 go_loopw [3,4,5,6,7,9,13] (fun v3 v4 v5 v6 v7 v9 v13 wr=>∃ (i:Nat) (a3:Option Addr) (c3:Nat),i<=n/\v13=.int .i64 (i:Int)/\v3=.slice a3 i c3/\wr.ownsRow w.heap.size 3 1 (.slice a3 i c3) i (aM (FC (dH kf i)))/\aa [] w wr) (fun _ _ _ _ _ _ v13 _=>n-(intOf v13).toNat)
 case atStart=>exact ⟨0,_,_,Nat.zero_le _,rfl,rfl,H0.out.1,H0.out.2⟩
 case round=>
  obtain ⟨i,a3,c3,hi,rfl,rfl,ho,hu⟩:=hrel;rename World=>wr
  by_cases hin:i<n
  ·have Dg:decide ((i:Int)<(n:Int))=true:=ζ;have hiI2:(i:Int)<(n:Int):=ω;have hbase:w.heap.size<=wr.heap.size:=hu.size;obtain ⟨g,off,rfl,hg,hc⟩:=HR.out i hin;have hc1:=hu.was hc;have HO:=χ (ψ ho hu);clear ho hu hc;obtain ⟨S,hS⟩:∃S,dH kf i=S:=⟨_,rfl⟩;have Io:S.length=i:=by rw [←hS,q9]
   have Mx:∀x,x∈S->x<i:=fun x hx=>by rw [←hS] at hx;exact jf.1 hx
   have HS:=χ (ψ hS (ψ Io Mx));clear hS Io Mx;obtain ⟨ki,hki⟩:∃ki,kf i=ki:=⟨_,rfl⟩;rw [hki] at hc1;have HK:=χ hki;clear hki;go_wp2;have om:=iR wr (aM []) 3 wr.heap.size 1 0 rfl (Θ _) μ;refine fA (fun W=>W.ownsRow wr.heap.size 3 1 (.slice (some ⟨wr.heap.size,0,none⟩) 0 0) 0 (aM (FC []))/\aa [] wr W) ⟨om,β⟩ ?_;rintro W1 ⟨YY,hW1⟩;have H1:=χ (ψ YY hW1);clear om YY hW1
   go_loopw [6,7,9,21] (fun v6 v7 v9 v21 wq=>∃ (m:Nat) (pb:Bool) (nx:List Nat) (a6:Option Addr) (c6:Nat),m<=i/\v21=.int .i64 (m:Int)/\v7=.bool pb/\v6=.slice a6 nx.length c6/\wq.ownsRow wr.heap.size 3 1 (.slice a6 nx.length c6) nx.length (aM (FC nx))/\mI kf i m S pb nx/\aa [] wr wq) (fun _ _ _ v21 _=>i-(intOf v21).toNat)
   case atStart=>exact ⟨0,false,[],_,_,Nat.zero_le _,rfl,rfl,rfl,H1.out.1,Α ⟨rfl,rfl,rfl⟩,H1.out.2⟩
   case round=>
    obtain ⟨m,pb,nx,a6,c6,hm,rfl,rfl,rfl,C8,hI,fq⟩:=hrel;rename World=>wq;obtain ⟨ho,hu⟩:=HO.out;obtain ⟨Uk,Io,Mx⟩:=HS.out;have hbq:wr.heap.size<=wq.heap.size:=fq.size;have hnl:nx.length<=65537:=by rcases hI with ⟨_,h,_⟩|⟨_,h,_⟩<;>omega
    by_cases hmi:m<i
    ·have hmI:decide ((m:Int)<(i:Int))=true:=ζ;have hmI2:(m:Int)<(i:Int):=ω;obtain ⟨x,hx⟩:∃x,S[m]?=some x:=⟨S[m],ε ω⟩;have hxi:x<i:=Mx x (Η hx);rw [Uk] at ho;obtain ⟨g3,rfl,hg3,hg3l,hc3⟩:=IQ ho (Jt hx);have hc3q:=fq.was hc3;obtain ⟨g',off',e',hg',hc'⟩:=HR.out x ω;cases e';have hcx:=(hu.trans fq).was hc';have DN:(x:Int)<(n:Int):=ω;have HI:=χ (ψ hI (ψ fq (ψ hx hm)));have hke:=HK.out;obtain ⟨kx,hkx⟩:∃kx,kf x=kx:=⟨_,rfl⟩;rw [hkx] at hcx;have HKX:=χ hkx;clear hI fq hx ho hu Uk Mx hc3 hc' hkx hke Io;cases pb with
     | false=>
      by_cases hk:ki<kx
      ·have hkb:decide (kx > ki)=true:=by simpa using hk
       have HKL:=χ hk;clear hk
       go_wp2_with (first
        | ((at_builtin;refine ak rfl _ _ 26 rfl wr.heap.size 3 (.int .i64 0) 1 8 Tryz.underlying26 cO rfl δ _ _ _ rfl (C8) [.int .i64 (i:Int)] rfl (by simp [Value.oneCell']) (by first|rfl|(rw [Κ];rfl)) μ ω (ω) ?_;intro v2 w2 ho7 qN hsep7);obtain ⟨a7,c7,rfl,hc7⟩:=aR ho7;(have hs7:wr.heap.size<=w2.heap.size:=by have:=qN.size;omega);(have hx7:∀A:Addr,∀v,A.block<wr.heap.size->wq.cell? A=some v->w2.cell? A=some v:=fun A v hA hv=>qN.kept hv (fun hm=>by have:=(C8.lt A.block (Option.mem_toList.1 hm)).1;omega)))
        | ((at_builtin;refine ak rfl _ _ 26 rfl wr.heap.size 3 (.int .i64 0) 1 8 Tryz.underlying26 cO rfl δ _ _ _ rfl (ho7) [.int .i64 (x:Int)] rfl (by simp [Value.oneCell']) (by first|rfl|(rw [Κ];rfl)) μ ω (ω) ?_;intro v3 w3 CJ vV EA);obtain ⟨a8,c8,rfl,hc8⟩:=aR CJ)
        | fail)
       go_roundw
       case rel=>
        obtain ⟨hI,fq,hx,hm⟩:=HI.out;have hlen:(nx++[i]++[x]).length=nx.length+1+1:=σ;refine ⟨m+1,true,nx++[i]++[x],a8,c8,ω,by go_num,rfl,by rw [hlen],?_,hI.put hx (by rw [HK.out,HKX.out];exact HKL.out),(fq.own C8 (Θ _) qN).own ho7 (Θ _) vV⟩;rw [hlen,jL,jL,aT,aT];exact CJ
       case measure=>simp [intOf];omega
      ·have hkb:decide (kx > ki)=false:=by simpa using hk
       have HKL:=χ hk;clear hk
       go_wp2_with (first
        | ((at_builtin;refine ak rfl _ _ 26 rfl wr.heap.size 3 (.int .i64 0) 1 8 Tryz.underlying26 cO rfl δ _ _ _ rfl (C8) [.int .i64 (x:Int)] rfl (by simp [Value.oneCell']) (by first|rfl|(rw [Κ];rfl)) μ ω (ω) ?_;intro v3 w3 CJ vV EA);obtain ⟨a8,c8,rfl,hc8⟩:=aR CJ)
        | fail)
       go_roundw
       case rel=>
        obtain ⟨hI,fq,hx,hm⟩:=HI.out;have hlen:(nx++[x]).length=nx.length+1:=σ;refine ⟨m+1,false,nx++[x],a8,c8,ω,by go_num,rfl,by rw [hlen],?_,hI.skip hx (by rw [HK.out,HKX.out];exact HKL.out),fq.own C8 (Θ _) vV⟩;rw [hlen,jL,aT];exact CJ
       case measure=>simp [intOf];omega
     | true=>
      go_wp2_with (first
       | ((at_builtin;refine ak rfl _ _ 26 rfl wr.heap.size 3 (.int .i64 0) 1 8 Tryz.underlying26 cO rfl δ _ _ _ rfl (C8) [.int .i64 (x:Int)] rfl (by simp [Value.oneCell']) (by first|rfl|(rw [Κ];rfl)) μ ω (ω) ?_;intro v3 w3 CJ vV EA);obtain ⟨a8,c8,rfl,hc8⟩:=aR CJ)
       | fail)
      go_roundw
      case rel=>
       obtain ⟨hI,fq,hx,hm⟩:=HI.out;have hlen:(nx++[x]).length=nx.length+1:=σ;refine ⟨m+1,true,nx++[x],a8,c8,ω,by go_num,rfl,by rw [hlen],?_,hI.more hx,fq.own C8 (Θ _) vV⟩;rw [hlen,jL,aT];exact CJ
      case measure=>simp [intOf];omega
    ·obtain rfl:m=i:=ω;have hmI:decide ((m:Int)<(m:Int))=false:=σ;have HI:=χ (ψ hI (ψ fq (ψ Uk Io)));have hnx:nx.length=(if pb then m+1 else m):=by rcases hI with ⟨h,h1,_⟩|⟨h,h1,_⟩<;>simp [h,h1]
     have HNX:=χ hnx;clear hI fq Uk Io Mx ho hu hnx;cases pb with
     | false=>
      go_wp2_with (first
       | ((at_builtin;refine ak rfl _ _ 26 rfl wr.heap.size 3 (.int .i64 0) 1 8 Tryz.underlying26 cO rfl δ _ _ _ rfl (C8) [.int .i64 (m:Int)] rfl (by simp [Value.oneCell']) (by first|rfl|(rw [Κ];rfl)) μ ω (ω) ?_;intro v3 w3 CJ vV EA);obtain ⟨a8,c8,rfl,hc8⟩:=aR CJ)
       | fail)
      go_roundw
      case rel=>
       obtain ⟨hI,fq,Uk,Io⟩:=HI.out;have hnx:nx.length=m:=HNX.out;have e2:dH kf (m+1)=nx++[m]:=by
        show rM kf m (dH kf m)=_
        rw [Uk];subst Io;exact hI.endF
       refine ⟨m+1,a8,c8,ω,by go_num,by rw [hnx],?_,HO.out.2.trans (fq.own C8 (Θ _) vV)⟩;rw [e2,jL,aT];rw [hnx] at CJ;exact iJ CJ hbase
      case measure=>simp [intOf];omega
     | true=>
      go_wp2
      go_roundw
      case rel=>
       obtain ⟨hI,fq,Uk,Io⟩:=HI.out;have hnx:nx.length=m+1:=HNX.out;have e2:dH kf (m+1)=nx:=by
        show rM kf m (dH kf m)=_
        rw [Uk];subst Io;exact hI.endT
       refine ⟨m+1,a6,c6,ω,by go_num,by rw [hnx],?_,HO.out.2.trans fq⟩;rw [e2];rw [hnx] at C8;exact iJ C8 hbase
      case measure=>simp [intOf];omega
  ·obtain rfl:i=n:=ω;have Dg:decide ((i:Int)<(i:Int))=false:=σ;have HO:=χ (ψ ho hu);clear ho hu;go_wp2;go_ret;exact ⟨a3,c3,rfl,HO.out.1,HO.out.2⟩
def Me (kf:Nat->Int) (i:Nat):Int:=kf ((dH kf (i+1)).getD (i / 2) 0)
def rT (kf:Nat->Int) (n:Nat):List Int:=(List.range n).map (Me kf)
theorem zS (kf:Nat->Int) (n:Nat):rT kf (n+1)=rT kf n++[Me kf n]:=by unfold rT;rw [List.range_succ,List.map_append];rfl
theorem Cq:(Tryz.prog.info? 2).map (fun i=>(i.zero,i.size,i.bytes))=some (some (.int .i64 0),1,8):=by kernel_rfl
def tn (x:Int):Int:=-1-x
theorem OA (x:Int):tn (tn x)=x:=by unfold tn;omega
theorem kX.congr {P Q K P' Q' K':List Int} {c:Nat} (h:kX P Q K c) (hp:P'.Perm P) (hq:Q'.Perm Q) (hk:K'.Perm K):kX P' Q' K' c:=
 ⟨((hp.append hq).trans h.perm).trans hk.symm,fun a ha b hb=>h.ord a (hp.mem_iff.1 ha) b (hq.mem_iff.1 hb),hp.length_eq.trans h.len⟩
theorem xx:∀ (l:List (Nat×Bool)),(∀x,x<l.length->(l.getD x (0,false)).2=true)->Cm l=l.length
 | [],_=>rfl
 | q::r,h=>by
  rw [nJ,xx r (fun x hx=>by have:=h (x+1) (by simpa using hx);rwa [List.getD_cons_succ] at this)];have:=h 0 σ;rw [List.getD_cons_zero] at this;rw [Δ this];rfl
structure JK (n:Nat) (R:AR) (A:NS) (q j:Nat):Prop where
 ok:R.Ok
 ym:A.Ok
 lA:A.cs.length=n
 lR:R.sl.length=n
 link:∀x:Nat,R.v x=bP A (x:Int)
 h1:bf A 1=true
 h2:bf A 2=true
 ms:R.most=4294967295
 gn:∀x,R.g x<=q
 fl:∀x,x<R.next->R.v x=true\/x∈R.wait
 ct:R.cnt=j
section
variable {n:Nat} {R:AR} {A:NS} {q j:Nat}
theorem JK.room (h:JK n R A q j) (hj:j<n):∃x R',iC R=some (x,R'):=by
 unfold iC;cases hp:lU R with
 | some p=>exact ⟨_,_,rfl⟩
 | none=>
  exfalso;unfold lU at hp;cases hw:R.wait.getLast? with
  | some y=>rw [hw] at hp;cases hp
  | none=>
   rw [hw] at hp;have hw0:R.wait=[]:=List.getLast?_eq_none_iff.1 hw;dsimp only at hp
   split at hp
   ·rename_i hn
    have hc:R.cnt=R.sl.length:=xx _ (fun x hx=>by
     rcases h.fl x ω with h1|h1
     ·exact h1
     ·rw [hw0] at h1;cases h1)
    have:=h.ct;have:=h.lR;omega
   ·cases hp
theorem Al {R':AR} {x:Nat} (ok:R.Ok) (hT:iC R=some (x,R')) (fl:∀x,x<R.next->R.v x=true\/x∈R.wait):∀y,y<R'.next->R'.v y=true\/y∈R'.wait:=by
 intro y hy;rw [sU ok hT];unfold iC at hT;unfold lU at hT;cases hw:R.wait.getLast? with
 | some z=>
  rw [hw] at hT;simp only [Ϡ,Ϙ,Prod.mk.injEq] at hT;obtain ⟨rfl,rfl⟩:=hT;have happ:R.wait=R.wait.dropLast++[z]:=by
   obtain ⟨l,hl'⟩:=List.getLast?_eq_some_iff.1 hw;rw [hl'];simp
  rcases fl y hy with h1|h1
  ·exact Α (by rw [h1];rfl)
  ·rw [happ,τ] at h1;rcases h1 with h1|h1
   ·exact Β h1
   ·simp at h1;exact Α (by simp [h1])
 | none=>
  rw [hw] at hT;dsimp only at hT
  split at hT
  ·cases hT
  ·simp only [Ϡ,Ϙ,Prod.mk.injEq] at hT;obtain ⟨rfl,rfl⟩:=hT;have hy':y<R.next+1:=hy
   by_cases e:y=R.next
   ·exact Α (by simp [e])
   ·rcases fl y ω with h1|h1
    ·exact Α (by rw [h1];rfl)
    ·exact Β h1
theorem JK.put (h:JK n R A q j) (hq:q+1<=4294967295) {g:Nat} (hg:bf A (g:Int)=true) {k:Int} (hk:-9223372036854775808<=k/\k<=9223372036854775807) {x:Nat} {R':AR} (hT:iC R=some (x,R')) :
  iX A (g:Int) (x:Int)=true/\JK n R' (au A (g:Int) (x:Int) k ((q:Int)+1)) (q+1) (j+1):=by
 obtain ⟨t1,t2,t3,t4,t5,t6,t7⟩:=lH h.ok hT;have I5:iX A (g:Int) (x:Int)=true:=by
  rw [bV];refine ⟨hg,(dB _ _).2 ⟨ω,by rw [h.lA];have:=h.lR;omega⟩,?_⟩;rw [←h.link];exact t3
 have hh:∀i,bf (au A (g:Int) (x:Int) k ((q:Int)+1)) i=bf A i:=fun i=>by unfold au;rw [Δ I5];rfl
 refine ⟨I5,t1,qR h.ym _ _ _ _ ⟨hk.1,hk.2,ω,ω⟩,by rw [qh];exact h.lA,by rw [t5];simp [h.lR],fun y=>by rw [sU h.ok hT,Ci I5,h.link],by rw [hh];exact h.h1,by rw [hh];exact h.h2,t6.trans h.ms,fun y=>?_,Al h.ok hT h.fl,by rw [t7,h.ct]⟩;have e:R'.g y=(R.put x (R.g x+1,true)).g y:=by
  show (R'.sl.getD y (0,false)).1=((R.sl.set x (R.g x+1,true)).getD y (0,false)).1
  rw [t5]
 rw [e,AR.mP];have h1:=h.gn x;have h2:=h.gn y
 split
 ·show R.g x+1<=q+1;omega
 ·omega
theorem JK.give (h:JK n R A q (j+1)) (hq:q<4294967295) {g:Int} (hg:0<g) {m:Nat} (hm:bu A g=some m):R.v m=true/\bP A (m:Int)=true/\(A.c m).i=g/\JK n (dY R m) (aL A (m:Int)) q j:=by
 have hf:=(dD hg).1 hm;have hin:bP A (m:Int)=true:=(aj _ _).2 ⟨hf.1,by rw [hf.2.1];exact hg⟩;have hv:R.v m=true:=by rw [h.link];exact hin
 have hgo:=tX h.ok hv;have eg:∀z,(dY R m).g z=R.g z:=fun z=>by
  show (R.put m (R.g m,false)).g z=_
  rw [AR.mP]
  split
  ·rename_i e;rw [e.1]
  ·rfl
 refine ⟨hv,hin,hf.2.1,hgo.1,tV h.ym _,by rw [cK];exact h.lA,by rw [qU];exact h.lR,fun y=>by rw [oW hv,xe hin,h.link],by unfold bf;rw [fJ];exact h.h1,by unfold bf;rw [fJ];exact h.h2,h.ms,fun y=>by rw [eg];exact h.gn y,fun y hy=>?_,by have:=hgo.2;have:=h.ct;omega⟩;rw [oW hv];have hw:(dY R m).wait=R.wait++[m]:=by
  show (if R.g m<R.most then R.wait++[m] else R.wait)=_
  rw [Δ (by have:=h.gn m;rw [h.ms];omega)]
 rw [hw]
 by_cases e:y=m
 ·subst e;exact Β σ
 ·rcases h.fl y hy with h1|h1
  ·exact Α (by rw [h1];simp [e])
  ·exact Β (by simp [h1])
theorem sN {A:NS} {g:Int} (hg:0<g) (h:gZ A g≠[]):∃m,bu A g=some m:=by
 cases hm:bu A g with
 | some m=>exact ⟨m,rfl⟩
 | none=>
  exfalso;apply h;have h0:=(iI hg).1 hm;unfold gZ;cases hs:gQ A g with
  | nil=>rfl
  | cons x l=>
   have hx:=ik.1 (show x∈gQ A g by rw [hs];simp);have:=dL.2 ⟨x,hx.1,hx.2,hg⟩;omega
def LF (A:NS) (K:List Int) (c:Nat):Prop:=kX ((gZ A 1).map tn) (gZ A 2) K c
theorem LF.push {K:List Int} {c:Nat} (h:LF A K c) (ym:A.Ok) {k s:Int} {x:Nat} (hB:iX A 1 (x:Int)=true) {A1 A2 A3:NS} (e1:A1=au A 1 (x:Int) (tn k) s) {m:Nat} (hm:bu A1 1=some m) (hin:bP A1 (m:Int)=true) (e2:A2=aL A1 (m:Int)) (okA2:A2.Ok)
  {y:Nat} {s':Int} (hB2:iX A2 2 (y:Int)=true) (e3:A3=au A2 2 (y:Int) (tn (A1.c m).k) s'):LF A3 (k::K) c:=by
 have p1:=qP (h:=1) (x:=x) (k:=tn k) (s:=s) hB ym;rw [show ((1:Nat):Int)=1 from rfl,←e1] at p1;have hi:=((dD ω).1 hm).2.1;have p2:=xC hin;rw [hi,←e2] at p2;have p3:=qP (h:=2) (x:=y) (k:=tn (A1.c m).k) (s:=s') hB2 okA2;rw [show ((2:Nat):Int)=2 from rfl,←e3] at p3;have hmin:=vP ω hm;have hp:(k::(gZ A 1).map tn).Perm (tn (A1.c m).k::(gZ A2 1).map tn):=by
  have a1:=(p1.1.symm.trans p2.1).map tn;rw [List.map_cons,List.map_cons,OA] at a1;exact a1
 have hall:∀a,a∈k::(gZ A 1).map tn->a<=tn (A1.c m).k:=fun a ha=>by
  have a2:=(p1.1.map tn);rw [List.map_cons,OA] at a2;obtain ⟨b,hb,rfl⟩:=List.mem_map.1 (a2.mem_iff.2 ha);have:=hmin.2 b hb;unfold tn;omega
 refine (kX.push h hp hall).congr ?_ ?_ (ό _)
 ·rw [p3.2 1 ω ω]
 ·rw [←p1.2 2 ω ω,←p2.2 2 ω ω];exact p3.1
theorem LF.lift {K:List Int} {c:Nat} (h:LF A K c) {m:Nat} (hm:bu A 2=some m) (hin:bP A (m:Int)=true) {A1 A2:NS} (e1:A1=aL A (m:Int)) (okA1:A1.Ok) {x:Nat} {s:Int} (hB:iX A1 1 (x:Int)=true) (e2:A2=au A1 1 (x:Int) (tn (A.c m).k) s):LF A2 K (c+1):=by
 have hi:=((dD ω).1 hm).2.1;have p1:=xC hin;rw [hi,←e1] at p1;have p2:=qP (h:=1) (x:=x) (k:=tn (A.c m).k) (s:=s) hB okA1;rw [show ((1:Nat):Int)=1 from rfl,←e2] at p2;have hmin:=vP ω hm;refine (kX.lift h p1.1 hmin.2).congr ?_ ?_ (ό _)
 ·have:=p2.1.map tn;rw [List.map_cons,OA,p1.2 1 ω ω] at this;exact this
 ·rw [p2.2 2 ω ω]
theorem LF.mid {K:List Int} {kf:Nat->Int} (h:LF A K (j / 2+1)) (hK:K.Perm ((List.range (j+1)).map kf)) {m:Nat} (hm:bu A 1=some m):tn (A.c m).k=Me kf j:=by
 have hmin:=vP ω hm;have hs:=FV kf (j+1)
 have:=J4 (M:=tn (A.c m).k) hs.1 (hs.2.trans (hK.symm.trans h.perm.symm)) h.ord (List.mem_map.2 ⟨_,hmin.1,rfl⟩) (fun a ha=>by
  obtain ⟨b,hb,rfl⟩:=List.mem_map.1 ha;have:=hmin.2 b hb
  unfold tn;omega)
 rw [h.len,Nat.add_sub_cancel,ϓ] at this;unfold Me;rw [φ];cases hx:(dH kf (j+1))[j / 2]? with
 | none=>rw [hx] at this;cases this
 | some x=>rw [hx] at this;simp only [Ϡ,Ϙ] at this;rw [←this];rfl
structure Pm (n:Nat) (kf:Nat->Int) (R:AR) (A:NS) (q j:Nat):Prop where
 s:JK n R A q j
 h:∃K,LF A K ((j+1) / 2)/\K.Perm ((List.range j).map kf)
 qj:q<=3*j
theorem Nl {K:List Int} {kf:Nat->Int} {j:Nat} (h:K.Perm ((List.range j).map kf)):(kf j::K).Perm ((List.range (j+1)).map kf):=by
 rw [List.range_succ,List.map_append];exact (h.cons (kf j)).trans (Φ (l₁:=[kf j]))
theorem Ag {x:Int} (h:-9223372036854775808<=x/\x<=9223372036854775807):-9223372036854775808<=tn x/\tn x<=9223372036854775807:=by unfold tn;omega
theorem JK.wy (h:JK n R A q j) {g x:Nat} {k s:Int} (hg:0<g) (hB:iX A (g:Int) (x:Int)=true):∃m,bu (au A (g:Int) (x:Int) k s) (g:Int)=some m:=by
 refine sN ω (fun e=>?_);have:=(qP (k:=k) (s:=s) hB h.ym).1.length_eq;rw [e] at this;simp at this
theorem Pm.first {kf:Nat->Int} (h:Pm n kf R A q j) (hj:j<n) (hn:n<=65536) (hk:-9223372036854775808<=kf j/\kf j<=9223372036854775807) :
  ∃x R1 A1 m R2 A2 y R3 A3,bf A 1=true/\iC R=some (x,R1)/\A1=au A 1 (x:Int) (tn (kf j)) ((q:Int)+1)/\bu A1 1=some m/\R2=dY R1 m/\A2=aL A1 (m:Int)/\bf A2 2=true/\iC R2=some (y,R3)/\A3=au A2 2 (y:Int) (tn (A1.c m).k) (((q+1:Nat):Int)+1)/\
   (-9223372036854775808<=(A1.c m).k/\(A1.c m).k<=9223372036854775807)/\JK n R3 A3 (q+2) (j+1)/\∃K,LF A3 K ((j+1) / 2)/\K.Perm ((List.range (j+1)).map kf):=by
 obtain ⟨K,hH,hK⟩:=h.h;have hq:=h.qj;obtain ⟨x,R1,hT⟩:=h.s.room hj;have s1:=h.s.put (g:=1) ω h.s.h1 (Ag hk) hT;obtain ⟨m,hm⟩:=h.s.wy (g:=1) (k:=tn (kf j)) (s:=(q:Int)+1) ω s1.1;rw [show ((1:Nat):Int)=1 from rfl] at s1 hm;obtain ⟨A1,e1⟩:∃A1,A1=au A 1 (x:Int) (tn (kf j)) ((q:Int)+1):=⟨_,rfl⟩;rw [←e1] at s1 hm;have QB:=s1.2.ym.key m;have s2:=s1.2.give ω ω hm;obtain ⟨y,R3,rE⟩:=s2.2.2.2.room hj;have s3:=s2.2.2.2.put (g:=2) ω s2.2.2.2.h2 (Ag ⟨QB.1,QB.2.1⟩) rE;rw [show ((2:Nat):Int)=2 from rfl] at s3
 exact ⟨x,R1,A1,m,dY R1 m,aL A1 (m:Int),y,R3,_,h.s.h1,hT,e1,hm,rfl,rfl,s2.2.2.2.h2,rE,rfl,⟨QB.1,QB.2.1⟩,s3.2,_,hH.push h.s.ym s1.1 e1 hm s2.2.1 rfl s2.2.2.2.ym s3.1 rfl,Nl hK⟩
theorem Pm.odd {kf:Nat->Int} {K:List Int} (s:JK n R A q (j+1)) (hq:q<=3*(j+1)) (hH:LF A K ((j+1) / 2)) (hK:K.Perm ((List.range (j+1)).map kf)) (ho:j % 2=1):Pm n kf R A q (j+1)/\∃m,bu A 1=some m/\tn (A.c m).k=Me kf j:=by
 have e1:(j+1) / 2=j / 2+1:=ω;have e2:(j+1+1) / 2=j / 2+1:=ω;rw [e1] at hH
 obtain ⟨m,hm⟩:=sN (A:=A) (g:=1) ω (fun e=>by
  have:=hH.len
  rw [e] at this;simp at this)
 exact ⟨⟨s,⟨K,by rw [e2];exact hH,hK⟩,hq⟩,m,hm,hH.mid hK hm⟩
theorem Pm.even {kf:Nat->Int} {K:List Int} (s:JK n R A q (j+1)) (hj:j<n) (hq:q+1<=3*(j+1)) (hn:n<=65536) (hH:LF A K ((j+1) / 2)) (hK:K.Perm ((List.range (j+1)).map kf)) (ho:j % 2=0) :
  ∃m R1 A1 x R2 A2,bu A 2=some m/\R1=dY R m/\A1=aL A (m:Int)/\bf A1 1=true/\iC R1=some (x,R2)/\A2=au A1 1 (x:Int) (tn (A.c m).k) ((q:Int)+1)/\(-9223372036854775808<=(A.c m).k/\(A.c m).k<=9223372036854775807)/\
   Pm n kf R2 A2 (q+1) (j+1)/\∃m',bu A2 1=some m'/\tn (A2.c m').k=Me kf j:=by
 have e1:(j+1) / 2=j / 2:=ω;have e2:(j+1+1) / 2=j / 2+1:=ω;rw [e1] at hH
 obtain ⟨m,hm⟩:=sN (A:=A) (g:=2) ω (fun e=>by
  have h1:=hH.len;have h2:=(hH.perm.trans hK).length_eq
  rw [e] at h2;simp at h2 h1;omega)
 have QB:=s.ym.key m;have s2:=s.give ω ω hm;obtain ⟨x,R2,hT⟩:=s2.2.2.2.room hj;have s3:=s2.2.2.2.put (g:=1) ω s2.2.2.2.h1 (Ag ⟨QB.1,QB.2.1⟩) hT;rw [show ((1:Nat):Int)=1 from rfl] at s3;have hL:=hH.lift (s:=(q:Int)+1) hm s2.2.1 rfl s2.2.2.2.ym s3.1 rfl;obtain ⟨m',hm'⟩:=s2.2.2.2.wy (g:=1) (k:=tn (A.c m).k) (s:=(q:Int)+1) ω s3.1;exact ⟨m,dY R m,aL A (m:Int),x,R2,_,hm,rfl,rfl,s2.2.2.2.h1,hT,rfl,⟨QB.1,QB.2.1⟩,⟨s3.2,⟨K,by rw [e2];exact hL,hK⟩,hq⟩,m',hm',hL.mid hK hm'⟩
theorem Qa (kf:Nat->Int) (hn:n<=65536):Pm n kf (AR.new n 4294967295) (Jg (NS.new n) 2) 0 0:=by
 have hm:Jg (NS.new n) 2=aD (aD (NS.new n)):=rfl;rw [hm];have hl:(aD (aD (NS.new n))).cs.length=n:=by rw [nO,nO];simp [NS.new]
 have hin:∀x:Nat,bP (aD (aD (NS.new n))) (x:Int)=false:=fun x=>by rw [qc,qc,Cc]
 have hk:∀g:Int,0<g->gZ (aD (aD (NS.new n))) g=[]:=fun g hg=>by
  unfold gZ;cases hs:gQ (aD (aD (NS.new n))) g with
  | nil=>rfl
  | cons x l=>
   have hx:=ik.1 (show x∈gQ (aD (aD (NS.new n))) g by rw [hs];simp);have:=hin x;rw [(aj _ _).2 ⟨hx.1,by rw [hx.2];exact hg⟩] at this;cases this
 have hg0:∀x,(AR.new n 4294967295).g x=0:=fun x=>((AR.mg hn ω).fresh x (Nat.zero_le _)).1;refine ⟨⟨AR.mg hn ω,p9 (p9 (NS.mg n hn)),hl,by simp [AR.new],fun x=>by rw [EJ,hin],?_,?_,rfl,fun x=>by rw [hg0];exact Θ _,fun x hx=>absurd hx (Nat.not_lt_zero _),AR.CG _ _⟩,⟨[],?_,ό _⟩,Θ _⟩
 ·unfold aD NS.new bf;simp
 ·unfold aD NS.new bf;simp
 ·unfold LF;rw [hk 1 ω,hk 2 ω];exact ⟨ό _,fun a ha=>(by cases ha),rfl⟩
end
theorem JU {K:dI} (kd d:Int) (vk:Value) (ks:List Int) (w:World) (hS:fM w [] vk ks) (hb:∀x,x∈ks->-9223372036854775808<=x/\x<=9223372036854775807) (hc:rV kd d=0) (hn:ks.length<=65536) (ko:j4 K kd d ks.length) :
  Calls Tryz.prog 16 #[.agg #[.int .i64 kd,.int .i64 d],vk] w fun e w'=>∃ao co,e=.returned (.tuple #[.slice ao ks.length co,.int .i64 0])/\w'.ownsRow w.heap.size 3 1 (.slice ao ks.length co) ks.length (aM (FC (dH (fun i=>ks.getD i 0) ks.length)))/\aa [] w w':=by
 have hS0:=hS;obtain ⟨a,cap,rfl,hcap1,hcap2,hcell⟩:=hS;have u0:aa [] w (w.alloc (.cells #[.int .i64 kd,.int .i64 d] 23)):=(aa.refl _ _).alloc _;have kl:=fun W (hW:aa [] w W)=>JV kd d (.slice a ks.length cap) ks ks.length W (hS0.fresh hW (fun g hg=>Α hg)) hb hc hn (Θ _) ko;rw [List.take_of_length_le (by rw [q9];exact Θ _)] at kl;generalize dH (fun i=>ks.getD i 0) ks.length=L at *;clear hS0 hb hc hn ko hcell;generalize ks.length=n at *
 go_enter Tryz.func16,Tryz.ntmps16
 go_wp2_with (first
  | ((go_at_call 17;(with_reducible refine (kl _ β).mono ?_));rintro e w1 ⟨ao,co,rfl,ho,hu1⟩)
  | fail)
 go_ret2;exact ⟨ao,co,rfl,iJ ho σ,aa.trans β hu1⟩
def qz (w:World) (v:Value) (Z:List (List Int)):Prop:=
 ∃a cap,v=.slice a Z.length cap/\Z.length<=cap/\cap<=9223372036854775807/\∀x l,Z[x]?=some l->∃g off vx,a=some ⟨g,off,none⟩/\g<w.heap.size/\w.cell? ⟨g,off+x,none⟩=some vx/\fM w [] vx l
theorem qz.upd {w w':World} {v:Value} {Z:List (List Int)} (h:qz w v Z) (hu:aa [] w w'):qz w' v Z:=by
 obtain ⟨a,cap,rfl,h1,h2,h3⟩:=h;refine ⟨a,cap,rfl,h1,h2,fun x l hx=>?_⟩;obtain ⟨g,off,vx,rfl,hg,hc,hs⟩:=h3 x l hx;exact ⟨g,off,vx,rfl,Ψ hg hu.size,hu.was hc,hs.fresh hu (fun g hg=>Α hg)⟩
theorem qz.shape {w:World} {v:Value} {Z:List (List Int)} (h:qz w v Z):∃a cap,v=.slice a Z.length cap/\Z.length<=cap/\cap<=9223372036854775807:=by
 obtain ⟨a,cap,rfl,h1,h2,_⟩:=h;exact ⟨a,cap,rfl,h1,h2⟩
theorem fM.form {w:World} {F:List Nat} {v:Value} {xs:List Int} (h:fM w F v xs):∃a cap,v=.slice a xs.length cap/\xs.length<=cap/\cap<=9223372036854775807:=by
 obtain ⟨a,cap,rfl,h1,h2,_⟩:=h;exact ⟨a,cap,rfl,h1,h2⟩
theorem qz.at {w:World} {a:Option Addr} {n cap:Nat} {Z:List (List Int)} (h:qz w (.slice a n cap) Z) {x:Nat} {l:List Int} (hx:Z[x]?=some l) :
  ∃g off ax cx,a=some ⟨g,off,none⟩/\g<w.heap.size/\w.cell? ⟨g,off+x,none⟩=some (.slice ax l.length cx)/\l.length<=cx/\cx<=9223372036854775807/\fM w [] (.slice ax l.length cx) l:=by
 obtain ⟨a',cap',he,_,_,h3⟩:=h;cases he;obtain ⟨g,off,vx,rfl,hg,hc,hs⟩:=h3 x l hx;obtain ⟨ax,cx,rfl,h1,h2⟩:=hs.form;exact ⟨g,off,ax,cx,rfl,hg,hc,h1,h2,hs⟩
def lu:Nat->List (List Int)->Nat
 | n,[]=>n
 | n,l::r=>if 65536<n+l.length then n+l.length else lu (n+l.length) r
def bJ (Z:List (List Int)):Nat:=(Z.map List.length).sum
theorem xy:∀ (Z:List (List Int)) (n:Nat),n+bJ Z<=65536->lu n Z=n+bJ Z
 | [],n,_=>by simp [lu,bJ]
 | l::r,n,h=>by
  have e:bJ (l::r)=l.length+bJ r:=by simp [bJ]
  rw [e] at h ⊢;unfold lu;rw [Γ ω,xy r (n+l.length) ω];omega
theorem vQ (w:World) (va:Value) (Z:List (List Int)) (h:qz w va Z) (hkb:∀i,i<Z.length->(Z.getD i []).length<=1000000000000):Calls Tryz.prog 44 #[va] w fun e w'=>e=.returned (.int .i64 (lu 0 Z:Int))/\aa [] w w':=by
 obtain ⟨a,cap,rfl,h1,h2⟩:=h.shape;have HZ:=χ h;have HE:Hid (∀i,i<Z.length->Z[i]?=some (Z.getD i [])):=fun i hi=>by simp [φ,hi]
 have HD:Hid (∀i n,i<Z.length->lu n (Z.drop i)=if 65536<n+(Z.getD i []).length then n+(Z.getD i []).length else lu (n+(Z.getD i []).length) (Z.drop (i+1))):=fun i n hi=>by
  rw [ϡ hi,lu,φ,ε hi];rfl
 have HK:=χ hkb;clear hkb;have HL:Hid (∀n,lu n (Z.drop Z.length)=n):=fun n=>by simp [lu]
 have hr0:lu 0 Z=lu 0 (Z.drop 0):=σ;generalize lu 0 Z=r at *;have HR:=χ hr0;clear h hr0;generalize hn:Z.length=n at *;have HN:=χ hn;clear hn
 go_enter Tryz.func44,Tryz.ntmps44
 go_wp2
 go_loopw [3,5,8] (fun v3 _ v8 wr=>∃i m:Nat,v8=.int .i64 (i:Int)/\v3=.int .i64 (m:Int)/\i<=n/\m<=65536/\r=lu m (Z.drop i)/\aa [] w wr) (fun _ _ v8 _=>n-(intOf v8).toNat)
 case atStart=>exact ⟨0,0,rfl,rfl,Nat.zero_le _,ω,HR.out,aa.refl _ _⟩
 case round=>
  obtain ⟨i,m,rfl,rfl,hi,hm,hrr,hu⟩:=hrel;rename World=>wr
  by_cases hin:i<n
  ·have Dg:(i:Int)<(n:Int):=ω;obtain ⟨g,off,ax,cx,rfl,hg,hc,hl1,hl2, -⟩:=(HZ.out.upd hu).at (HE.out i hin);have hd:=HD.out i m hin;have hkk:=HK.out i hin;generalize (Z.getD i []).length=k at *;have hwr:IntKind.i64.wrap ((i:Int)+1)=(i:Int)+1:=Μ _ ω;obtain ⟨t,ht⟩:∃t:Nat,t=m+k:=⟨_,rfl⟩;have hwk:(m:Int)+(k:Int)=(t:Int):=ω;have htb:(t:Int)<=9223372036854775807+65536:=ω;rw [←ht] at hd
   by_cases hb:65536<t
   ·rw [Δ hb] at hd;have XW:(t:Int) > 65536:=ω;have hwt:IntKind.i64.wrap (t:Int)=(t:Int):=Μ _ ω;have hfin:r=t:=hrr.trans hd;have HF:=χ hfin;clear hrr hd hfin ht;go_wp2;go_ret;exact ⟨by rw [HF.out];rfl,hu⟩
   ·rw [Γ hb] at hd;have XW:¬ (t:Int) > 65536:=ω;have HF:=χ (hrr.trans hd);have hwt:IntKind.i64.wrap (t:Int)=(t:Int):=Μ _ ω;have htl:t<=65536:=ω;clear hrr hd ht hb;go_wp2
    go_roundw
    case rel=>exact ⟨i+1,t,by go_num,by go_num,ω,htl,HF.out,hu⟩
    case measure=>simp [intOf];omega
  ·obtain rfl:i=n:=ω;have Dg:¬ (i:Int)<(i:Int):=ω;have TE:decide ((i:Int)<(i:Int))=false:=σ;have hfin:r=m:=by rw [hrr,HL.out]
   have HF:=χ hfin;clear hrr hfin;go_wp2;go_ret;exact ⟨by rw [HF.out];rfl,hu⟩
def dw (l:List Int):Bool:=decide (∀i,i<l.length-1->l.getD i 0<=l.getD (i+1) 0)
theorem tF {l:List Int}:dw l=true↔∀i,i+1<l.length->l.getD i 0<=l.getD (i+1) 0:=by
 unfold dw;rw [Ο];exact ⟨fun h i hi=>h i ω,fun h i hi=>h i ω⟩
theorem Lc (x y:Int) (w:World):Calls Tryz.prog 71 #[.int .i64 x,.int .i64 y] w fun e w'=>e=.returned (.bool (decide (x<y)))/\w'=w:=by
 have kn:∀z (W:World),Calls Tryz.prog 85 #[.int .i64 z] W fun e w'=>e=.returned (.bool false)/\w'=W:=fun z W=>by
  have hz:(z != z)=false:=σ
  go_enter Tryz.func85,Tryz.ntmps85
  go_wp2;go_ret;exact ⟨rfl,rfl⟩
 have kx:=kn x;have ky:=kn y;clear kn
 go_enter Tryz.func71,Tryz.ntmps71
 go_wp2_with (first
  | ((go_at_call 85;(with_reducible refine (kx _).mono ?_));rintro e w1 ⟨rfl,rfl⟩)
  | ((go_at_call 85;(with_reducible refine (ky _).mono ?_));rintro e w1 ⟨rfl,rfl⟩)
  | fail)
 go_ret;exact ⟨rfl,rfl⟩
theorem BL (w:World) (va:Value) (l:List Int) (h:fM w [] va l):Calls Tryz.prog 47 #[va] w fun e w'=>e=.returned (.bool (dw l))/\aa [] w w':=by
 obtain ⟨a,cap,rfl,hcap1,hcap2,hcell⟩:=h;have HB:Hid (∀b,(b=true↔∀i,i+1<l.length->l.getD i 0<=l.getD (i+1) 0)->dw l=b):=fun b hb=>by
  have:=tF (l:=l);cases b with
  | true=>exact this.2 (hb.1 rfl)
  | false=>
   cases hr:dw l with
   | false=>rfl
   | true=>exact absurd (hb.2 (this.1 hr)) σ
 generalize dw l=rb at *;have hrow:∀j,j<l.length->∃g off,a=some ⟨g,off,none⟩/\g<w.heap.size/\w.cell? ⟨g,off+j,none⟩=some (.int .i64 (l.getD j 0)):=fun j hj=>by
  obtain ⟨g,off,h1,h2,_,h3⟩:=hcell j l[j] (ε hj);exact ⟨g,off,h1,h2,by rw [h3,φ,ε hj];rfl⟩
 have HR:=χ hrow;have kc:=fun x y W=>Lc x y W;clear hcell hrow;generalize hn:l.length=n at *;clear hn;have HX:Hid (∀j,l.getD j 0=l.getD j 0):=fun _=>rfl
 go_enter Tryz.func47,Tryz.ntmps47
 go_wp2
 go_loopw [3] (fun v3 wr=>∃i:Int,v3=.int .i64 i/\-1<=i/\i<=(n:Int)-1/\(∀k:Nat,i<=k->k+1<n->l.getD k 0<=l.getD (k+1) 0)/\aa [] w wr) (fun v3 _=>(intOf v3).toNat)
 case atStart=>exact ⟨(n:Int)-1,by first|rfl|(rw [Μ _ ω])|(go_num),ω,Int.le_refl _,fun k h1 h2=>ω,aa.refl _ _⟩
 case round=>
  obtain ⟨i,rfl,hi1,hi2,hP,hu⟩:=hrel;rename World=>wr
  by_cases hi0:0<i
  ·obtain ⟨j,rfl⟩:∃j:Nat,i=(j:Int):=⟨i.toNat,ω⟩;obtain ⟨k,hk⟩:∃k:Nat,j=k+1:=⟨j-1,ω⟩;have hgt:(j:Int) > 0:=hi0;obtain ⟨g,off,rfl,hg,hc0⟩:=HR.out k ω;obtain ⟨g',off',he,_,hc1⟩:=HR.out j ω;cases he;have c0:∀X,aa [] wr X->_:=fun X hX=>(hu.trans hX).was hc0;have c1:∀X,aa [] wr X->_:=fun X hX=>(hu.trans hX).was hc1;have Da:(k:Int)<(n:Int):=ω;have hkI2:(j:Int)<(n:Int):=ω;have hks:(j:Int)-1=(k:Int):=ω;have hwk:IntKind.i64.wrap (k:Int)=(k:Int):=Μ _ ω;have HP:=χ (ψ hP (ψ hu hk));have kq:=kc (l.getD j 0) (l.getD k 0)
   have HV:Hid (l.getD j 0<l.getD k 0->rb=false):=fun h3=>HB.out false (by
    constructor
    ·intro h;cases h
    ·intro h;have:=h k ω;rw [←hk] at this;omega)
   have Ri:Hid (¬l.getD j 0<l.getD k 0->∀q:Nat,(k:Int)<=q->q+1<n->l.getD q 0<=l.getD (q+1) 0):=fun h q h1 h2=>by
    by_cases e:q=k
    ·subst e;rw [←HP.out.2.2];omega
    ·exact HP.out.1 q ω h2
   clear hP hu hc0 hc1 kc hk
   by_cases hlt:l.getD j 0<l.getD k 0
   ·have HQ:=χ (HV.out hlt);rw [Ν hlt] at kq;clear HV Ri hlt;generalize l.getD j 0=y at *;generalize l.getD k 0=x at *
    go_upto_region 4 with (fail)
    go_region_held3 (aa [] wr) (exact ν)
     (first
      | ((go_at_call 71;(with_reducible refine (kq _).mono ?_));rintro e w1 ⟨rfl,rfl⟩))
    go_wp2;go_ret;refine ⟨?_,?_⟩
    ·rw [HQ.out];rfl
    ·exact HP.out.2.1.trans ν
   ·have HQ:=χ (Ri.out hlt);rw [Ξ hlt] at kq;clear HV Ri hlt;generalize l.getD j 0=y at *;generalize l.getD k 0=x at *
    go_upto_region 4 with (fail)
    go_region_held3 (aa [] wr) (exact ν)
     (first
      | ((go_at_call 71;(with_reducible refine (kq _).mono ?_));rintro e w1 ⟨rfl,rfl⟩))
    go_wp2
    go_roundw
    case rel=>exact ⟨(k:Int),by go_num,ω,ω,HQ.out,HP.out.2.1.trans ν⟩
    case measure=>simp [intOf];omega
  ·have hgt:¬i > 0:=ω;have hgd:decide (i > 0)=false:=ζ;have hrb:=HB.out true ⟨fun _ k hk=>hP k ω hk,fun _=>rfl⟩;have HQ:=χ (ψ hrb hu);clear hrb hu hP;go_wp2;go_ret;exact ⟨by rw [HQ.out.1];rfl,HQ.out.2⟩
theorem Kh (w:World) (va:Value) (l:List Int) (h:fM w [] va l):Calls Tryz.prog 46 #[va] w fun e w'=>e=.returned (.bool (!dw l))/\aa [] w w':=by
 have h0:=h;obtain ⟨a,cap,rfl,_,_,_⟩:=h;have ki:=BL w _ l h0;generalize dw l=b at *;clear h0;generalize l.length=n at *
 go_enter Tryz.func46,Tryz.ntmps46
 go_wp2_with (first
  | ((go_at_call 47;(with_reducible refine (ki).mono ?_));rintro e w1 ⟨rfl,hu1⟩)
  | fail)
 go_ret;exact ⟨rfl,hu1⟩
theorem Ps (w:World) (va:Value) (Z:List (List Int)) (h:qz w va Z) :
  Calls Tryz.prog 70 #[va,.func (Fn.func 46) #[] #[]] w (JF (Z.any (fun l=>!dw l)) w):=by
 obtain ⟨a,cap,rfl,hcap,hcap2⟩:=h.shape;have HE:=χ h;have hcp:Z.length<=9223372036854775807:=ω;clear h;generalize hn:Z.length=n at *;have HN:=χ hn;clear hn
 go_enter Tryz.func70,Tryz.ntmps70
 go_wp2
 go_loopw [5,8] (fun _ i wr=>∃k:Nat,k<=n/\i=.int .i64 (k:Int)/\(Z.take k).any (fun l=>!dw l)=false/\aa [] w wr) (fun _ i _=>n-(intOf i).toNat)
 case atStart=>exact ⟨0,ω,rfl,σ,aa.refl _ _⟩
 case round=>
  obtain ⟨k,hk,rfl,hany,hu⟩:=hrel;rename World=>wr
  by_cases hkn:k<n
  ·have hkE:k<Z.length:=by rw [HN.out];exact hkn
   have hx:Z[k]?=some (Z.getD k []):=by simp [φ,hkE]
   have hmem:Z.getD k []∈Z:=Η hx;obtain ⟨g,off,ax,cx,rfl,hg,hc,hl1,hl2,hs⟩:=(HE.out.upd hu).at hx;have kc:=Kh wr _ _ hs;generalize Z.getD k []=l at *;have HM:=χ hmem;have HT:=χ (Qb (fun l=>!dw l) Z k _ hx);have HA:=χ hany;have hwr:IntKind.i64.wrap ((k:Int)+1)=(k:Int)+1:=Μ _ ω;have Da:(k:Int)<(n:Int):=ω;clear hx hmem hany hs;generalize l.length=nl at *;cases hp:(!dw l) with
   | false=>
    rw [hp] at kc;have HP:=χ hp;clear hp
    go_wp2_with (first
     | ((go_at_call 46;(with_reducible refine (kc).mono ?_));rintro e w2 ⟨rfl,hu2⟩)
     | fail)
    go_roundw
    case rel=>exact ⟨k+1,ω,by go_num,by rw [HT.out,HA.out,HP.out];rfl,hu.trans hu2⟩
    case measure=>simp [intOf];omega
   | true=>
    rw [hp] at kc;have HP:=χ hp;clear hp
    go_wp2_with (first
     | ((go_at_call 46;(with_reducible refine (kc).mono ?_));rintro e w2 ⟨rfl,hu2⟩)
     | fail)
    go_ret;refine ⟨(k:Int),rfl,?_,hu.trans hu2⟩;rw [List.any_eq_true.2 ⟨_,HM.out,HP.out⟩];simp
  ·obtain rfl:k=n:=ω;have hfin:Z.any (fun l=>!dw l)=false:=by rw [←hany,←HN.out,List.take_length]
   have HF:=χ hfin;have hkD:decide ((k:Int)<(k:Int))=false:=σ;clear hany hfin;go_wp2;go_ret;exact ⟨-1,rfl,by rw [HF.out];rfl,hu⟩
theorem EN (w:World) (va:Value) (Z:List (List Int)) (h:qz w va Z) :
  Calls Tryz.prog 45 #[va,.func (Fn.func 46) #[] #[]] w fun e w'=>e=.returned (.bool (Z.any (fun l=>!dw l)))/\aa [] w w':=by
 have k:=Ps w va Z h;unfold JF at k;obtain ⟨a,cap,rfl,hcap,hcap2⟩:=h.shape;clear h;generalize Z.any (fun l=>!dw l)=b at *;generalize Z.length=n at *
 go_enter Tryz.func45,Tryz.ntmps45
 go_wp2_with (first
  | ((go_at_call 70;(with_reducible refine (k).mono ?_));rintro e w1 ⟨i,rfl,hi,hu1⟩)
  | fail)
 go_ret;exact ⟨bg (by rw [←hi]),hu1⟩
theorem KQ (kd d:Int) (va:Value) (Z:List (List Int)) (w:World) (h:qz w va Z) (hkb:∀i,i<Z.length->(Z.getD i []).length<=1000000000000) (hc:rV kd d≠0) :
  Calls Tryz.prog 23 #[.agg #[.int .i64 kd,.int .i64 d],va] w fun e w'=>e=.returned (.tuple #[.slice none 0 0,.int .i64 (rV kd d)])/\aa [] w w':=by
 have km:=fun W (hW:aa [] w W)=>vQ W va Z (h.upd hW) hkb;have kp:=fun W=>GV kd d (lu 0 Z:Int) 1 W hc;obtain ⟨a,cap,rfl,hcap,hcap2⟩:=h.shape;have hcb:(rV kd d != 0)=true:=by simpa using hc
 clear h hkb;generalize rV kd d=v at *;generalize lu 0 Z=m at *;generalize Z.length=n at *
 go_enter Tryz.func23,Tryz.ntmps23
 go_wp2_with (first
  | ((go_at_call 44;(with_reducible refine (km _ β).mono ?_));rintro e w1 ⟨rfl,hu1⟩;(have q0:w1.cell? ⟨w.heap.size,0,none⟩=some (.int .i64 kd):=hu1.was γ);(have q1:w1.cell? ⟨w.heap.size,1,none⟩=some (.int .i64 d):=hu1.was γ);(have hw1:aa [] w w1:=aa.trans β hu1))
  | ((go_at_call 39;(with_reducible refine (kp _).mono ?_));rintro e w2 ⟨rfl,hu2⟩)
  | fail)
 go_ret2;exact ⟨rfl,hw1.trans hu2⟩
theorem KU {K:dI} (kd d:Int) (va:Value) (Z:List (List Int)) (w:World) (h:qz w va Z) (hkb:∀i,i<Z.length->(Z.getD i []).length<=1000000000000) (hc:rV kd d=0) (hb:bJ Z<=65536) (hl:Z.length<=65536) (hr:Z.any (fun l=>!dw l)=true) (ko:j4 K kd d (bJ Z)) :
  Calls Tryz.prog 23 #[.agg #[.int .i64 kd,.int .i64 d],va] w fun e w'=>e=.returned (.tuple #[.slice none 0 0,.int .i64 201])/\aa [] w w':=by
 have km:=fun W (hW:aa [] w W)=>vQ W va Z (h.upd hW) hkb;have kc:=fun W (hW:aa [] w W)=>EN W va Z (h.upd hW);rw [hr] at kc;have hm:=xy Z 0 ω;rw [ϕ] at hm;rw [hm] at km;have kp:∀W:World,_:=fun W=>oU kd d (bJ Z) 1 W hc hb ω ko;rw [show ((1:Nat):Int)=1 from rfl] at kp;obtain ⟨a,cap,rfl,hcap,hcap2⟩:=h.shape;clear h hkb hc hb hr hm ko;generalize bJ Z=m at *;generalize Z.length=n at *;have hnD:¬ (n:Int) > 65536:=ω;have hnB:decide ((n:Int) > 65536)=false:=ζ
 go_enter Tryz.func23,Tryz.ntmps23
 go_wp2_with (first
  | ((go_at_call 44;(with_reducible refine (km _ β).mono ?_));rintro e w1 ⟨rfl,hu1⟩;(have q0:w1.cell? ⟨w.heap.size,0,none⟩=some (.int .i64 kd):=hu1.was γ);(have q1:w1.cell? ⟨w.heap.size,1,none⟩=some (.int .i64 d):=hu1.was γ);(have hw1:aa [] w w1:=aa.trans β hu1))
  | ((go_at_call 39;(with_reducible refine (kp _).mono ?_));rintro e w2 ⟨p,F,rfl,FE,hu2,hF⟩)
  | ((go_at_call 45;(with_reducible refine (kc _ (hw1.trans hu2)).mono ?_));rintro e w3 ⟨rfl,hu3⟩)
  | fail)
 go_ret2;exact ⟨rfl,(hw1.trans hu2).trans hu3⟩
theorem Wj (x:Int) (h:-9223372036854775808<=x/\x<=9223372036854775807):bits BinOp.xor IntKind.i64 (-1) x=-1-x:=by
 unfold bits
 show IntKind.i64.wrap ((BitVec.ofInt 64 (-1) ^^^ BitVec.ofInt 64 x).toNat:Int)=_
 have h1:BitVec.ofInt 64 (-1)=BitVec.allOnes 64:=δ;rw [h1,BitVec.allOnes_xor,BitVec.toNat_not,BitVec.toNat_ofInt];have h2:(((2 ^ 64-1-(x % ((2 ^ 64:Nat):Int)).toNat:Nat)):Int)=18446744073709551615-x % 18446744073709551616:=ω;rw [h2]
 by_cases hx:0<=x
 ·rw [Int.emod_eq_of_lt hx ω];unfold IntKind.wrap;simp [IntKind.bits,IntKind.signed];omega
 ·have h3:x % 18446744073709551616=x+18446744073709551616:=ω;rw [h3];unfold IntKind.wrap;simp [IntKind.bits,IntKind.signed];omega
theorem lZ (x:Int) (w:World) (h:-9223372036854775808<=x/\x<=9223372036854775807) :
  Calls Tryz.prog 42 #[.int .i64 x] w fun e w'=>e=.returned (.int .i64 (-1-x))/\w'=w:=by
 have HX:=χ (Wj x h)
 go_enter Tryz.func42,Tryz.ntmps42
 go_wp2;go_ret;refine ⟨?_,rfl⟩;rw [HX.out];rfl
structure wE (K:dI) (w0 w:World) (p:Nat) (F:List Nat) (kd d:Int) (R:AR) (A:NS) (q:Nat) (v:Value) (n:Nat) (xs:List Value):Prop where
 pq:dJ K w p F kd d R A q
 up:aa [] w0 w
 lo:∀x,x∈F->w0.heap.size<=x
 own:w.ownsRow w0.heap.size 2 1 v n xs
 off:∀g,v.ownBlock=some g->g∉F
section
variable {K:dI} {w0 w w':World} {p:Nat} {F:List Nat} {kd d:Int} {R R':AR} {A A':NS} {q q':Nat} {v:Value} {n:Nat} {xs:List Value}
theorem wE.go (h:wE K w0 w p F kd d R A q v n xs) (hg:Goes F w w' (fun F'=>dJ K w' p F' kd d R' A' q')):∃F',wE K w0 w' p F' kd d R' A' q' v n xs:=by
 obtain ⟨F',h1,h2,h3⟩:=hg;have hs:=h.up.size;refine ⟨F',h1,h.up.joined h2 (fun x hx=>Β (h.lo x hx)),fun x hx=>?_,aA h.own h2 h.off,fun g hg hm=>?_⟩
 ·rcases h3 x hx with h'|h'
  ·exact h.lo x h'
  ·omega
 ·rcases h3 g hm with h'|h'
  ·exact h.off g hg h'
  ·have:=(h.own.lt g hg).2;omega
theorem wE.ae (h:wE K w0 w p F kd d R A q v n xs) (hu:aa [] w w'):wE K w0 w' p F kd d R A q v n xs:=
 ⟨h.pq.ae hu,h.up.trans hu,h.lo,aA h.own hu σ,h.off⟩
theorem wE.put (h:wE K w0 w p F kd d R A q v n xs) {g x:Nat} {k:Int} (hB:bf A (g:Int)=true) (hk:-9223372036854775808<=k/\k<=9223372036854775807) (hq:q+1<=18446744073709551615) (hT:iC R=some (x,R')) (e:A'=au A (g:Int) (x:Int) k ((q:Int)+1)) :
  Calls Tryz.prog 40 #[.pointer (some ⟨p,0,none⟩),.int .i64 (g:Int),.int .i64 k] w fun e w'=>∃z,e=.returned (.tuple #[.agg #[.int .i64 (x:Int),.int .u32 z],.int .i64 0])/\∃F',wE K w0 w' p F' kd d R' A' (q+1) v n xs:=by
 subst e;exact (qx h.pq g k hB hk hq hT).mono (fun e w' hh=>⟨_,hh.1,h.go hh.2⟩)
theorem wE.ext (h:wE K w0 w p F kd d R A q v n xs) {g m:Nat} (hM:bu A (g:Int)=some m) {k:Int} (hk:(A.c m).k=k) (e1:R'=dY R m) (e2:A'=aL A m) :
  Calls Tryz.prog 41 #[.pointer (some ⟨p,0,none⟩),.int .i64 (g:Int)] w fun e w'=>∃z,e=.returned (.tuple #[.agg #[.int .i64 (m:Int),.int .u32 z],.int .i64 k,.int .i64 0])/\∃F',wE K w0 w' p F' kd d R' A' q v n xs:=by
 subst e1 e2 hk;exact (vD h.pq g hM).mono (fun e w' hh=>⟨_,hh.1,h.go hh.2⟩)
theorem wE.min (h:wE K w0 w p F kd d R A q v n xs) {g m:Nat} (hM:bu A (g:Int)=some m) {k:Int} (hk:(A.c m).k=k) :
  Calls Tryz.prog 43 #[.pointer (some ⟨p,0,none⟩),.int .i64 (g:Int)] w fun e w'=>∃z,e=.returned (.tuple #[.agg #[.int .i64 (m:Int),.int .u32 z],.int .i64 k,.int .i64 0])/\∃F',wE K w0 w' p F' kd d R A q v n xs:=by
 subst hk;exact (vL h.pq g hM).mono (fun e w' hh=>⟨_,hh.1,h.go hh.2⟩)
end
theorem P8 {K:dI} (kd d:Int) (vk:Value) (ks:List Int) (w:World) (hS:fM w [] vk ks) (hb:∀x,x∈ks->-9223372036854775808<=x/\x<=9223372036854775807) (hc:rV kd d=0) (hn:ks.length<=65536) (ko:j4 K kd d ks.length) :
  Calls Tryz.prog 21 #[.agg #[.int .i64 kd,.int .i64 d],vk] w fun e w'=>∃ao co,e=.returned (.tuple #[.slice ao ks.length co,.int .i64 0])/\w'.ownsRow w.heap.size 2 1 (.slice ao ks.length co) ks.length (aM (rT (fun i=>ks.getD i 0) ks.length))/\aa [] w w':=by
 have kp:∀W:World,_:=fun W=>oU kd d ks.length 2 W hc hn ω ko;obtain ⟨a,cap,rfl,hcap1,hcap2,hcell⟩:=hS;have hkb:∀j,j<ks.length->-9223372036854775808<=ks.getD j 0/\ks.getD j 0<=9223372036854775807:=fun j hj=>by
  rw [φ,ε hj];exact hb _ (ϛ hj)
 have hrow:∀j,j<ks.length->∃g off,a=some ⟨g,off,none⟩/\g<w.heap.size/\w.cell? ⟨g,off+j,none⟩=some (.int .i64 (ks.getD j 0)):=fun j hj=>by
  obtain ⟨g,off,h1,h2,_,h3⟩:=hcell j ks[j] (ε hj);exact ⟨g,off,h1,h2,by rw [h3,φ,ε hj];rfl⟩
 have HR:Hid ((∀j,j<ks.length->-9223372036854775808<=(fun i=>ks.getD i 0) j/\(fun i=>ks.getD i 0) j<=9223372036854775807)/\(∀j,j<ks.length->∃g off,a=some ⟨g,off,none⟩/\g<w.heap.size/\w.cell? ⟨g,off+j,none⟩=some (.int .i64 ((fun i=>ks.getD i 0) j)))/\Pm ks.length (fun i=>ks.getD i 0) (AR.new ks.length 4294967295) (Jg (NS.new ks.length) 2) 0 0):=⟨hkb,hrow,Qa _ hn⟩;clear hcell hb hkb hrow hc ko;generalize (fun i=>ks.getD i 0)=kf at *;generalize ks.length=n at *;rw [show ((2:Nat):Int)=2 from rfl] at kp
 go_enter Tryz.func21,Tryz.ntmps21
 go_wp2_with (first
  | ((go_at_call 39;(with_reducible refine (kp _).mono ?_));rintro e w1 ⟨p,F,rfl,FE,hu0,hF⟩)
  | fail)
 have hu1:aa [] w w1:=aa.trans β hu0;have s1:w.heap.size<=w1.heap.size:=hu1.size;have HI:Hid (wE K w w1 p F kd d (AR.new n 4294967295) (Jg (NS.new n) 2) 0 (.slice none 0 0) 0 (aM (rT kf 0))):=⟨FE,hu1,fun x hx=>by have:=hF x hx;simp at this;omega,⟨rfl,Α ⟨rfl,rfl⟩⟩,fun g hg=>by cases hg⟩;clear FE hu0 hF hu1 kp s1
 go_loopw [8,9,10,11,12,13,14,15,16,17,18,19,32] (fun v8 v9 v10 v11 v12 v13 v14 v15 v16 v17 v18 v19 v32 wr=>∃ (j q:Nat) (F':List Nat) (R:AR) (A:NS) (ao:Option Addr) (co:Nat),j<=n/\v32=.int .i64 (j:Int)/\v8=.slice ao j co/\wE K w wr p F' kd d R A q (.slice ao j co) j (aM (rT kf j))/\Pm n kf R A q j) (fun _ _ _ _ _ _ _ _ _ _ _ _ v32 _=>n-(intOf v32).toNat)
 case atStart=>exact ⟨0,0,F,_,_,none,0,Nat.zero_le _,rfl,rfl,HI.out,HR.out.2.2⟩
 case round=>
  obtain ⟨j,q,F',R,A,ao,co,hj,rfl,rfl,hP,hI⟩:=hrel;rename World=>wr
  by_cases hjn:j<n
  ·have FD:decide ((j:Int)<(n:Int))=true:=ζ;have hjI2:(j:Int)<(n:Int):=ω;obtain ⟨hkb,hrow, -⟩:=HR.out;obtain ⟨g,off,rfl,hg,hc⟩:=hrow j hjn;have hc1:=hP.up.was hc;have hkj:=hkb j hjn;obtain ⟨x,R1,A1,m,R2,A2,y,R3,A3,zh,hT1,e1,hm1,e2,e3,Vw,rE,e4,hr1,CZ,Kl,hH3,hK3⟩:=hI.first hjn hn hkj;have hqj:=hI.qj;have ZB:=hP.put (g:=1) zh (Ag hkj) ω hT1 e1;obtain ⟨t1,ht1⟩:∃t1,(A1.c m).k=t1:=⟨_,rfl⟩;rw [ht1] at hr1 e4;have kE1:∀W F1,wE K w W p F1 kd d R1 A1 (q+1) (.slice ao j co) j (aM (rT kf j))->_:=fun W F1 h=>h.ext (g:=1) hm1 ht1 e2 e3
   have Z6:∀W F1,wE K w W p F1 kd d R2 A2 (q+1) (.slice ao j co) j (aM (rT kf j))->_:=fun W F1 h=>h.put (g:=2) Vw (Ag hr1) ω rE e4;have hb0:w.heap.size<=wr.heap.size:=hP.up.size;rw [show ((1:Nat):Int)=1 from rfl] at ZB kE1;rw [show ((2:Nat):Int)=2 from rfl] at Z6;unfold tn at ZB Z6;rcases Nat.mod_two_eq_zero_or_one j with ho|ho
   ·obtain ⟨m2,R4,A4,x3,R5,A5,hm2,e5,e6,hh3,Ba,e7,hr2,Mo,m3,CX,hmv⟩:=Pm.even CZ hjn ω hn hH3 hK3 ho;obtain ⟨t2,ht2⟩:∃t2,(A3.c m2).k=t2:=⟨_,rfl⟩;rw [ht2] at hr2 e7;obtain ⟨t3,ht3⟩:∃t3,(A5.c m3).k=t3:=⟨_,rfl⟩;rw [ht3] at hmv;have hr3:-9223372036854775808<=t3/\t3<=9223372036854775807:=by rw [←ht3];exact ⟨(Mo.s.ym.key m3).1,(Mo.s.ym.key m3).2.1⟩
    have kE2:∀W F1,wE K w W p F1 kd d R3 A3 (q+1+1) (.slice ao j co) j (aM (rT kf j))->_:=fun W F1 h=>h.ext (g:=2) hm2 ht2 e5 e6;have kI3:∀W F1,wE K w W p F1 kd d R4 A4 (q+1+1) (.slice ao j co) j (aM (rT kf j))->_:=fun W F1 h=>h.put (g:=1) hh3 (Ag hr2) ω Ba e7;have kM:∀W F1,wE K w W p F1 kd d R5 A5 (q+1+1+1) (.slice ao j co) j (aM (rT kf j))->_:=fun W F1 h=>h.min (g:=1) CX ht3;rw [show ((2:Nat):Int)=2 from rfl] at kE2;rw [show ((1:Nat):Int)=1 from rfl] at kI3 kM;unfold tn at kI3;have hpar:(j:Int).tmod 2=0:=by rw [show (j:Int).tmod 2=((j % 2:Nat):Int) from rfl,ho];rfl
    have HQ:=χ (ψ Mo hmv);clear hP hI Mo hmv CZ hH3 hK3 hc hkb hrow hT1 rE Ba e1 e2 e3 e4 e5 e6 e7 hm1 hm2 CX ht1 ht2 ht3 zh Vw hh3 ho;generalize kf j=kj at *
    go_upto_region 15 with (first
     | ((go_at_call 42;(with_reducible refine (lZ kj _ hkj).mono ?_));rintro e wt ⟨rfl,rfl⟩)|((go_at_call 42;(with_reducible refine (lZ t1 _ hr1).mono ?_));rintro e wt ⟨rfl,rfl⟩)|((go_at_call 42;(with_reducible refine (lZ t2 _ hr2).mono ?_));rintro e wt ⟨rfl,rfl⟩)
     | ((go_at_call 40;(with_reducible refine (ZB).mono ?_));rintro e wi ⟨z,rfl,Fi,hI1⟩)|((go_at_call 41;(with_reducible refine (kE1 _ _ hI1).mono ?_));rintro e we ⟨z,rfl,Fe,hE1⟩)|((go_at_call 40;(with_reducible refine (Z6 _ _ (hE1.ae β)).mono ?_));rintro e wi ⟨z,rfl,Fi,hI2⟩)|((go_at_call 41;(with_reducible refine (kE2 _ _ hI2).mono ?_));rintro e we ⟨z,rfl,Fe,hE2⟩)|((go_at_call 40;(with_reducible refine (kI3 _ _ (hE2.ae β)).mono ?_));rintro e wi ⟨z,rfl,Fi,YC⟩)
     | ((go_at_call 43;(with_reducible refine (kM _ _ YC).mono ?_));rintro e we ⟨z,rfl,Fm,hM⟩)
     | fail)
    refine fA (fun W=>∃F6,wE K w W p F6 kd d _ _ (q+1+1+1) (.slice ao j co) j (aM (rT kf j))) ⟨_,hM.ae β⟩ ?_;rintro W ⟨F6,pK⟩;have C8:=pK.own;have hb6:w.heap.size<=W.heap.size:=pK.up.size;have HP:=χ pK;clear pK hM
    go_wp2_with (first|((go_at_call 42;(with_reducible refine (lZ t3 _ hr3).mono ?_));rintro e wt ⟨rfl,rfl⟩)|(at_builtin;refine ak rfl _ _ 24 rfl w.heap.size 2 (.int .i64 0) 1 8 Tryz.underlying24 Cq rfl δ _ _ _ rfl C8 [.int .i64 _] rfl (by simp [Value.oneCell']) (by first|rfl|(rw [Κ];rfl)) μ ω ω ?_;intro v2 w9 Cy jR si;obtain ⟨a9,c9,rfl,ZY⟩:=aR Cy)|fail)
    go_roundw
    case rel=>
     obtain ⟨Mo,hmv⟩:=HQ.out;have pK:=HP.out;have hl6:=pK.pq.lt;refine ⟨j+1,_,F6,_,_,a9,c9,ω,by go_num,rfl,⟨pK.pq.upd jR (fun x hx=>pK.off x (Option.mem_toList.1 hx)),pK.up.own C8 (Θ _) jR,pK.lo,by rw [zS,←hmv,aT];exact Cy,fun g hg=>?_⟩,Mo⟩;rcases si with h|h
     ·rw [h] at hg;exact pK.off g hg
     ·have h9:=h g hg;exact fun hm=>by have:=hl6 g hm;omega
    case measure=>simp [intOf];omega
   ·obtain ⟨Mo,m3,CX,hmv⟩:=Pm.odd CZ ω hH3 hK3 ho;obtain ⟨t3,ht3⟩:∃t3,(A3.c m3).k=t3:=⟨_,rfl⟩;rw [ht3] at hmv;have hr3:-9223372036854775808<=t3/\t3<=9223372036854775807:=by rw [←ht3];exact ⟨(Mo.s.ym.key m3).1,(Mo.s.ym.key m3).2.1⟩
    have kM:∀W F1,wE K w W p F1 kd d R3 A3 (q+1+1) (.slice ao j co) j (aM (rT kf j))->_:=fun W F1 h=>h.min (g:=1) CX ht3;rw [show ((1:Nat):Int)=1 from rfl] at kM;have hpar:(j:Int).tmod 2=1:=by rw [show (j:Int).tmod 2=((j % 2:Nat):Int) from rfl,ho];rfl
    have HQ:=χ (ψ Mo hmv);clear hP hI Mo hmv CZ hH3 hK3 hc hkb hrow hT1 rE e1 e2 e3 e4 hm1 CX ht1 ht3 zh Vw ho;generalize kf j=kj at *
    go_upto_region 15 with (first
     | ((go_at_call 42;(with_reducible refine (lZ kj _ hkj).mono ?_));rintro e wt ⟨rfl,rfl⟩)|((go_at_call 42;(with_reducible refine (lZ t1 _ hr1).mono ?_));rintro e wt ⟨rfl,rfl⟩)
     | ((go_at_call 40;(with_reducible refine (ZB).mono ?_));rintro e wi ⟨z,rfl,Fi,hI1⟩)|((go_at_call 41;(with_reducible refine (kE1 _ _ hI1).mono ?_));rintro e we ⟨z,rfl,Fe,hE1⟩)|((go_at_call 40;(with_reducible refine (Z6 _ _ (hE1.ae β)).mono ?_));rintro e wi ⟨z,rfl,Fi,hI2⟩)
     | ((go_at_call 43;(with_reducible refine (kM _ _ hI2).mono ?_));rintro e we ⟨z,rfl,Fm,hM⟩)
     | fail)
    refine fA (fun W=>∃F6,wE K w W p F6 kd d _ _ (q+1+1) (.slice ao j co) j (aM (rT kf j))) ⟨_,hM.ae β⟩ ?_;rintro W ⟨F6,pK⟩;have C8:=pK.own;have hb6:w.heap.size<=W.heap.size:=pK.up.size;have HP:=χ pK;clear pK hM
    go_wp2_with (first|((go_at_call 42;(with_reducible refine (lZ t3 _ hr3).mono ?_));rintro e wt ⟨rfl,rfl⟩)|(at_builtin;refine ak rfl _ _ 24 rfl w.heap.size 2 (.int .i64 0) 1 8 Tryz.underlying24 Cq rfl δ _ _ _ rfl C8 [.int .i64 _] rfl (by simp [Value.oneCell']) (by first|rfl|(rw [Κ];rfl)) μ ω ω ?_;intro v2 w9 Cy jR si;obtain ⟨a9,c9,rfl,ZY⟩:=aR Cy)|fail)
    go_roundw
    case rel=>
     obtain ⟨Mo,hmv⟩:=HQ.out;have pK:=HP.out;have hl6:=pK.pq.lt;refine ⟨j+1,_,F6,_,_,a9,c9,ω,by go_num,rfl,⟨pK.pq.upd jR (fun x hx=>pK.off x (Option.mem_toList.1 hx)),pK.up.own C8 (Θ _) jR,pK.lo,by rw [zS,←hmv,aT];exact Cy,fun g hg=>?_⟩,Mo⟩;rcases si with h|h
     ·rw [h] at hg;exact pK.off g hg
     ·have h9:=h g hg;exact fun hm=>by have:=hl6 g hm;omega
    case measure=>simp [intOf];omega
  ·obtain rfl:j=n:=ω;have FD:decide ((j:Int)<(j:Int))=false:=σ;have HO:=χ hP;clear hP hI;go_wp2;go_ret2;exact ⟨ao,co,rfl,HO.out.own,HO.out.up⟩
theorem Yi {W:World} {g:Nat} {x y z u:Int} (h0:W.cell? ⟨g,0,none⟩=some (.int .i64 x)) (h1:W.cell? ⟨g,1,none⟩=some (.int .i64 y)) (h2:W.cell? ⟨g,2,none⟩=some (.int .i64 z)) (h3:W.cell? ⟨g,3,none⟩=some (.int .i64 u)):fM W [] (.slice (some ⟨g,0,none⟩) 4 4) [x,y,z,u]:=by
 refine ⟨some ⟨g,0,none⟩,4,rfl,σ,ω,fun j v hj=>⟨g,0,rfl,Ε W _ h0,σ,?_⟩⟩
 match j,hj with
 | 0,hj=>simp at hj;subst hj;exact h0
 | 1,hj=>simp at hj;subst hj;exact h1
 | 2,hj=>simp at hj;subst hj;exact h2
 | 3,hj=>simp at hj;subst hj;exact h3
 | j+4,hj=>simp at hj
theorem slk3 {W:World} {g:Nat} {x y z:Int} (h0:W.cell? ⟨g,0,none⟩=some (.int .i64 x)) (h1:W.cell? ⟨g,1,none⟩=some (.int .i64 y)) (h2:W.cell? ⟨g,2,none⟩=some (.int .i64 z)):fM W [] (.slice (some ⟨g,0,none⟩) 3 3) [x,y,z]:=by
 refine ⟨some ⟨g,0,none⟩,3,rfl,σ,ω,fun j v hj=>⟨g,0,rfl,Ε W _ h0,σ,?_⟩⟩
 match j,hj with
 | 0,hj=>simp at hj;subst hj;exact h0
 | 1,hj=>simp at hj;subst hj;exact h1
 | 2,hj=>simp at hj;subst hj;exact h2
 | j+3,hj=>simp at hj
theorem Uz {W:World} {va:Value} (h:fM W [] va [3,1,2,1]) :
  Calls Tryz.prog 16 #[.agg #[.int .i64 6,.int .i64 0],va] W fun e w'=>∃ao co,e=.returned (.tuple #[.slice ao 4 co,.int .i64 0])/\fM w' [] (.slice ao 4 co) [1,3,2,0]/\aa [] W w':=by
 refine (JU 6 0 va [3,1,2,1] W h δ (by decide +kernel) δ (yV 4 ω)).mono ?_;rintro e w' ⟨ao,co,rfl,ho,hu⟩;have e4:FC (dH (fun i=>[3,1,2,1].getD i 0) 4)=[1,3,2,0]:=by decide +kernel
 refine ⟨ao,co,rfl,?_,hu⟩;have ho':w'.ownsRow W.heap.size 3 1 (.slice ao 4 co) 4 (aM (FC (dH (fun i=>[3,1,2,1].getD i 0) 4))):=ho;rw [e4] at ho';exact fM.fE (xs:=[1,3,2,0]) ho' (fun g hg=>by cases hg)
theorem Zd {W:World} {va:Value} (h:fM W [] va [3,1,2]) :
  Calls Tryz.prog 21 #[.agg #[.int .i64 6,.int .i64 0],va] W fun e w'=>∃g co,e=.returned (.tuple #[.slice (some ⟨g,0,none⟩) 3 co,.int .i64 0])/\w'.cell? ⟨g,0,none⟩=some (.int .i64 3)/\w'.cell? ⟨g,1,none⟩=some (.int .i64 1)/\w'.cell? ⟨g,2,none⟩=some (.int .i64 2)/\aa [] W w':=by
 refine (P8 6 0 va [3,1,2] W h δ (by decide +kernel) δ (yV 3 ω)).mono ?_;rintro e w' ⟨ao,co,rfl,ho,hu⟩;have e4:rT (fun i=>[3,1,2].getD i 0) 3=[3,1,2]:=by decide +kernel
 have ho':w'.ownsRow W.heap.size 2 1 (.slice ao 3 co) 3 (aM (rT (fun i=>[3,1,2].getD i 0) 3)):=ho;rw [e4] at ho';obtain ⟨g,cap,he,_,_,_,_,hc,_⟩:=dM ho' ω;cases he;exact ⟨g,_,rfl,hc 0 _ rfl,hc 1 _ rfl,hc 2 _ rfl,hu⟩
theorem Ew (w:World):Calls Tryz.prog 15 #[] w fun r w'=>r=.returned (.bool true)/\aa [] w w':=by
 go_enter Tryz.func15,Tryz.ntmps15
 go_upto_region 4 with (first
  | ((go_at_call 16;(with_reducible refine (Uz (Yi γ γ γ γ)).mono ?_));rintro e w1 ⟨ao,co,rfl,hS1,hu1⟩;(have q0:w1.cell? ⟨w.heap.size,0,none⟩=some (.int .i64 6):=hu1.was γ);(have q1:w1.cell? ⟨w.heap.size,1,none⟩=some (.int .i64 0):=hu1.was γ);(have hw1:aa [] w w1:=aa.trans β hu1))
  | ((go_at_call 21;(with_reducible refine (Zd (slk3 γ γ γ)).mono ?_));rintro e w2 ⟨g,cm,rfl,c0,c1,c2,hu2⟩)
  | fail)
 have UH:aa [] w1 w2:=aa.trans β hu2;have hS2:=hS1.fresh UH (F':=[]) (fun g hg=>Α hg);have hw2:=hw1.trans UH;have hgl:=Ε w2 _ c0;dsimp only at hgl;have hne:¬g=w2.heap.size:=ω;clear hS1 hu1 hu2 q0 q1 hw1 UH
 go_wp2_with (first
  | ((go_at_call 20;(with_reducible refine (PM _ [] [] _ _ [1,3,2,0] (hS2.fresh β (fun g hg=>Α hg)) (Yi γ γ γ γ)).mono ?_));rintro e w3 ⟨rfl,kk,rfl⟩)
  | fail)
 go_ret;exact ⟨rfl,β⟩
end Go.Proofs.YtklibcncmbofpaaGreat
