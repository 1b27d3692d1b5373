/-
  Lemmas for RankMerges: MgS, MgR, MgC, MgL, RfM, Ris, Mg, Mg2, MgD, Mg3, MgY, MgZ. Conditions: those of each lemma.
-/
import Derived.Deep.RegionHeldLaw
import Derived.Test.YtklibcncmbofpaaGreatB16
set_option linter.all false
set_option maxHeartbeats 8000000
set_option maxRecDepth 10000
namespace Go.Proofs.YtklibcncmbofpaaGreat
open Go Go.RowKit
structure Rx (n:Nat) (R:AR) (A:NS) (q j:Nat):Prop where
 ok:R.Ok
 ym:A.Ok
 lA:A.cs.length=n
 lR:R.sl.length=n
 link:∀x:Nat,R.v x=bP A (x:Int)
 h1:bf A 1=true
 ms:R.most=4294967295
 gn:∀x,R.g x<=q
 fl:∀x,x<R.next->R.v x=true\/x∈R.wait
 ct:R.cnt=j
section
variable {n:Nat} {R:AR} {A:NS} {q j:Nat}
theorem Rx.room (h:Rx n R A q j) (hj:j<n):∃x R',iC R=some (x,R'):=by
 unfold iC;cases hp:lU R with
 | some p=>exact ⟨_,_,rfl⟩
 | none=>
  exfalso;unfold lU at hp;cases hw:R.wait.getLast? with
  | some y=>rw [hw] at hp;cases hp
  | none=>
   rw [hw] at hp;have hw0:R.wait=[]:=List.getLast?_eq_none_iff.1 hw;dsimp only at hp
   split at hp
   ·rename_i hn
    have hc:R.cnt=R.sl.length:=xx _ (fun x hx=>by
     rcases h.fl x ω with h1|h1
     ·exact h1
     ·rw [hw0] at h1;cases h1)
    have:=h.ct;have:=h.lR;omega
   ·cases hp
theorem Rx.put (h:Rx n R A q j) (hq:q+1<=4294967295) {g:Nat} (hg:bf A (g:Int)=true) {k:Int} (hk:-9223372036854775808<=k/\k<=9223372036854775807) {x:Nat} {R':AR} (hT:iC R=some (x,R')) :
  iX A (g:Int) (x:Int)=true/\Rx n R' (au A (g:Int) (x:Int) k ((q:Int)+1)) (q+1) (j+1):=by
 obtain ⟨t1,t2,t3,t4,t5,t6,t7⟩:=lH h.ok hT;have I5:iX A (g:Int) (x:Int)=true:=by
  rw [bV];refine ⟨hg,(dB _ _).2 ⟨ω,by rw [h.lA];have:=h.lR;omega⟩,?_⟩;rw [←h.link];exact t3
 have hh:∀i,bf (au A (g:Int) (x:Int) k ((q:Int)+1)) i=bf A i:=fun i=>by unfold au;rw [Δ I5];rfl
 refine ⟨I5,t1,qR h.ym _ _ _ _ ⟨hk.1,hk.2,ω,ω⟩,by rw [qh];exact h.lA,by rw [t5];simp [h.lR],fun y=>by rw [sU h.ok hT,Ci I5,h.link],by rw [hh];exact h.h1,t6.trans h.ms,fun y=>?_,Al h.ok hT h.fl,by rw [t7,h.ct]⟩;have e:R'.g y=(R.put x (R.g x+1,true)).g y:=by
  show (R'.sl.getD y (0,false)).1=((R.sl.set x (R.g x+1,true)).getD y (0,false)).1
  rw [t5]
 rw [e,AR.mP];have h1:=h.gn x;have h2:=h.gn y
 split
 ·show R.g x+1<=q+1;omega
 ·omega
theorem Rx.give (h:Rx n R A q (j+1)) (hq:q<4294967295) {g:Int} (hg:0<g) {m:Nat} (hm:bu A g=some m):R.v m=true/\bP A (m:Int)=true/\(A.c m).i=g/\Rx n (dY R m) (aL A (m:Int)) q j:=by
 have hf:=(dD hg).1 hm;have hin:bP A (m:Int)=true:=(aj _ _).2 ⟨hf.1,by rw [hf.2.1];exact hg⟩;have hv:R.v m=true:=by rw [h.link];exact hin
 have hgo:=tX h.ok hv;have eg:∀z,(dY R m).g z=R.g z:=fun z=>by
  show (R.put m (R.g m,false)).g z=_
  rw [AR.mP]
  split
  ·rename_i e;rw [e.1]
  ·rfl
 refine ⟨hv,hin,hf.2.1,hgo.1,tV h.ym _,by rw [cK];exact h.lA,by rw [qU];exact h.lR,fun y=>by rw [oW hv,xe hin,h.link],by unfold bf;rw [fJ];exact h.h1,h.ms,fun y=>by rw [eg];exact h.gn y,fun y hy=>?_,by have:=hgo.2;have:=h.ct;omega⟩;rw [oW hv];have hw:(dY R m).wait=R.wait++[m]:=by
  show (if R.g m<R.most then R.wait++[m] else R.wait)=_
  rw [Δ (by have:=h.gn m;rw [h.ms];omega)]
 rw [hw]
 by_cases e:y=m
 ·subst e;exact Β σ
 ·rcases h.fl y hy with h1|h1
  ·exact Α (by rw [h1];simp [e])
  ·exact Β (by simp [h1])
end
def zk (Z:List (List Int)) (p:Pl):Int:=(Z.getD p.1 []).getD p.2 0
def zl (Z:List (List Int)) (l:Nat):Nat:=(Z.getD l []).length
def iW:List (List Int)->(Nat->Bool)->Nat
 | [],_=>0
 | _::r,P=>(if P 0 then 1 else 0)+iW r (fun i=>P (i+1))
theorem BX:∀ (Z:List (List Int)) (P:Nat->Bool),(∀i,i<Z.length->P i=true->0<zl Z i)->iW Z P<=bJ Z
 | [],_,_=>by simp [iW,bJ]
 | l::r,P,h=>by
  have e:bJ (l::r)=l.length+bJ r:=by simp [bJ]
  have h1:=BX r (fun i=>P (i+1)) (fun i hi hp=>by
   have:=h (i+1) (by simpa using hi) hp
   simpa [zl] using this)
  rw [e];unfold iW
  split
  ·rename_i hp
   have:=h 0 σ hp;simp [zl] at this;omega
  ·omega
theorem iD:∀ (Z:List (List Int)) (P Q:Nat->Bool),(∀i,i<Z.length->P i=Q i)->iW Z P=iW Z Q
 | [],_,_,_=>rfl
 | l::r,P,Q,h=>by
  unfold iW;rw [h 0 σ,iD r _ (fun i=>Q (i+1)) (fun i hi=>h (i+1) (by simpa using hi))]
theorem lW:∀ (Z:List (List Int)) (P:Nat->Bool) (l:Nat),l<Z.length->P l=false->iW Z (fun i=>if i=l then true else P i)=iW Z P+1
 | [],_,l,h,_=>by simp at h
 | x::r,P,0,_,hp=>by
  unfold iW;rw [Δ σ,hp,iD r (fun i=>if i+1=0 then true else P (i+1)) (fun i=>P (i+1)) (fun i _=>by rw [Γ ω])];simp;omega
 | x::r,P,l+1,h,hp=>by
  unfold iW;have h1:=lW r (fun i=>P (i+1)) l (by simpa using h) hp;rw [iD r (fun i=>if i+1=l+1 then true else P (i+1)) (fun i=>if i=l then true else P (i+1)) (fun i _=>σ),h1,show ((fun i=>if i=l+1 then true else P i) 0)=P 0 from Γ ω];omega
theorem QR {A:NS} {h x:Nat} {k s:Int} (hB:iX A h x=true) (y:Nat):(au A h x k s).c y=if y=x then ⟨h,k,s⟩ else A.c y:=by
 obtain ⟨b1,b2,b3⟩:=(bV _ _ _).1 hB;have hx:x<A.cs.length:=by have:=(dB _ _).1 b2;omega
 unfold au;rw [Δ hB,π,iy]
 by_cases e:y=x
 ·rw [Δ ⟨e,hx⟩,Δ e]
 ·rw [Γ (fun h=>e h.1),Γ e]
theorem Pf {R R':AR} {x:Nat} (ok:R.Ok) (hT:iC R=some (x,R')) (y:Nat):R'.g y=if y=x then R.g x+1 else R.g y:=by
 obtain ⟨t1,t2,t3,t4,t5,t6,t7⟩:=lH ok hT;have e:R'.g y=(R.put x (R.g x+1,true)).g y:=by
  show (R'.sl.getD y (0,false)).1=((R.sl.set x (R.g x+1,true)).getD y (0,false)).1
  rw [t5]
 rw [e,AR.mP]
 by_cases h:y=x
 ·rw [Δ ⟨h,t2⟩,Δ h]
 ·rw [Γ (fun e=>h e.1),Γ h]
theorem U4 {R:AR} {m:Nat} (y:Nat):(dY R m).g y=R.g y:=by
 show (R.put m (R.g m,false)).g y=_
 rw [AR.mP]
 split
 ·rename_i e;rw [e.1]
 ·rfl
structure tJ (Z:List (List Int)) (R:AR) (A:NS) (q:Nat) (f:Int->Int->Option Pl) (pos:Nat->Nat) (hp:Nat->Option Nat):Prop where
 s:Rx (bJ Z) R A q (iW Z (fun l=>(hp l).isSome))
 a:∀l x,hp l=some x->l<Z.length/\pos l<zl Z l/\R.v x=true/\(A.c x).i=1/\(A.c x).k=zk Z (l,pos l)/\f x (R.g x:Int)=some (l,pos l)
 b:∀x,R.v x=true->∃l,hp l=some x
section
variable {Z:List (List Int)} {R:AR} {A:NS} {q:Nat} {f:Int->Int->Option Pl} {pos:Nat->Nat} {hp:Nat->Option Nat}
theorem tJ.inj (h:tJ Z R A q f pos hp) {l l' x:Nat} (h1:hp l=some x) (h2:hp l'=some x):l=l':=by
 have e1:=(h.a l x h1).2.2.2.2.2;have e2:=(h.a l' x h2).2.2.2.2.2;rw [e1] at e2;simp at e2;exact e2.1
theorem tJ.push (h:tJ Z R A q f pos hp) {l:Nat} (hl:l<Z.length) (h0:hp l=none) (hk:pos l<zl Z l) (hq:q+1<=4294967295) (hb:-9223372036854775808<=zk Z (l,pos l)/\zk Z (l,pos l)<=9223372036854775807) :
  ∃ (x:Nat) (R':AR),iC R=some (x,R')/\iX A 1 (x:Int)=true/\tJ Z R' (au A 1 (x:Int) (zk Z (l,pos l)) ((q:Int)+1)) (q+1) (fun y e=>if y=(x:Int)/\e=(R'.g x:Int) then some (l,pos l) else f y e) pos (fun i=>if i=l then some x else hp i):=by
 have hroom:iW Z (fun l=>(hp l).isSome)<bJ Z:=by
  have h1:=lW Z (fun l=>(hp l).isSome) l hl (by simp [h0])
  have h2:=BX Z (fun i=>if i=l then true else (hp i).isSome) (fun i hi hp'=>by
   by_cases e:i=l
   ·rw [e];omega
   ·rw [Γ e] at hp';obtain ⟨x,hx⟩:=Option.isSome_iff_exists.1 hp';have:=(h.a i x hx).2.1
    omega)
  omega
 obtain ⟨x,R',hT⟩:=h.s.room hroom;obtain ⟨hB,hs⟩:=h.s.put hq (g:=1) h.s.h1 hb hT;have ok:=lH h.s.ok hT;have hv0:R.v x=false:=ok.2.2.1;have hg:=Pf h.s.ok hT;have hv:=sU h.s.ok hT;have hc:=fun y=>QR (A:=A) (h:=1) (x:=x) (k:=zk Z (l,pos l)) (s:=(q:Int)+1) hB y;have hcn:iW Z (fun i=>(if i=l then some x else hp i).isSome)=iW Z (fun l=>(hp l).isSome)+1:=by
  rw [←lW Z (fun l=>(hp l).isSome) l hl (by simp [h0])];exact iD Z _ _ (fun i _=>by split<;>simp_all)
 refine ⟨x,R',hT,hB,⟨by rw [hcn];exact hs,fun i y hy=>?_,fun y hy=>?_⟩⟩
 ·by_cases e:i=l
  ·subst e
   replace hy:(if i=i then some x else hp i)=some y:=hy
   rw [Δ rfl] at hy;cases hy;refine ⟨hl,hk,by rw [hv];simp,?_,?_,?_⟩
   ·have:=hc x;rw [Δ rfl] at this;exact congrArg Cl.i this
   ·have:=hc x;rw [Δ rfl] at this;exact congrArg Cl.k this
   ·exact Δ ⟨rfl,rfl⟩
  ·replace hy:(if i=l then some x else hp i)=some y:=hy
   rw [Γ e] at hy;obtain ⟨a1,a2,a3,a4,a5,a6⟩:=h.a i y hy;have hne:y≠x:=fun e=>by rw [e,hv0] at a3;cases a3
   have hcy:=hc y;rw [Γ hne] at hcy;refine ⟨a1,a2,by rw [hv,a3];rfl,?_,?_,?_⟩
   ·exact (congrArg Cl.i hcy).trans a4
   ·exact (congrArg Cl.k hcy).trans a5
   ·show (if (y:Int)=(x:Int)/\_ then _ else _)=_
    rw [Γ (fun e=>hne (by have:=e.1;omega)),hg,Γ hne];exact a6
 ·rw [hv] at hy
  by_cases e:y=x
  ·exact ⟨l,by show (if l=l then some x else hp l)=_;rw [Δ rfl,e]⟩
  ·have hy':R.v y=true:=by
    have e':¬ ((y:Int)=(x:Int)):=ω;simpa [e'] using hy
   obtain ⟨i,hi⟩:=h.b y hy';refine ⟨i,?_⟩
   show (if i=l then some x else hp i)=_
   rw [Γ (fun e2=>by rw [e2,h0] at hi;cases hi)];exact hi
theorem tJ.pop (h:tJ Z R A q f pos hp) (hq:q<4294967295) {m:Nat} (hm:bu A 1=some m) :
  ∃l,hp l=some m/\(∀l' x,hp l'=some x->zk Z (l,pos l)<=zk Z (l',pos l'))/\∀pos',(∀i,i≠l->pos' i=pos i)->tJ Z (dY R m) (aL A (m:Int)) q f pos' (fun i=>if i=l then none else hp i):=by
 have hf:=(dD δ).1 hm;have hin:bP A (m:Int)=true:=(aj _ _).2 ⟨hf.1,by rw [hf.2.1];decide⟩;have hv:R.v m=true:=by rw [h.s.link];exact hin
 obtain ⟨l,hl⟩:=h.b m hv;obtain ⟨a1,a2,a3,a4,a5,a6⟩:=h.a l m hl;have hcn:iW Z (fun l=>(hp l).isSome)=iW Z (fun i=>(if i=l then none else hp i).isSome)+1:=by
  rw [←lW Z (fun i=>(if i=l then (none:Option Nat) else hp i).isSome) l a1 σ];refine iD Z _ _ (fun i _=>?_)
  by_cases e:i=l
  ·subst e;simp [hl]
  ·simp [e]
 have hs:=h.s;rw [hcn] at hs;obtain ⟨g1,g2,g3,g4⟩:=hs.give hq δ hm;refine ⟨l,hl,fun l' x hx=>?_,fun pos' hpos=>⟨g4,fun i y hy=>?_,fun y hy=>?_⟩⟩
 ·obtain ⟨b1,b2,b3,b4,b5,b6⟩:=h.a l' x hx;have hxl:x<A.cs.length:=by
   have:bP A (x:Int)=true:=by rw [←h.s.link];exact b3
   exact ((aj _ _).1 this).1
  rcases hf.2.2 x hxl b4 with e|e
  ·rw [←a5,←b5,e];omega
  ·rw [←a5,←b5];unfold eB at e;omega
 ·replace hy:(if i=l then none else hp i)=some y:=hy
  by_cases e:i=l
  ·rw [Δ e] at hy;cases hy
  ·rw [Γ e] at hy;obtain ⟨b1,b2,b3,b4,b5,b6⟩:=h.a i y hy;have hne:y≠m:=fun e2=>e (h.inj hy (by rw [e2];exact hl));rw [hpos i e,U4];have hcy:=pO hin y;rw [Γ hne] at hcy;exact ⟨b1,b2,by rw [oW hv,b3];simp [hne],by rw [hcy];exact b4,by rw [hcy];exact b5,b6⟩
 ·rw [oW hv] at hy;simp at hy;obtain ⟨i,hi⟩:=h.b y hy.1;refine ⟨i,?_⟩
  show (if i=l then none else hp i)=_
  rw [Γ (fun e=>by rw [e,hl] at hi;simp at hi;exact hy.2 hi.symm)];exact hi
theorem tJ.none (h:tJ Z R A q f pos hp) (hm:bu A 1=Option.none) (l:Nat):hp l=Option.none:=by
 cases e:hp l with
 | none=>rfl
 | some x=>
  obtain ⟨b1,b2,b3,b4,b5,b6⟩:=h.a l x e;have hin:bP A (x:Int)=true:=by rw [←h.s.link];exact b3
  have h0:=(iI δ).1 hm;have:0<dA A 1:=dL.2 ⟨x,((aj _ _).1 hin).1,b4,δ⟩;omega
end
def UX (Z:List (List Int)) (p q:Pl):Prop:=zk Z p<zk Z q\/(zk Z p=zk Z q/\DR p q)
theorem LY {Z:List (List Int)} {p q:Pl} (h:UX Z p q) (k:UX Z q p):p=q:=by
 unfold UX DR at *;exfalso;omega
theorem Gh {Z:List (List Int)} {a b:List Pl} (ha:a.Pairwise (UX Z)) (hb:b.Pairwise (UX Z)) (h:a.Perm b):a=b:=
 List.Perm.eq_of_pairwise (fun x y _ _ h1 h2=>LY h1 h2) ha hb h
structure BS (Z:List (List Int)) (jE:Int) (fO pos:Nat->Nat) (hp:Nat->Option Nat) (ex:Nat) (Q:List Pl):Prop where
 nd:Q.Nodup
 mem:∀p:Pl,p∈Q↔p.1<Z.length/\fO p.1<=p.2/\p.2<pos p.1
 key:∀p,p∈Q->zk Z p=jE
 le:∀l,l<Z.length->fO l<=pos l/\pos l<=zl Z l
 full:∀l,l<Z.length->pos l<zl Z l->l≠ex->hp l≠none
 low:∀l,l<Z.length->pos l<zl Z l->jE<=zk Z (l,pos l)
structure SS (Z:List (List Int)) (pos:Nat->Nat) (O:List Pl):Prop where
 nd:O.Nodup
 mem:∀p:Pl,p∈O↔p.1<Z.length/\p.2<pos p.1
 srt:O.Pairwise (UX Z)
 lt:∀p,p∈O->∀l,l<Z.length->pos l<zl Z l->zk Z p<zk Z (l,pos l)
theorem SS.add {Z:List (List Int)} {jE:Int} {fO pos:Nat->Nat} {hp:Nat->Option Nat} {ex:Nat} {O Q C:List Pl} (h:SS Z fO O) (r:BS Z jE fO pos hp ex Q) (hC:C.Perm Q) (sC:eY C) (hk:∀l,l<Z.length->pos l<zl Z l->jE<zk Z (l,pos l)):SS Z pos (O++C):=by
 have Yn:∀p,p∈C↔p∈Q:=fun p=>hC.mem_iff;have hOk:∀p,p∈O->∀q,q∈C->zk Z p<zk Z q:=fun p hp q hq=>by
  have hq':=(Yn q).1 hq;obtain ⟨h1,h2,h3⟩:=(r.mem q).1 hq';have h4:=(r.le q.1 h1).2;have h5:=r.le q.1 h1;have h6:=h.lt p hp q.1 h1 ω;have h7:zk Z (q.1,fO q.1)=jE:=r.key (q.1,fO q.1) ((r.mem _).2 ⟨h1,Θ _,by show fO q.1<pos q.1;omega⟩);rw [r.key q hq',←h7];exact h6
 refine ⟨?_,fun p=>?_,?_,fun p hp l hl hpos=>?_⟩
 ·refine θ.2 ⟨h.nd,hC.nodup_iff.2 r.nd,fun a ha b hb e=>?_⟩;have:=hOk a ha b hb;rw [e] at this;omega
 ·rw [τ,h.mem,Yn,r.mem];constructor
  ·rintro (⟨h1,h2⟩|⟨h1,h2,h3⟩)
   ·have:=r.le p.1 h1;exact ⟨h1,ω⟩
   ·exact ⟨h1,h3⟩
  ·rintro ⟨h1,h2⟩
   by_cases e:p.2<fO p.1
   ·exact Α ⟨h1,e⟩
   ·exact Β ⟨h1,ω,h2⟩
 ·refine List.pairwise_append.2 ⟨h.srt,?_,fun a ha b hb=>Α (hOk a ha b hb)⟩;have hnd:C.Nodup:=hC.nodup_iff.2 r.nd;refine (List.Pairwise.and sC hnd).imp_of_mem ?_;rintro a b ha hb ⟨h1,h2⟩;refine Β ⟨by rw [r.key a ((Yn a).1 ha),r.key b ((Yn b).1 hb)],?_⟩;unfold mo at h1;unfold DR;rcases h1 with h1|⟨h1,h3⟩
  ·exact Α h1
  ·refine Β ⟨h1,?_⟩;have:a.2≠b.2:=fun e=>h2 (Prod.ext h1 e);omega
 ·rcases τ.1 hp with hp|hp
  ·have h1:=r.le l hl;have h2:=h.lt p hp l hl ω
   by_cases e:pos l=fO l
   ·rw [e];exact h2
   ·have h3:zk Z (l,fO l)=jE:=r.key (l,fO l) ((r.mem _).2 ⟨hl,Θ _,by show fO l<pos l;omega⟩);have h4:=hk l hl hpos;omega
  ·rw [r.key p ((Yn p).1 hp)];exact hk l hl hpos
def yT (Z:List (List Int)):Prop:=∀l k,l<Z.length->k+1<zl Z l->zk Z (l,k)<=zk Z (l,k+1)
section
variable {Z:List (List Int)} {jE:Int} {fO pos:Nat->Nat} {hp:Nat->Option Nat} {ex:Nat} {Q:List Pl}
def iP (pos:Nat->Nat) (l:Nat) (i:Nat):Nat:=if i=l then pos l+1 else pos i
theorem BS.start {pos:Nat->Nat} (hle:∀l,l<Z.length->pos l<=zl Z l) (hfull:∀l,l<Z.length->pos l<zl Z l->hp l≠none) (hlow:∀l,l<Z.length->pos l<zl Z l->jE<=zk Z (l,pos l)):BS Z jE pos pos hp Z.length []:=
 ⟨ϧ,fun p=>⟨fun h=>by (cases h),fun h=>ω⟩,fun p h=>by (cases h),fun l hl=>⟨Θ _,hle l hl⟩,fun l hl h _=>hfull l hl h,hlow⟩
theorem BS.add (r:BS Z jE fO pos hp ex Q) (hz:yT Z) (hl:ex<Z.length) (hlt:pos ex<zl Z ex) (hk:zk Z (ex,pos ex)=jE):BS Z jE fO (iP pos ex) hp ex (Q++[(ex,pos ex)]):=by
 have h0:=r.le ex hl;refine ⟨?_,fun p=>?_,fun p hp'=>?_,fun l hl'=>?_,fun l hl' h hne=>?_,fun l hl' h=>?_⟩
 ·refine θ.2 ⟨r.nd,List.nodup_cons.2 ⟨σ,ϧ⟩,fun a ha b hb e=>?_⟩;simp at hb;rw [e,hb] at ha;have:=((r.mem _).1 ha).2.2;dsimp only at this;omega
 ·rw [τ,r.mem,ϔ];unfold iP;constructor
  ·rintro (⟨h1,h2,h3⟩|rfl)
   ·refine ⟨h1,h2,?_⟩
    split
    ·rename_i e;rw [←e];omega
    ·exact h3
   ·exact ⟨hl,h0.1,σ⟩
  ·rintro ⟨h1,h2,h3⟩
   by_cases e:p.1=ex
   ·rw [Δ e] at h3
    by_cases e2:p.2=pos ex
    ·exact Β (Prod.ext e e2)
    ·exact Α ⟨h1,h2,by rw [e];omega⟩
   ·rw [Γ e] at h3;exact Α ⟨h1,h2,h3⟩
 ·rcases τ.1 hp' with h|h
  ·exact r.key p h
  ·rw [List.mem_singleton.1 h];exact hk
 ·unfold iP;have:=r.le l hl'
  split
  ·rename_i e;subst e;omega
  ·exact this
 ·unfold iP at h;rw [Γ hne] at h;exact r.full l hl' h hne
 ·unfold iP at h ⊢
  by_cases e:l=ex
  ·subst e;rw [Δ rfl] at h ⊢;have:=hz l (pos l) hl h;omega
  ·rw [Γ e] at h ⊢;exact r.low l hl' h
theorem BS.out (r:BS Z jE fO pos hp Z.length Q) (l:Nat):BS Z jE fO pos (fun i=>if i=l then none else hp i) l Q:=
 ⟨r.nd,r.mem,r.key,r.le,fun i hi h hne=>by rw [Γ hne];exact r.full i hi h ω,r.low⟩
theorem BS.back (r:BS Z jE fO pos hp ex Q) {hp':Nat->Option Nat} (h1:∀i,i≠ex->hp' i=hp i) (h2:pos ex<zl Z ex->hp' ex≠none):BS Z jE fO pos hp' Z.length Q:=
 ⟨r.nd,r.mem,r.key,r.le,fun i hi h _=>by
  by_cases e:i=ex
  ·subst e;exact h2 h
  ·rw [h1 i e];exact r.full i hi h e,r.low⟩
end
def jw:List (List Int)->(Nat->Nat)->Nat
 | [],_=>0
 | _::r,P=>P 0+jw r (fun i=>P (i+1))
theorem tq:∀ (Z:List (List Int)) (P Q:Nat->Nat),(∀i,i<Z.length->P i=Q i)->jw Z P=jw Z Q
 | [],_,_,_=>rfl
 | l::r,P,Q,h=>by
  unfold jw;rw [h 0 σ,tq r _ (fun i=>Q (i+1)) (fun i hi=>h (i+1) (by simpa using hi))]
theorem Ak (Z:List (List Int)):jw Z (fun _=>0)=0:=by
 induction Z with
 | nil=>rfl
 | cons l r ih=>unfold jw;rw [ih]
theorem zX:∀ (Z:List (List Int)) (P:Nat->Nat) (l:Nat),l<Z.length->jw Z (iP P l)=jw Z P+1
 | [],P,l,h=>by simp at h
 | x::r,P,0,_=>by
  unfold jw;rw [tq r (fun i=>iP P 0 (i+1)) (fun i=>P (i+1)) (fun i _=>by unfold iP;rw [Γ ω])];unfold iP;rw [Δ rfl];omega
 | x::r,P,l+1,h=>by
  unfold jw;have h1:=zX r (fun i=>P (i+1)) l (by simpa using h);rw [tq r (fun i=>iP P (l+1) (i+1)) (iP (fun i=>P (i+1)) l) (fun i _=>by unfold iP;simp),h1,show iP P (l+1) 0=P 0 by unfold iP;rw [Γ ω]];omega
theorem ui:∀ (Z:List (List Int)) (P:Nat->Nat),(∀i,i<Z.length->P i<=zl Z i)->jw Z P<=bJ Z
 | [],_,_=>by simp [jw,bJ]
 | l::r,P,h=>by
  have e:bJ (l::r)=l.length+bJ r:=by simp [bJ]
  have h1:=ui r (fun i=>P (i+1)) (fun i hi=>by
   have:=h (i+1) (by simpa using hi)
   simpa [zl] using this)
  have h0:=h 0 σ;simp [zl] at h0;rw [e];unfold jw;omega
theorem LZ (Z:List (List Int)):iW Z (fun _=>false)=0:=by
 induction Z with
 | nil=>rfl
 | cons l r ih=>unfold iW;rw [ih];rfl
section
variable {Z:List (List Int)} {R:AR} {A:NS} {q:Nat} {f:Int->Int->Option Pl} {pos:Nat->Nat} {hp:Nat->Option Nat}
theorem tJ.QN (h:tJ Z R A q f pos hp) {l x:Nat} (h0:hp l=some x) (hl:l<Z.length):iW Z (fun i=>(hp i).isSome)=iW Z (fun i=>(if i=l then Option.none else hp i).isSome)+1:=by
 rw [←lW Z (fun i=>(if i=l then (Option.none:Option Nat) else hp i).isSome) l hl σ];refine iD Z _ _ (fun i _=>?_)
 by_cases e:i=l
 ·subst e;simp [h0]
 ·simp [e]
theorem tJ.Nk (h:tJ Z R A q f pos hp):iW Z (fun i=>(hp i).isSome)<=bJ Z:=
 BX Z _ (fun i hi hp'=>by
  obtain ⟨x,hx⟩:=Option.isSome_iff_exists.1 hp';have:=(h.a i x hx).2.1
  omega)
theorem tJ.first (h:tJ Z R A q f pos hp) {m:Nat} (hm:bu A 1=some m) :
  ∃l,hp l=some m/\l<Z.length/\pos l<zl Z l/\R.v m=true/\(A.c m).k=zk Z (l,pos l)/\f m (R.g m:Int)=some (l,pos l)/\∀l' x,hp l'=some x->zk Z (l,pos l)<=zk Z (l',pos l'):=by
 have hf:=(dD δ).1 hm;have hin:bP A (m:Int)=true:=(aj _ _).2 ⟨hf.1,by rw [hf.2.1];decide⟩;have hv:R.v m=true:=by rw [h.s.link];exact hin
 obtain ⟨l,hl⟩:=h.b m hv;obtain ⟨a1,a2,a3,a4,a5,a6⟩:=h.a l m hl;refine ⟨l,hl,a1,a2,hv,a5,a6,fun l' x hx=>?_⟩;obtain ⟨b1,b2,b3,b4,b5,b6⟩:=h.a l' x hx;have hxl:x<A.cs.length:=by
  have:bP A (x:Int)=true:=by rw [←h.s.link];exact b3
  exact ((aj _ _).1 this).1
 rcases hf.2.2 x hxl b4 with e|e
 ·rw [←a5,←b5,e];omega
 ·rw [←a5,←b5];unfold eB at e;omega
theorem tJ.pop' (h:tJ Z R A q f pos hp) (hq:q<4294967295) {m l:Nat} (hm:bu A 1=some m) (hl:hp l=some m) {pos':Nat->Nat} (hpos:∀i,i≠l->pos' i=pos i):tJ Z (dY R m) (aL A (m:Int)) q f pos' (fun i=>if i=l then Option.none else hp i):=by
 obtain ⟨l',h1,_,h2⟩:=h.pop hq hm;cases h.inj h1 hl;exact h2 pos' hpos
end
section
variable {Z:List (List Int)} {R:AR} {A:NS} {q:Nat} {f:Int->Int->Option Pl} {fO pos:Nat->Nat} {hp:Nat->Option Nat} {jE:Int} {Q:List Pl}
theorem BS.Lj (r:BS Z jE fO pos hp Z.length Q) (h:tJ Z R A q f pos hp) (hm:bu A 1=none):∀l,l<Z.length->pos l<zl Z l->jE<zk Z (l,pos l):=fun l hl hlt=>
 absurd (h.none hm l) (r.full l hl hlt ω)
theorem BS.Kn (r:BS Z jE fO pos hp Z.length Q) (h:tJ Z R A q f pos hp) {m:Nat} (hm:bu A 1=some m) (hk:(A.c m).k≠jE):∀l,l<Z.length->pos l<zl Z l->jE<zk Z (l,pos l):=fun l hl hlt=>by
 obtain ⟨l0,h1,h2,h3,_,h4,_,h5⟩:=h.first hm;obtain ⟨x,hx⟩:=Option.ne_none_iff_exists'.1 (r.full l hl hlt ω);have e1:=h5 l x hx;have e2:=r.low l0 h2 h3;rw [h4] at hk;omega
end
theorem EG:∀ (Z:List (List Int)) (l:Nat),l<Z.length->zl Z l<=bJ Z
 | [],l,h=>by simp at h
 | x::r,0,_=>by
  have e:bJ (x::r)=x.length+bJ r:=by simp [bJ]
  rw [e]
  show x.length<=_
  omega
 | x::r,l+1,h=>by
  have e:bJ (x::r)=x.length+bJ r:=by simp [bJ]
  have h1:=EG r l (by simpa using h);have e2:zl (x::r) (l+1)=zl r l:=by simp [zl]
  omega
structure Mc (Z:List (List Int)) (jE:Int) (fO:Nat->Nat) (A:NS) (q c:Nat) (pos:Nat->Nat) (hp:Nat->Option Nat) (n:Nat) (Q:List Pl):Prop where
 r:BS Z jE fO pos hp Z.length Q
 hq:q<=jw Z pos+iW Z (fun i=>(hp i).isSome)
 hc:c<=q
 hl:Q.length=n
 hs:n+jw Z fO=jw Z pos
 z:n=0->∃x,bu A 1=some x/\(A.c x).k=jE
structure Pj (Z:List (List Int)) (jE:Int) (fO uN:Nat->Nat) (q c l:Nat) (pos:Nat->Nat) (hp:Nat->Option Nat) (n:Nat) (Q:List Pl):Prop where
 r:BS Z jE fO pos hp l Q
 b:∀i,i≠l->pos i=uN i
 lo:uN l<=pos l
 hq:q<=jw Z uN+iW Z (fun i=>(hp i).isSome)+1
 hc:c<=q
 hl:Q.length=n
 hs:n+jw Z fO=jw Z pos
 t:jw Z pos+uN l=jw Z uN+pos l
 s0:jw Z fO<=jw Z uN
section
variable {Z:List (List Int)} {jE:Int} {fO uN:Nat->Nat} {A:NS} {q c l:Nat} {pos:Nat->Nat} {hp:Nat->Option Nat} {n:Nat} {Q:List Pl}
theorem Mc.out {R:AR} {f:Int->Int->Option Pl} (h:Mc Z jE fO A q c pos hp n Q) (hi:tJ Z R A q f pos hp) {x:Nat} (hl:hp l=some x) (Zm:l<Z.length):Pj Z jE fO pos q c l pos (fun i=>if i=l then none else hp i) n Q:=
 ⟨h.r.out l,fun i _=>rfl,Θ _,by have:=h.hq;have:=hi.QN hl Zm;omega,h.hc,h.hl,h.hs,rfl,by have:=h.hs;omega⟩
theorem Pj.add (h:Pj Z jE fO uN q c l pos hp n Q) (hz:yT Z) (hl:l<Z.length) (hlt:pos l<zl Z l) (hk:zk Z (l,pos l)=jE):Pj Z jE fO uN q c l (iP pos l) hp (n+1) (Q++[(l,pos l)]):=by
 have h1:iP pos l l=pos l+1:=by unfold iP;rw [Δ rfl]
 have h2:=zX Z pos l hl;have h3:=h.lo;have h4:=h.hs;have h5:=h.t;exact ⟨h.r.add hz hl hlt hk,fun i hi=>by unfold iP;rw [Γ hi];exact h.b i hi,ω,h.hq,h.hc,by simp [h.hl],ω,ω,h.s0⟩
theorem Pj.le (h:Pj Z jE fO uN q c l pos hp n Q):n<=bJ Z:=by
 have h1:=ui Z pos (fun i hi=>(h.r.le i hi).2);have:=h.hs;omega
theorem Mc.le (h:Mc Z jE fO A q c pos hp n Q):n<=bJ Z:=by
 have h1:=ui Z pos (fun i hi=>(h.r.le i hi).2);have:=h.hs;omega
theorem Pj.Y3 (h:Pj Z jE fO uN q c l pos hp n Q) (hB:uN l<pos l) (hn:zl Z l<=pos l):Mc Z jE fO A q c pos hp n Q:=by
 have h5:=h.t;have h4:=h.hq;have h6:=h.hs;have h7:=h.s0;exact ⟨h.r.back (fun i _=>rfl) (fun e=>ω),ω,h.hc,h.hl,h6,fun e=>ω⟩
theorem Pj.Zg (h:Pj Z jE fO uN q c l pos hp n Q) (hB:uN l<pos l) (hl:l<Z.length) (h0:hp l=none) (x:Nat):Mc Z jE fO A (q+1) (c+1) pos (fun i=>if i=l then some x else hp i) n Q:=by
 have h5:=h.t;have h4:=h.hq;have h6:=h.hs;have h7:=h.s0;have h8:=h.hc;have hc:iW Z (fun i=>(if i=l then some x else hp i).isSome)=iW Z (fun i=>(hp i).isSome)+1:=by
  rw [←lW Z (fun l=>(hp l).isSome) l hl (by simp [h0])];exact iD Z _ _ (fun i _=>by split<;>simp_all)
 exact ⟨h.r.back (fun i hi=>by show (if i=l then some x else hp i)=_;rw [Γ hi]) (fun _=>by show (if l=l then some x else hp l)≠none;rw [Δ rfl];simp),by rw [hc];omega,by omega,h.hl,h6,fun e=>by omega⟩
theorem Mc.qle {R:AR} {f:Int->Int->Option Pl} (h:Mc Z jE fO A q c pos hp n Q) (hi:tJ Z R A q f pos hp) (hT:bJ Z<=65536):q<=131072:=by
 have h1:=ui Z pos (fun i hi=>(h.r.le i hi).2);have h2:=hi.Nk;have:=h.hq;omega
theorem Mc.small (h:Mc Z jE fO A q c pos hp n Q) (hN:Z.length<=65536) (hT:bJ Z<=65536):∀p,p∈Q->p.1<1000000/\p.2<1000000:=fun p hp=>by
 obtain ⟨h1,h2,h3⟩:=(h.r.mem p).1 hp;have h4:=(h.r.le p.1 h1).2;have h5:=EG Z p.1 h1;omega
end
def gW (Z:List (List Int)) (i:Nat):List Pl:=(List.range i).flatMap (fun l=>(List.range (zl Z l)).map (fun k=>(l,k)))
theorem nQ (Z:List (List Int)) (i:Nat):gW Z (i+1)=gW Z i++(List.range (zl Z i)).map (fun k=>(i,k)):=by
 unfold gW;rw [List.range_succ,List.flatMap_append];simp
theorem Dy {Z:List (List Int)} {i:Nat} {p:Pl}:p∈gW Z i↔p.1<i/\p.2<zl Z p.1:=by
 unfold gW;simp only [List.mem_flatMap,List.mem_range,List.mem_map];constructor
 ·rintro ⟨l,hl,k,hk,rfl⟩;exact ⟨hl,hk⟩
 ·rintro ⟨h1,h2⟩;exact ⟨p.1,h1,p.2,h2,rfl⟩
theorem Mh (i:Nat):∀n,((List.range n).map (fun k=>((i,k):Pl))).Pairwise DR:=fun n=>by
 rw [List.pairwise_map];exact (List.pairwise_lt_range).imp (fun h=>Β ⟨rfl,h⟩)
theorem xA (Z:List (List Int)):∀i,(gW Z i).Pairwise DR
 | 0=>by simp [gW]
 | i+1=>by
  rw [nQ];refine List.pairwise_append.2 ⟨xA Z i,Mh i _,fun a ha b hb=>?_⟩;have h1:=(Dy.1 ha).1;obtain ⟨k,_,rfl⟩:=List.mem_map.1 hb;exact Α h1
theorem VG {a b:Pl} (h:DR a b):a≠b:=by
 rintro rfl;unfold DR at h;omega
theorem Hu (Z:List (List Int)) (i:Nat):(gW Z i).Nodup:=(xA Z i).imp (fun h=>VG h)
theorem Ec (Z:List (List Int)):∀i,i<=Z.length->(gW Z i).length=bJ (Z.take i)
 | 0,_=>by simp [gW,bJ]
 | i+1,h=>by
  rw [nQ,υ,Ec Z i ω,ϒ,List.length_range];unfold bJ;rw [ϐ,List.map_append,List.sum_append,ε ω];simp [zl,φ,ε (show i<Z.length by omega)]
theorem Bb (Z:List (List Int)) {i:Nat}:∀ {j:Nat},i<=j->(gW Z i).length<=(gW Z j).length:=fun {j} h=>by
 induction j with
 | zero=>
  obtain rfl:i=0:=ω
  exact Θ _
 | succ j ih=>
  by_cases e:i=j+1
  ·rw [e];exact Θ _
  ·have:=ih ω;rw [nQ,υ];omega
theorem pU (Z:List (List Int)):(gW Z Z.length).length=bJ Z:=by rw [Ec Z _ (Θ _),List.take_length]
theorem K5 {Z:List (List Int)} {i k:Nat} (hi:i<Z.length) (hk:k<=zl Z i):(gW Z i).length+k<=bJ Z:=by
 have h1:=Bb Z (i:=i+1) (j:=Z.length) hi;rw [pU,nQ,υ,ϒ,List.length_range] at h1;omega
def mf (Z:List (List Int)):List Pl:=(dH (fun x=>((gW Z Z.length).map (zk Z)).getD x 0) ((gW Z Z.length).map (zk Z)).length).map (fun x=>(gW Z Z.length).getD x (0,0))
theorem xn {P:List Pl} {x:Nat} (h:x<P.length):P.getD x (0,0)=P[x]:=by
 rw [φ,ε h];rfl
theorem JH {Z:List (List Int)} {P:List Pl} {x:Nat} (h:x<P.length):(P.map (zk Z)).getD x 0=zk Z (P.getD x (0,0)):=by
 rw [xn h,φ,ϓ,ε h];rfl
theorem vZ (Z:List (List Int)):(mf Z).Perm (gW Z Z.length):=by
 unfold mf;generalize gW Z Z.length=P;refine ((jS _ _).map _).trans (List.Perm.of_eq ?_);refine List.ext_getElem σ (fun i h1 h2=>?_);rw [List.getElem_map,List.getElem_range];exact xn h2
theorem G9 (Z:List (List Int)):(mf Z).length=bJ Z:=by rw [(vZ Z).length_eq,pU]
theorem Ic (Z:List (List Int)):(mf Z).Pairwise (UX Z):=by
 have hP:=xA Z Z.length;unfold mf;generalize gW Z Z.length=P at *;rw [List.pairwise_map];refine (lF _ _).imp_of_mem (fun {a b} ha hb h=>?_);have ha':a<P.length:=by simpa using jf.1 ha
 have hb':b<P.length:=by simpa using jf.1 hb
 unfold NW at h;dsimp only at h ⊢;rw [JH ha',JH hb'] at h;rcases h with h|⟨h,h2⟩
 ·exact Α h
 ·refine Β ⟨h,?_⟩;rw [xn ha',xn hb'];exact List.pairwise_iff_getElem.1 hP a b ha' hb' h2
theorem zL {a b:List Pl} (ha:a.Nodup) (hb:b.Nodup) (h:∀x,x∈a↔x∈b):a.Perm b:=
 (List.perm_ext_iff_of_nodup ha hb).2 h
theorem SS.all {Z:List (List Int)} {pos:Nat->Nat} {O:List Pl} (h:SS Z pos O) (hp:∀l,l<Z.length->pos l=zl Z l):O=mf Z:=by
 refine Gh h.srt (Ic Z) ((zL h.nd (Hu Z Z.length) (fun p=>?_)).trans (vZ Z).symm);rw [h.mem,Dy];constructor
 ·rintro ⟨h1,h2⟩;exact ⟨h1,by rw [←hp p.1 h1];exact h2⟩
 ·rintro ⟨h1,h2⟩;exact ⟨h1,by rw [hp p.1 h1];exact h2⟩
theorem fM.Rp {w:World} {e:TypeId} {base:Nat} {v:Value} {xs:List Int} {F:List Nat} (h:w.ownsRow base e 1 v xs.length (aM xs)) (hF:∀g,g∈F->g<base):fM w F v xs:=by
 rcases h.2 with ⟨rfl,h0⟩|⟨g,cap,cur,rfl,hb,hg,hn,hc,_⟩
 ·have:xs=[]:=Ϟ h0;subst this;exact ⟨none,0,rfl,σ,ω,fun j u hj=>by simp at hj⟩
 ·refine ⟨_,cap,rfl,hn,by unfold maxLen at hc;exact hc,fun j u hj=>⟨g,0,rfl,(h.lt g rfl).2,fun hm=>by have:=hF g hm;omega,?_⟩⟩;have hjl:=(List.getElem?_eq_some_iff.1 hj).1;rw [ϕ,h.cellAt j ω,lL hjl];simp [φ,hj]
theorem IM:(Tryz.prog.info? 99).map (fun i=>(i.zero,i.size,i.bytes))=some (some (.agg #[.int .i64 0,.int .i64 0]),2,16):=by kernel_rfl
structure Qw (Z:List (List Int)) (w wr:World) (a3:Option Addr) (c3:Nat) (a4:Option Addr) (c4 n:Nat) (P:List Pl):Prop where
 o3:wr.ownsRow w.heap.size 2 1 (.slice a3 n c3) n (aM (P.map (zk Z)))
 o4:wr.ownsRow w.heap.size 99 2 (.slice a4 n c4) n (rD P)
 sep:∀g g',Value.ownBlock (.slice a3 n c3)=some g->Value.ownBlock (.slice a4 n c4)=some g'->g≠g'
 up:aa [] w wr
theorem Qw.len {Z:List (List Int)} {w wr:World} {a3:Option Addr} {c3:Nat} {a4:Option Addr} {c4 n:Nat} {P:List Pl} (h:Qw Z w wr a3 c3 a4 c4 n P):P.length=n:=by
 have:=h.o4.1;rw [qI] at this;omega
theorem Qw.put {Z:List (List Int)} {w wr w8 w9:World} {a3:Option Addr} {c3:Nat} {a4:Option Addr} {c4 n:Nat} {P:List Pl} (h:Qw Z w wr a3 c3 a4 c4 n P) {a8 a9:Option Addr} {c8 c9:Nat} {p:Pl}
  (CJ:w8.ownsRow w.heap.size 2 1 (.slice a8 (n+1) c8) (n+1) (aM (P.map (zk Z))++[.int .i64 (zk Z p)])) (vV:aa (Value.ownBlock (.slice a3 n c3)).toList wr w8) (U7:Value.ownBlock (.slice a8 (n+1) c8)=Value.ownBlock (.slice a3 n c3)\/∀k,Value.ownBlock (.slice a8 (n+1) c8)=some k->wr.heap.size<k)
  (Cy:w9.ownsRow w.heap.size 99 2 (.slice a9 (n+1) c9) (n+1) (rD P++[.int .i64 (p.1:Int),.int .i64 (p.2:Int)])) (jR:aa (Value.ownBlock (.slice a4 n c4)).toList w8 w9) (Vl:Value.ownBlock (.slice a9 (n+1) c9)=Value.ownBlock (.slice a4 n c4)\/∀k,Value.ownBlock (.slice a9 (n+1) c9)=some k->w8.heap.size<k) :
  Qw Z w w9 a8 c8 a9 c9 (n+1) (P++[p]):=by
 have hsw:=h.up.size;have hs8':=vV.size;refine ⟨?_,?_,fun g g' hg hg' e=>?_,?_⟩
 ·rw [List.map_append,aT];refine aA CJ jR (fun k hk hm=>?_);have hm':=Option.mem_toList.1 hm;rcases U7 with e|e
  ·rw [e] at hk;exact h.sep k k hk hm' rfl
  ·have:=e k hk;have:=(h.o4.lt k hm').2;omega
 ·rw [tZ];exact Cy
 ·subst e;rcases Vl with e|e
  ·rw [e] at hg';rcases U7 with e8|e8
   ·rw [e8] at hg;exact h.sep g g hg hg' rfl
   ·have:=e8 g hg;have:=(h.o4.lt g hg').2;omega
  ·have:=e g hg';have:=(CJ.lt g hg).2;omega
 ·refine (h.up.joined vV (fun x hx=>Β ?_)).joined jR (fun x hx=>Β ?_)
  ·exact (h.o3.lt x (Option.mem_toList.1 hx)).1
  ·exact (h.o4.lt x (Option.mem_toList.1 hx)).1
theorem Qw.at4 {Z:List (List Int)} {w wr:World} {a3:Option Addr} {c3:Nat} {a4:Option Addr} {c4 n:Nat} {P:List Pl} (h:Qw Z w wr a3 c3 a4 c4 n P) {x:Nat} (hx:x<n):∃g4,a4=some ⟨g4,0,none⟩/\g4<wr.heap.size/\wr.cell? ⟨g4,x*2,none⟩=some (.int .i64 ((P.getD x (0,0)).1:Int))/\wr.cell? ⟨g4,x*2+1,none⟩=some (.int .i64 ((P.getD x (0,0)).2:Int)):=by
 have hl:=h.len;obtain ⟨g,cap,e,hb,_⟩:=dM h.o4 ω
 injection e with e1 e2 e3
 subst e1;have hlt:=h.o4.lt g rfl;have hx':P[x]?=some (P.getD x (0,0)):=by rw [φ,ε ω];rfl
 obtain ⟨h1,h2⟩:=uO P x _ hx';exact ⟨g,rfl,hlt.2,by rw [h.o4.cellAt (x*2) ω];exact h1,by rw [h.o4.cellAt (x*2+1) ω];exact h2⟩
theorem BR (w:World) (va:Value) (Z:List (List Int)) (h:qz w va Z) (hT:bJ Z<=65536) :
  Calls Tryz.prog 26 #[va] w fun e w'=>∃ao co,e=.returned (.slice ao (bJ Z) co)/\w'.ownsRow w.heap.size 99 2 (.slice ao (bJ Z) co) (bJ Z) (rD (mf Z))/\aa [] w w':=by
 have hrow:∀i,i<Z.length->∃g off ax cx TI,va=.slice (some ⟨g,off,none⟩) Z.length TI/\w.cell? ⟨g,off+i,none⟩=some (.slice ax (zl Z i) cx)/\∀k,k<zl Z i->∃ge oe,ax=some ⟨ge,oe,none⟩/\w.cell? ⟨ge,oe+k,none⟩=some (.int .i64 (zk Z (i,k))):=fun i hi=>by
  have hx:Z[i]?=some (Z.getD i []):=by simp [φ,hi]
  obtain ⟨a,cap,e,_,_⟩:=h.shape;rw [e] at h;obtain ⟨g,off,ax,cx,e2,hg,hc,_,_,hs⟩:=h.at hx;obtain ⟨a',c',he,_,_,h3⟩:=hs;cases he;refine ⟨g,off,ax,cx,cap,by rw [e,e2],hc,fun k hk=>?_⟩;obtain ⟨ge,oe,h4,_,_,h5⟩:=h3 k _ (ε hk);refine ⟨ge,oe,h4,?_⟩;rw [h5];simp [zk,φ,ε (show k<((Z[i]?).getD []).length by simpa [zl,φ] using hk)]
 obtain ⟨a,cap,rfl,hcap,hcap2⟩:=h.shape;have HP:Hid (∀i k,i<Z.length->k<=zl Z i->(gW Z i).length+k<=bJ Z):=fun i k h1 h2=>K5 h1 h2;have HL:Hid (∀i,i<=Z.length->(gW Z i).length<=bJ Z):=fun i hi=>by rw [←pU];exact Bb Z hi
 have HR:=χ hrow;have HM:Hid (((gW Z Z.length).map (zk Z)).length=bJ Z/\(gW Z Z.length).length=bJ Z/\mf Z=(dH (fun x=>((gW Z Z.length).map (zk Z)).getD x 0) ((gW Z Z.length).map (zk Z)).length).map (fun x=>(gW Z Z.length).getD x (0,0))):=⟨by rw [ϒ];exact pU Z,pU Z,rfl⟩;have ks:=fun W vk hS=>EH vk ((gW Z Z.length).map (zk Z)) W hS (by rw [HM.out.1];exact hT);have KS:=χ ks;clear h hrow ks;generalize mf Z=M at *;generalize bJ Z=T at *;generalize Z.length=N at *
 go_enter Tryz.func26,Tryz.ntmps26
 go_wp2;refine fA (fun W=>Qw Z w W (some ⟨w.heap.size,0,none⟩) 0 (some ⟨w.heap.size+1,0,none⟩) 0 0 (gW Z 0)) ⟨?_,?_,fun g g' h1 h2=>by simp [Value.ownBlock] at h1 h2;omega,β⟩ ?_
 ·exact (iR w (aM []) 2 w.heap.size 1 0 rfl (Θ _) μ).alloc _
 ·exact GX (w.alloc (.cells #[] 2)) (w.heap.size+1) σ (rD []) 99 w.heap.size 2 0 rfl σ μ
 rintro W hI0;have H0:=χ hI0;clear hI0
 go_loopw [3,4,5,6,7,8,16] (fun v3 v4 v5 v6 v7 v8 v16 wr=>∃ (i n:Nat) (a3:Option Addr) (c3:Nat) (a4:Option Addr) (c4:Nat),i<=N/\v16=.int .i64 (i:Int)/\v3=.slice a3 n c3/\v4=.slice a4 n c4/\Qw Z w wr a3 c3 a4 c4 n (gW Z i)) (fun _ _ _ _ _ _ v16 _=>N-(intOf v16).toNat)
 case atStart=>exact ⟨0,0,_,_,_,_,Nat.zero_le _,rfl,rfl,rfl,H0.out⟩
 case round=>
  clear H0;obtain ⟨i,n,a3,c3,a4,c4,hi,rfl,rfl,rfl,hI⟩:=hrel;rename World=>wr
  by_cases FX:i<N
  ·have Dg:(i:Int)<(N:Int):=ω;have TE:decide ((i:Int)<(N:Int))=true:=ζ;have hwi:IntKind.i64.wrap ((i:Int)+1)=(i:Int)+1:=Μ _ ω;obtain ⟨g,off,ax,cx,TI,hva,hcl,hce⟩:=HR.out i FX;cases hva;have hc:=hI.up.was hcl;have HC:=χ (ψ hI hce);clear hI hcl hce;go_wp2
   go_loopw [3,4,7,8,23] (fun v3 v4 v7 v8 v23 wi=>∃ (k n:Nat) (a3:Option Addr) (c3:Nat) (a4:Option Addr) (c4:Nat),k<=zl Z i/\v23=.int .i64 (k:Int)/\v3=.slice a3 n c3/\v4=.slice a4 n c4/\Qw Z w wi a3 c3 a4 c4 n (gW Z i++(List.range k).map (fun k=>(i,k)))) (fun _ _ _ _ v23 _=>zl Z i-(intOf v23).toNat)
   case atStart=>exact ⟨0,n,_,_,_,_,Nat.zero_le _,rfl,rfl,rfl,by have:=HC.out.1;simpa using this⟩
   case round=>
    obtain ⟨k,n1,a5,c5,a6,c6,hk,rfl,rfl,rfl,hI⟩:=hrel;rename World=>wi
    by_cases hkl:k<zl Z i
    ·have Da:(k:Int)<(zl Z i:Int):=ω;have hkD:decide ((k:Int)<(zl Z i:Int))=true:=ζ;have hroom:=HP.out i (k+1) FX hkl;have hln:=hI.len;rw [υ,ϒ,List.length_range] at hln;obtain ⟨ge,oe,rfl,hc0⟩:=HC.out.2 k hkl;have hc1:=hI.up.was hc0;have hwk:IntKind.i64.wrap ((k:Int)+1)=(k:Int)+1:=Μ _ ω;have hb0:w.heap.size<=wi.heap.size:=hI.up.size;have ho3:=hI.o3;have UE:=hI.o4;have HI:=χ hI;have hb1:n1<=1000000:=ω;clear hI hc0 hroom hln;generalize hzk:zk Z (i,k)=zz at *;have HZK:=χ hzk;clear hzk
     go_wp2_with (first
      | ((at_builtin;refine ak rfl _ _ 24 rfl w.heap.size 2 (.int .i64 0) 1 8 Tryz.underlying24 Cq rfl δ _ _ _ rfl ho3 [.int .i64 _] rfl (by simp [Value.oneCell']) (by first|rfl|(rw [Κ];rfl)) μ ω ω ?_;intro v8 w8 CJ vV EA;obtain ⟨a8,c8,rfl,hc8⟩:=aR CJ);(have hb8:=vV.size);(have ho4':=aA UE vV (fun x hx hm=>HI.out.sep x x (Option.mem_toList.1 hm) hx rfl)))
      | (at_builtin;refine ak rfl _ _ 48 rfl w.heap.size 99 (.agg #[.int .i64 0,.int .i64 0]) 2 16 Tryz.underlying48 IM rfl δ _ _ _ rfl ho4' [.int .i64 _,.int .i64 _] rfl (by simp [Value.oneCell']) (by first|rfl|(rw [Κ];rfl)) μ ω ω ?_;intro v9 w9 Cy jR si;obtain ⟨a9,c9,rfl,ZY⟩:=aR Cy)
      | fail)
     go_roundw
     case rel=>
      have hA:=HI.out.put (p:=(i,k)) (by rw [HZK.out];exact CJ) vV EA Cy jR si;refine ⟨k+1,n1+1,_,_,_,_,hkl,by go_num,rfl,rfl,?_⟩;rw [List.range_succ,List.map_append,←ϋ];exact hA
     case measure=>simp [intOf];omega
    ·have Da:¬ (k:Int)<(zl Z i:Int):=ω;have hkD:decide ((k:Int)<(zl Z i:Int))=false:=ζ;obtain rfl:k=zl Z i:=ω;have HI:=χ hI;clear hI;go_wp2
     go_roundw
     case rel=>exact ⟨i+1,n1,_,_,_,_,FX,by go_num,rfl,rfl,by rw [nQ];exact HI.out⟩
     case measure=>simp [intOf];omega
  ·obtain rfl:i=N:=ω;have Dg:¬ (i:Int)<(i:Int):=ω;have TE:decide ((i:Int)<(i:Int))=false:=σ;have hnT:n=T:=by rw [←hI.len];exact HM.out.2.1
   subst hnT;have ZA:=fun x (hx:x<n)=>hI.at4 hx;have CZ:fM wr [] (.slice a3 n c3) ((gW Z i).map (zk Z)):=by
    have h1:=hI.o3;have h2:((gW Z i).map (zk Z)).length=n:=by rw [ϒ];exact hI.len
    generalize (gW Z i).map (zk Z)=ks at *;subst h2;exact fM.Rp h1 (fun g hg=>by cases hg)
   obtain ⟨hL1, -,hM⟩:=HM.out;have kS:=fun W (hW:aa [] wr W)=>KS.out W _ (CZ.fresh hW (fun g hg=>Α hg));rw [hL1] at kS hM;obtain ⟨S,hSS⟩:∃S,dH (fun x=>((gW Z i).map (zk Z)).getD x 0) n=S:=⟨_,rfl⟩;have Mx:∀x,x∈S->x<n:=fun x hx=>by rw [←hSS] at hx;exact jf.1 hx
   have Io:S.length=n:=by rw [←hSS,q9]
   rw [hSS] at kS hM;have YL:=hI.up;have OE:=iR wr (rD []) 99 w.heap.size 2 0 rfl YL.size μ;have HF:=χ (ψ hM (ψ Mx (ψ Io YL)));have HQ:=χ (ψ ZA OE);clear hI CZ hL1 hM Mx Io ZA OE hSS
   go_wp2_with (first
    | ((go_at_call 19;(with_reducible refine (kS _ β).mono ?_));rintro e w5 ⟨az,cz,rfl,SK,dF⟩)
    | fail)
   obtain ⟨ZA,OE⟩:=HQ.out;obtain ⟨hM,Mx,Io, -⟩:=HF.out;have hsz:=dF.size;simp only [Κ,World.size_drew] at hsz;have hQ5:∀j,j<n->∃ (gs x:Nat),az=some ⟨gs,0,none⟩/\wr.heap.size<gs/\w5.cell? ⟨gs,j,none⟩=some (.int .i64 (x:Int))/\x<n/\S[j]?=some x:=fun j hj=>by
    have hjs:S[j]?=some S[j]:=ε ω;obtain ⟨gs,h1,h2,h3,h4⟩:=IQ SK (Jt hjs);simp only [Κ,World.size_drew] at h2;exact ⟨gs,_,h1,ω,h4,Mx _ (ϛ _),hjs⟩
   have H5:=χ (ψ hQ5 (ψ (aA OE dF σ) (show aa [] wr w5 from aa.trans β dF)));clear ZA OE hM Mx Io hQ5 SK dF kS
   go_loopw [9,11,44] (fun v9 v11 v44 wi=>∃ (j:Nat) (a9:Option Addr) (c9:Nat),j<=n/\v44=.int .i64 (j:Int)/\v9=.slice a9 j c9/\wi.ownsRow w.heap.size 99 2 (.slice a9 j c9) j (rD (M.take j))/\aa [wr.heap.size] w5 wi/\(∀k,Value.ownBlock (.slice a9 j c9)=some k->k=wr.heap.size\/w5.heap.size<=k)) (fun _ _ v44 _=>n-(intOf v44).toNat)
   case atStart=>exact ⟨0,_,_,Nat.zero_le _,rfl,rfl,H5.out.2.1,aa.refl _ _,fun k hk=>by (simp [Value.ownBlock] at hk;exact Α hk.symm)⟩
   case round=>
    obtain ⟨j,a9',c9',hj,rfl,rfl,ho,hu,WH⟩:=hrel;rename World=>wi
    by_cases hjn:j<n
    ·have FD:(j:Int)<(n:Int):=ω;have hjD:decide ((j:Int)<(n:Int))=true:=ζ;obtain ⟨gs,x,rfl,hgs,hcs,su,hSj⟩:=H5.out.1 j hjn;obtain ⟨g4,rfl,hg4,hc0,hc1⟩:=HQ.out.1 x su;have DN:(x:Int)<(n:Int):=ω;have e1:=hu.kept hcs ζ;have e2:=hu.kept (H5.out.2.2.was hc0) ζ;have e3:=hu.kept (H5.out.2.2.was hc1) ζ;have hwj:IntKind.i64.wrap ((j:Int)+1)=(j:Int)+1:=Μ _ ω;have hb0:w.heap.size<=wi.heap.size:=Χ YL.size (Χ ω hu.size);have hMj:M.take (j+1)=M.take j++[(gW Z i).getD x (0,0)]:=by
      rw [ϐ,HF.out.1,ϓ,hSj]
      rfl
     have HI:=χ (ψ ho (ψ hu (ψ WH hMj)));clear hu WH hMj hcs hc0 hc1 hSj;generalize (gW Z i).getD x (0,0)=pp at *
     go_wp2_with (first|(at_builtin;refine ak rfl _ _ 48 rfl w.heap.size 99 (.agg #[.int .i64 0,.int .i64 0]) 2 16 Tryz.underlying48 IM rfl δ _ _ _ rfl ho [.int .i64 _,.int .i64 _] rfl (by simp [Value.oneCell']) (by first|rfl|(rw [Κ];rfl)) μ ω ω ?_;intro v9 w9 Cy jR si;obtain ⟨a9,c9,rfl,ZY⟩:=aR Cy)|fail)
     go_roundw
     case rel=>
      obtain ⟨ho,hu,WH,hMj⟩:=HI.out;have hsu:=hu.size;refine ⟨j+1,a9,c9,hjn,by go_num,rfl,by rw [hMj,tZ];exact Cy,hu.joined jR (fun y hy=>?_),fun k hk=>?_⟩
      ·rcases WH y (Option.mem_toList.1 hy) with e|e
       ·exact Α (by simp [e])
       ·exact Β e
      ·rcases si with e|e
       ·rw [e] at hk;exact WH k hk
       ·have:=e k hk;exact Β ω
     case measure=>simp [intOf];omega
    ·obtain rfl:j=n:=ω;have FD:¬ (j:Int)<(j:Int):=ω;have hjD:decide ((j:Int)<(j:Int))=false:=σ;have hMt:M.take j=M:=List.take_of_length_le (by rw [HF.out.1,ϒ,HF.out.2.2.1];exact Θ _);rw [hMt] at ho;have HI:=χ (ψ ho hu);clear ho hu WH hMt;go_wp2;go_ret;exact ⟨_,_,rfl,HI.out.1,(YL.trans H5.out.2.2).joined HI.out.2 (fun y hy=>Β (by simp at hy;rw [hy];exact YL.size))⟩
theorem A9 (w:World) (va:Value) (l:List Int) (h:fM w [] va l):Calls Tryz.prog 24 #[va] w fun e w'=>e=.returned (.bool (dw l))/\aa [] w w':=by
 obtain ⟨a,cap,rfl,hcap1,hcap2,hcell⟩:=h;have HB:Hid (∀b,(b=true↔∀i,i+1<l.length->l.getD i 0<=l.getD (i+1) 0)->dw l=b):=fun b hb=>by
  have:=tF (l:=l);cases b with
  | true=>exact this.2 (hb.1 rfl)
  | false=>
   cases hr:dw l with
   | false=>rfl
   | true=>exact absurd (hb.2 (this.1 hr)) σ
 generalize dw l=rb at *;have hrow:∀j,j<l.length->∃g off,a=some ⟨g,off,none⟩/\g<w.heap.size/\w.cell? ⟨g,off+j,none⟩=some (.int .i64 (l.getD j 0)):=fun j hj=>by
  obtain ⟨g,off,h1,h2,_,h3⟩:=hcell j l[j] (ε hj);exact ⟨g,off,h1,h2,by rw [h3,φ,ε hj];rfl⟩
 have HR:=χ hrow;clear hcell hrow;generalize hn:l.length=n at *;clear hn
 go_enter Tryz.func24,Tryz.ntmps24
 go_wp2
 go_loopw [3] (fun v3 wr=>∃i:Nat,v3=.int .i64 (i:Int)/\1<=i/\(i<=n\/i=1)/\(∀k:Nat,k+1<i->l.getD k 0<=l.getD (k+1) 0)/\aa [] w wr) (fun v3 _=>n-(intOf v3).toNat)
 case atStart=>exact ⟨1,rfl,Θ _,Β rfl,fun k h=>ω,aa.refl _ _⟩
 case round=>
  obtain ⟨i,rfl,hi1,hi2,hP,hu⟩:=hrel;rename World=>wr
  by_cases hi0:i<n
  ·have hlt:(i:Int)<(n:Int):=ω;obtain ⟨k,hk⟩:∃k:Nat,i=k+1:=⟨i-1,ω⟩;obtain ⟨g,off,rfl,hg,hc0⟩:=HR.out k ω;obtain ⟨g',off',he,_,hc1⟩:=HR.out i ω;cases he;have c0:=hu.was hc0;have c1:=hu.was hc1;have Da:(k:Int)<(n:Int):=ω;have hks:(i:Int)-1=(k:Int):=ω;have hwk:IntKind.i64.wrap (k:Int)=(k:Int):=Μ _ ω;have hwi:IntKind.i64.wrap ((i:Int)+1)=(i:Int)+1:=Μ _ ω;have HP:=χ (ψ hP (ψ hu hk))
   have HV:Hid (l.getD i 0<l.getD k 0->rb=false):=fun h3=>HB.out false (by
    constructor
    ·intro h;cases h
    ·intro h;have:=h k ω;rw [←hk] at this;omega)
   have Ri:Hid (¬l.getD i 0<l.getD k 0->∀q:Nat,q+1<i+1->l.getD q 0<=l.getD (q+1) 0):=fun h q h1=>by
    by_cases e:q=k
    ·subst e;rw [←HP.out.2.2];omega
    ·exact HP.out.1 q ω
   clear hP hu hc0 hc1 hk
   by_cases hlk:l.getD i 0<l.getD k 0
   ·have HQ:=χ (HV.out hlk);have hgt:l.getD k 0 > l.getD i 0:=hlk;clear HV Ri hlk;generalize l.getD i 0=y at *;generalize l.getD k 0=x at *
    go_upto_region 4 with (fail)
    go_quiet (fail)
    go_wp2;go_ret;refine ⟨?_,?_⟩
    ·rw [HQ.out];rfl
    ·have:=HP.out.2.1;exact β
   ·have HQ:=χ (Ri.out hlk);have hgt:¬l.getD k 0 > l.getD i 0:=hlk;clear HV Ri hlk;generalize l.getD i 0=y at *;generalize l.getD k 0=x at *
    go_upto_region 4 with (fail)
    go_quiet (fail)
    go_wp2
    go_roundw
    case rel=>exact ⟨i+1,by go_num,ω,ω,HQ.out,by have:=HP.out.2.1;exact β⟩
    case measure=>simp [intOf];omega
  ·have hlt:¬ (i:Int)<(n:Int):=ω;have hfin:rb=true:=HB.out true ⟨fun _ k hk=>hP k ω,fun _=>rfl⟩;have HF:=χ hfin;clear hfin hP;go_wp2;go_ret;refine ⟨?_,hu⟩;rw [HF.out];rfl
structure pz (K:dI) (w0 w:World) (m p mb:Nat) (a:Option Addr) (N cap:Nat) (F:List Nat) (kd d:Int) (Z:List (List Int)) (c:Nat) (f:Int->Int->Option Pl) (R:AR) (A:NS) (q:Nat) (pos:Nat->Nat) (hp:Nat->Option Nat):Prop where
 c0:w.cell? ⟨m,0,none⟩=some (.pointer (some ⟨p,0,none⟩))
 c1:w.cell? ⟨m,1,none⟩=some (.slice a N cap)
 c2:w.cell? ⟨m,2,none⟩=some (.map (some mb))
 pq:dJ K w p F kd d R A q
 map:qB w mb c f
 ll:qz w0 (.slice a N cap) Z
 lN:Z.length=N
 u:aa [] w0 w
 m0:w0.heap.size<=m
 b0:w0.heap.size<=mb
 f0:∀x,x∈F->w0.heap.size<=x
 mF:m∉F
 bF:mb∉F
 XR:m≠mb
 i:tJ Z R A q f pos hp
theorem aa.twoS {G:Prop} {w w':World} {S:List Nat} (hu:aa S w w') (b:Nat) (v0 v1:Value) (h0:w.cell? ⟨b,0,none⟩=some v0) (h1:w.cell? ⟨b,1,none⟩=some v1) (f0:w.frozen? ⟨b,0,none⟩=false) (f1:w.frozen? ⟨b,1,none⟩=false) (hn:b∉S)
  (k:w'.cell? ⟨b,0,none⟩=some v0->w'.cell? ⟨b,1,none⟩=some v1->w'.frozen? ⟨b,0,none⟩=false->w'.frozen? ⟨b,1,none⟩=false->b<w'.heap.size->G):G:=
 k (hu.kept h0 hn) (hu.kept h1 hn) (hu.aP h0 hn f0) (hu.aP h1 hn f1) (Ψ (Ε _ _ h0) hu.size)
section
variable {K:dI} {w0 w:World} {m p mb N cap:Nat} {a:Option Addr} {F:List Nat} {kd d:Int} {Z:List (List Int)} {c:Nat} {f:Int->Int->Option Pl} {R:AR} {A:NS} {q:Nat} {pos:Nat->Nat} {hp:Nat->Option Nat}
theorem pz.ae {w':World} (h:pz K w0 w m p mb a N cap F kd d Z c f R A q pos hp) (hu:aa [] w w'):pz K w0 w' m p mb a N cap F kd d Z c f R A q pos hp:=
 ⟨hu.was h.c0,hu.was h.c1,hu.was h.c2,h.pq.ae hu,h.map.upd hu σ,h.ll,h.lN,h.u.trans hu,h.m0,h.b0,h.f0,h.mF,h.bF,h.XR,h.i⟩
theorem pz.list (h:pz K w0 w m p mb a N cap F kd d Z c f R A q pos hp) {l:Nat} (hl:l<N):∃g off ax cx,a=some ⟨g,off,none⟩/\g<w0.heap.size/\w.cell? ⟨g,off+l,none⟩=some (.slice ax (zl Z l) cx)/\fM w0 [] (.slice ax (zl Z l) cx) (Z.getD l []):=by
 have hx:Z[l]?=some (Z.getD l []):=by simp [φ,h.lN,hl]
 obtain ⟨g,off,ax,cx,e,hg,hc,_,_,hs⟩:=h.ll.at hx;exact ⟨g,off,ax,cx,e,hg,h.u.was hc,hs⟩
theorem Iy (h:pz K w0 w m p mb a N cap F kd d Z c f R A q pos hp) (l:Nat) (hl:l<N) (k:Nat) (hk:zl Z l<=k) :
  Calls Tryz.prog 48 #[.pointer (some ⟨m,0,none⟩),.agg #[.int .i64 (l:Int),.int .i64 (k:Int)]] w fun e w'=>e=.returned (.tuple #[])/\aa [] w w':=by
 have c1:=h.c1;obtain ⟨g,off,ax,cx,rfl,hg,hc,hs⟩:=h.list hl;have WG:(l:Int)<(N:Int):=ω;have hgw:g<w.heap.size:=Ψ hg h.u.size;have hmw:m<w.heap.size:=Ε _ _ c1;have Da:¬ (k:Int)<(zl Z l:Int):=ω;clear h hs;generalize zl Z l=n at *
 go_enter Tryz.func48,Tryz.ntmps48
 go_wp2
 go_quiet (fail)
 go_wp2;go_end0;exact ⟨rfl,β⟩
theorem pz.store (h:pz K w0 w m p mb a N cap F kd d Z c f R A q pos hp) {w':World} {F':List Nat} {R':AR} {A':NS} {q':Nat} {f':Int->Int->Option Pl} {hp':Nat->Option Nat} {pos':Nat->Nat} (hP:dJ K w' p F' kd d R' A' q') (hu:aa F w w') (hf:∀x,x∈F'->x∈F\/w.heap.size<=x) :
  (∀ (W:World) (c':Nat),qB W mb c' f'->aa [mb] w' W->tJ Z R' A' q' f' pos' hp'->pz K w0 W m p mb a N cap F' kd d Z c' f' R' A' q' pos' hp')/\qB w' mb c f/\w'.cell? ⟨m,0,none⟩=some (.pointer (some ⟨p,0,none⟩))/\w'.cell? ⟨m,2,none⟩=some (.map (some mb)):=by
 have Qt:=Ε _ _ h.c0;have hbl:=h.map.lt;have hszw:=h.u.size;have hm':m∉F':=fun e=>by rcases hf m e with e|e;exact h.mF e;dsimp only at Qt;omega
 have hb':mb∉F':=fun e=>by rcases hf mb e with e|e;exact h.bF e;omega
 refine ⟨fun W c' hm hW hi=>?_,h.map.upd hu h.bF,hu.kept h.c0 h.mF,hu.kept h.c2 h.mF⟩;have hn1:m∉[mb]:=by simp;exact h.XR
 refine ⟨hW.kept (hu.kept h.c0 h.mF) hn1,hW.kept (hu.kept h.c1 h.mF) hn1,hW.kept (hu.kept h.c2 h.mF) hn1,hP.upd hW (fun x hx=>by simp at hx;rw [hx];exact hb'),hm,h.ll,h.lN,?_,h.m0,h.b0,fun x hx=>?_,hm',hb',h.XR,hi⟩
 ·exact (h.u.joined hu (fun x hx=>Β (h.f0 x hx))).joined hW (fun x hx=>Β (by simp at hx;rw [hx];exact h.b0))
 ·rcases hf x hx with e|e
  ·exact h.f0 x e
  ·omega
theorem Et (h:pz K w0 w m p mb a N cap F kd d Z c f R A q pos hp) (l:Nat) (hl:l<N) (h0:hp l=none) (hk:pos l<zl Z l) (hq:q+1<=4294967295) (hc:c<9223372036854775807) (hb:∀p, -9223372036854775808<=zk Z p/\zk Z p<=9223372036854775807) :
  Calls Tryz.prog 48 #[.pointer (some ⟨m,0,none⟩),.agg #[.int .i64 (l:Int),.int .i64 (pos l:Int)]] w fun e w'=>e=.returned (.tuple #[])/\∃F' x f' R' A',pz K w0 w' m p mb a N cap F' kd d Z (c+1) f' R' A' (q+1) pos (fun i=>if i=l then some x else hp i)/\aa (mb::F) w w'/\∀z,z∈F'->z∈F\/w.heap.size<=z:=by
 obtain ⟨x,R',hT,hB,hI⟩:=h.i.push (by rw [h.lN];exact hl) h0 hk hq (hb _);have c0:=h.c0;have c1:=h.c1;have c2:=h.c2;obtain ⟨g,off,ax,cx,rfl,hg,hcl,hs⟩:=h.list hl;have WG:(l:Int)<(N:Int):=ω;have hgw:g<w.heap.size:=Ψ hg h.u.size;have hmw:m<w.heap.size:=Ε _ _ c1;have Da:(pos l:Int)<(zl Z l:Int):=ω;obtain ⟨ge,oe,hax,hge,hce⟩:∃ge oe,ax=some ⟨ge,oe,none⟩/\ge<w0.heap.size/\w.cell? ⟨ge,oe+pos l,none⟩=some (.int .i64 (zk Z (l,pos l))):=by
  obtain ⟨a',c',he,_,_,h3⟩:=hs;cases he;obtain ⟨ge,oe,rfl,h4,_,h5⟩:=h3 (pos l) _ (by rw [ε hk]);exact ⟨ge,oe,rfl,h4,by rw [h.u.was h5];simp [zk,φ,ε (show pos l<((Z[l]?).getD []).length by simpa [zl,φ] using hk)]⟩
 subst hax;have kI:=fun W (hW:aa [] w W)=>qx (h.pq.ae hW) 1 (zk Z (l,pos l)) h.i.s.h1 (hb _) ω hT;have hgb:=h.i.s.gn x;have MF:=lH h.i.s.ok hT;have hxb:x<65536:=by have:=MF.2.1;have:=h.i.s.ok.n;omega
 have hgx:=Pf h.i.s.ok hT x;rw [Δ rfl] at hgx;have HH:=χ (ψ h (ψ hI (ψ hgx hgb)));have hmF:=h.mF;have wY:ge∉F:=fun e=>by have:=h.f0 _ e;omega
 have hgew:ge<w.heap.size:=Ψ hge h.u.size;have Oa:∀z,z∈F->z<w.heap.size:=fun z hz=>by
  obtain ⟨pa,pn,Fa,Fn,rfl,hM⟩:=h.pq;exact hM.lt z hz
 clear h hI hs hT MF hgb hgx;generalize zk Z (l,pos l)=key at *;generalize hzl:zl Z l=zn at *;clear hzl;generalize R.g x=gx at *;have HP:=χ hk
 go_enter Tryz.func48,Tryz.ntmps48
 go_wp2
 go_quiet (fail)
 go_upto_region 3 with (fail)
 refine fA (fun W=>W.cell? ⟨w.heap.size,0,none⟩=some (.int .i64 (l:Int))/\W.cell? ⟨w.heap.size,1,none⟩=some (.int .i64 (pos l:Int))/\aa [] w W) ⟨γ,γ,β⟩ ?_;rintro W ⟨b0,b1,hW⟩;have hwF:w.heap.size∉F:=fun e=>by have:=Oa _ e;omega
 have hWF:W.heap.size∉F:=fun e=>by have:=Oa _ e;have:=hW.size;omega
 have s0:∀X,aa F W X->X.cell? ⟨m,0,none⟩=some (.pointer (some ⟨p,0,none⟩)):=fun X hX=>hX.kept (hW.was c0) hmF;have s1:∀X,aa F W X->X.cell? ⟨w.heap.size,1,none⟩=some (.int .i64 (pos l:Int)):=fun X hX=>hX.kept b1 hwF;have s2:∀X,aa F W X->X.cell? ⟨ge,oe+pos l,none⟩=some (.int .i64 key):=fun X hX=>hX.kept (hW.was hce) wY;have hWs:=hW.size;clear c0 c1 hcl hce
 go_region_held_law (aa F W) (exact ν)
  (first|((go_at_call 40;(with_reducible refine (kI _ β).mono ?_));rintro e w6 ⟨rfl,F',hP,fq,Mv⟩;(have FJ:aa F W w6:=aa.trans ν fq);(have hs6:=fq.size);(try simp only [Κ,World.size_drew] at hs6 Mv);(try (refine aa.twoS fq W.heap.size (.int .i64 0) (.int .u32 0) ?_ ?_ ?_ ?_ ?_ ?_;(focus (go_simp;done));(focus (go_simp;done));(focus (go_simp;done));(focus (go_simp;done));(focus assumption);intro z0 z1 z2 z3 z4))))
 all_goals
  go_upto_region 4 with (fail)
  have hF6:=hP.lt
 ·refine fA (fun X=>X.cell? ⟨w6.heap.size,0,none⟩=some (.int .i64 (x:Int))/\X.cell? ⟨w6.heap.size,1,none⟩=some (.int .u32 ((gx:Int)+1))/\aa [w6.heap.size] w6 X/\w6.heap.size∉F'/\W.heap.size<=w6.heap.size/\∀z,z∈F'->z∈F\/W.heap.size<=z) ⟨γ,γ,ν,fun e=>by have:=hF6 _ e;omega,ω,fun z hz=>(Mv z hz).imp id (fun e=>ω)⟩ ?_;generalize w6.heap.size=B5
  (rintro X ⟨y0,y1,hX,hBF,hBW,Px⟩;(have XU:=hP.upd hX (fun z hz=>by simp at hz;rw [hz];exact hBF));(have K4:aa F W X:=FJ.joined hX (fun z hz=>Β (by simp at hz;omega)));(obtain ⟨hfin,hmap,e0,e2⟩:=(HH.out.1.ae hW).store (f':=fun y e=>if y=(x:Int)/\e=(gx:Int)+1 then some (l,pos l) else f y e) (hp':=fun i=>if i=l then some x else hp i) (pos':=pos) XU K4 (by first|exact Px|(intro z hz;exact (Px z hz).imp id (fun e=>ω))));(have x0:=K4.kept b0 hwF);(have x1:=K4.kept b1 hwF);(obtain ⟨w7,hrun,Rz,qN⟩:=(hmap.upd ((aa.refl [] _).drew) σ).store hc (x:Int) ((gx:Int)+1) (l,pos l) ω (by have:=HH.out.2.2.2;omega));(have HF7:=χ (ψ hfin (ψ Rz (ψ qN (ψ K4 Px)))));clear hfin Rz qN hmap XU hP hX s0 s1 s2;(try clear z0 z1 z2 z3);unfold hV R8 at hrun;go_region;all_goals (go_wp2;go_end0;(obtain ⟨hfin,Rz,qN,K4,Px⟩:=HF7.out);(have PY:=((aa.refl [mb] X).drew).trans qN);(have hI:=HH.out.2.1);rw [HH.out.2.2.1] at hI;exact ⟨rfl,F',⟨x,_,_,_,hfin _ _ Rz PY hI⟩,((hW.mono σ).trans (K4.mono (fun z hz=>Λ _ hz))).trans (PY.mono (fun z hz=>by simp at hz;simp [hz])),fun z hz=>(Px z hz).imp id (fun e=>ω)⟩))
 ·refine fA (fun X=>X.cell? ⟨W.heap.size,0,none⟩=some (.int .i64 (x:Int))/\X.cell? ⟨W.heap.size,1,none⟩=some (.int .u32 ((gx:Int)+1))/\aa [W.heap.size] w6 X/\W.heap.size∉F'/\W.heap.size<=W.heap.size/\∀z,z∈F'->z∈F\/W.heap.size<=z) ⟨γ,γ,ν,fun e=>by rcases Mv _ e with e|e;exact hWF e;omega,Θ _,fun z hz=>(Mv z hz).imp id (fun e=>ω)⟩ ?_;generalize hB5:W.heap.size=B5
  (rintro X ⟨y0,y1,hX,hBF,hBW,Px⟩;(have XU:=hP.upd hX (fun z hz=>by simp at hz;rw [hz];exact hBF));(have K4:aa F W X:=FJ.joined hX (fun z hz=>Β (by simp at hz;omega)));(obtain ⟨hfin,hmap,e0,e2⟩:=(HH.out.1.ae hW).store (f':=fun y e=>if y=(x:Int)/\e=(gx:Int)+1 then some (l,pos l) else f y e) (hp':=fun i=>if i=l then some x else hp i) (pos':=pos) XU K4 (by first|exact Px|(intro z hz;exact (Px z hz).imp id (fun e=>ω))));(have x0:=K4.kept b0 hwF);(have x1:=K4.kept b1 hwF);(obtain ⟨w7,hrun,Rz,qN⟩:=(hmap.upd ((aa.refl [] _).drew) σ).store hc (x:Int) ((gx:Int)+1) (l,pos l) ω (by have:=HH.out.2.2.2;omega));(have HF7:=χ (ψ hfin (ψ Rz (ψ qN (ψ K4 Px)))));clear hfin Rz qN hmap XU hP hX s0 s1 s2;(try clear z0 z1 z2 z3);unfold hV R8 at hrun;go_region;all_goals (go_wp2;go_end0;(obtain ⟨hfin,Rz,qN,K4,Px⟩:=HF7.out);(have PY:=((aa.refl [mb] X).drew).trans qN);(have hI:=HH.out.2.1);rw [HH.out.2.2.1] at hI;exact ⟨rfl,F',⟨x,_,_,_,hfin _ _ Rz PY hI⟩,((hW.mono σ).trans (K4.mono (fun z hz=>Λ _ hz))).trans (PY.mono (fun z hz=>by simp at hz;simp [hz])),fun z hz=>(Px z hz).imp id (fun e=>ω)⟩))
end
section
variable {K:dI} {w0 w:World} {m p mb N cap:Nat} {a:Option Addr} {F:List Nat} {kd d:Int} {Z:List (List Int)} {c:Nat} {f:Int->Int->Option Pl} {R:AR} {A:NS} {q:Nat} {pos:Nat->Nat} {hp:Nat->Option Nat}
theorem pz.moved (h:pz K w0 w m p mb a N cap F kd d Z c f R A q pos hp) {w':World} (hg:Goes F w w' (fun F'=>dJ K w' p F' kd d R A q)):∃F',pz K w0 w' m p mb a N cap F' kd d Z c f R A q pos hp/\aa F w w'/\∀z,z∈F'->z∈F\/w.heap.size<=z:=by
 obtain ⟨F',hP,hu,hf⟩:=hg;obtain ⟨h1,h2,_,_⟩:=h.store (f':=f) (hp':=hp) (pos':=pos) hP hu hf;exact ⟨F',h1 _ _ h2 (aa.refl _ _) h.i,hu,hf⟩
theorem F7 (h:pz K w0 w m p mb a N cap F kd d Z c f R A q pos hp) (hm:bu A 1=none) :
  Calls Tryz.prog 49 #[.pointer (some ⟨m,0,none⟩)] w fun e w'=>e=.returned (.slice none 0 0)/\∃F',pz K w0 w' m p mb a N cap F' kd d Z c f R A q pos hp/\aa F w w'/\∀z,z∈F'->z∈F\/w.heap.size<=z:=by
 have c0:=h.c0;have kI:=EB h.pq 1 ω hm;have hmw:m<w.heap.size:=Ε _ _ c0;have hE:(nT A 1 != 0)=true:=by
  unfold nT;rw [hm]
  split<;>simp
 have HH:=χ h;clear h hm;generalize nT A 1=er at *
 go_enter Tryz.func49,Tryz.ntmps49
 go_wp2_with (first|((go_at_call 43;(with_reducible refine (kI).mono ?_));rintro e w1 ⟨rfl,hg⟩)|fail)
 go_ret;obtain ⟨F',h1,h2,h3⟩:=HH.out.moved hg;exact ⟨rfl,F',h1.ae β,h2.trans (aa.mono (S:=[]) β σ),h3⟩
end
def yf:Value->Nat
 | .slice _ n _=>n
 | _=>0
structure Bx (w:World) (P:Nat) (a b:Value):Prop where
 c0:w.cell? ⟨P,0,none⟩=some a
 c1:w.cell? ⟨P,1,none⟩=some b
 f0:w.frozen? ⟨P,0,none⟩=false
 f1:w.frozen? ⟨P,1,none⟩=false
theorem Bx.lt {w:World} {P:Nat} {a b:Value} (h:Bx w P a b):P<w.heap.size:=Ε _ _ h.c0
theorem Bx.upd {w w':World} {P:Nat} {a b:Value} {S:List Nat} (h:Bx w P a b) (hu:aa S w w') (hn:P∉S):Bx w' P a b:=
 ⟨hu.kept h.c0 hn,hu.kept h.c1 hn,hu.aP h.c0 hn h.f0,hu.aP h.c1 hn h.f1⟩
section
variable {K:dI} {w0 w wr:World} {m p mb N cap:Nat} {a:Option Addr} {F0 F:List Nat} {kd d:Int} {Z:List (List Int)} {c:Nat} {f:Int->Int->Option Pl} {R:AR} {A:NS} {q:Nat} {pos:Nat->Nat} {hp:Nat->Option Nat} {v:Value} {n:Nat} {Q:List Pl}
theorem pz.goes (h:pz K w0 w m p mb a N cap F kd d Z c f R A q pos hp) {w':World} {R':AR} {A':NS} {q':Nat} {pos':Nat->Nat} {hp':Nat->Option Nat} (hg:Goes F w w' (fun F'=>dJ K w' p F' kd d R' A' q')) (hi:tJ Z R' A' q' f pos' hp'):∃F',pz K w0 w' m p mb a N cap F' kd d Z c f R' A' q' pos' hp'/\aa F w w'/\∀z,z∈F'->z∈F\/w.heap.size<=z:=by
 obtain ⟨F',hP,hu,hf⟩:=hg;obtain ⟨h1,h2,_,_⟩:=h.store (f':=f) (hp':=hp') (pos':=pos') hP hu hf;exact ⟨F',h1 _ _ h2 (aa.refl _ _) hi,hu,hf⟩
theorem pz.upd (h:pz K w0 w m p mb a N cap F kd d Z c f R A q pos hp) {w':World} {S:List Nat} (hu:aa S w w') (hS:∀x,x∈S->x∉F/\x≠m/\x≠mb/\w0.heap.size<=x):pz K w0 w' m p mb a N cap F kd d Z c f R A q pos hp:=
  ⟨hu.kept h.c0 (fun e=>(hS _ e).2.1 rfl),hu.kept h.c1 (fun e=>(hS _ e).2.1 rfl),hu.kept h.c2 (fun e=>(hS _ e).2.1 rfl),h.pq.upd hu (fun x hx=>(hS x hx).1),h.map.upd hu (fun e=>(hS _ e).2.2.1 rfl),h.ll,h.lN,
   h.u.joined hu (fun x hx=>Β (hS x hx).2.2.2),h.m0,h.b0,h.f0,h.mF,h.bF,h.XR,h.i⟩
theorem pz.Iu (h:pz K w0 w m p mb a N cap F kd d Z c f R A q pos hp) {pos':Nat->Nat} (hi:tJ Z R A q f pos' hp):pz K w0 w m p mb a N cap F kd d Z c f R A q pos' hp:=
 ⟨h.c0,h.c1,h.c2,h.pq,h.map,h.ll,h.lN,h.u,h.m0,h.b0,h.f0,h.mF,h.bF,h.XR,hi⟩
structure og (K:dI) (w0 w wr:World) (m p mb:Nat) (a:Option Addr) (N cap:Nat) (F0 F:List Nat) (kd d:Int) (Z:List (List Int)) (c:Nat) (f:Int->Int->Option Pl) (R:AR) (A:NS) (q:Nat) (pos:Nat->Nat) (hp:Nat->Option Nat) (v:Value) (n:Nat) (Q:List Pl):Prop where
 g:pz K w0 wr m p mb a N cap F kd d Z c f R A q pos hp
 own:wr.ownsRow w.heap.size 53 2 v n (rD Q)
 off:∀g,v.ownBlock=some g->g∉F
 up:aa (mb::F0) w wr
 fr:∀z,z∈F->z∈F0\/w.heap.size<=z
 ml:m<w.heap.size
 bl:mb<w.heap.size
 Sc:w0.heap.size<=w.heap.size
theorem og.start (h:pz K w0 w m p mb a N cap F kd d Z c f R A q pos hp):og K w0 w w m p mb a N cap F F kd d Z c f R A q pos hp (.slice none 0 0) 0 []:=
 ⟨h,⟨rfl,Α ⟨rfl,rfl⟩⟩,fun g hg=>(by cases hg),aa.refl _ _,fun z hz=>Α hz,Ε _ _ h.c0,h.map.lt,h.u.size⟩
theorem og.upd (h:og K w0 w wr m p mb a N cap F0 F kd d Z c f R A q pos hp v n Q) {w':World} {S:List Nat} (hu:aa S wr w') (hS:∀x,x∈S->x∉F/\w.heap.size<=x/\v.ownBlock≠some x):og K w0 w w' m p mb a N cap F0 F kd d Z c f R A q pos hp v n Q:=
 ⟨h.g.upd hu (fun x hx=>⟨(hS x hx).1,by have:=(hS x hx).2.1;have:=h.ml;omega,by have:=(hS x hx).2.1;have:=h.bl;omega,by have:=(hS x hx).2.1;have:=h.Sc;omega⟩),aA h.own hu (fun k hk hm=>(hS k hm).2.2 hk),h.off,h.up.joined hu (fun x hx=>Β (hS x hx).2.1),h.fr,h.ml,h.bl,h.Sc⟩
theorem og.ae (h:og K w0 w wr m p mb a N cap F0 F kd d Z c f R A q pos hp v n Q) {w':World} (hu:aa [] wr w'):og K w0 w w' m p mb a N cap F0 F kd d Z c f R A q pos hp v n Q:=h.upd hu σ
theorem og.goes (h:og K w0 w wr m p mb a N cap F0 F kd d Z c f R A q pos hp v n Q) {w':World} {R':AR} {A':NS} {q':Nat} {pos':Nat->Nat} {hp':Nat->Option Nat} (hg:Goes F wr w' (fun F'=>dJ K w' p F' kd d R' A' q')) (hi:tJ Z R' A' q' f pos' hp'):∃F',og K w0 w w' m p mb a N cap F0 F' kd d Z c f R' A' q' pos' hp' v n Q/\aa F wr w'/\∀z,z∈F'->z∈F\/wr.heap.size<=z:=by
 obtain ⟨F',h1,h2,h3⟩:=h.g.goes hg hi;have hs:=h.up.size;refine ⟨F',⟨h1,aA h.own h2 h.off,fun g hg hm=>?_,h.up.joined h2 (fun x hx=>(h.fr x hx).imp (fun e=>Λ _ e) id),fun z hz=>?_,h.ml,h.bl,h.Sc⟩,h2,h3⟩
 ·rcases h3 g hm with e|e
  ·exact h.off g hg e
  ·have:=(h.own.lt g hg).2;omega
 ·rcases h3 z hz with e|e
  ·exact h.fr z e
  ·exact Β ω
theorem og.app (h:og K w0 w wr m p mb a N cap F0 F kd d Z c f R A q pos hp v n Q) {w':World} {v':Value} {n':Nat} {Q':List Pl} (ho:w'.ownsRow w.heap.size 53 2 v' n' (rD Q')) (hu:aa v.ownBlock.toList wr w') (hs:v'.ownBlock=v.ownBlock\/∀k,v'.ownBlock=some k->wr.heap.size<k):og K w0 w w' m p mb a N cap F0 F kd d Z c f R A q pos hp v' n' Q':=by
 have MJ:=h.g.pq.lt;have Qt:=h.ml;have hbl:=h.bl;have h0l:=h.Sc;refine ⟨h.g.upd hu (fun x hx=>?_),ho,fun g hg hm=>?_,h.up.own h.own (Θ _) hu,h.fr,h.ml,h.bl,h.Sc⟩
 ·have hx':=Option.mem_toList.1 hx;have hb:=(h.own.lt x hx').1;exact ⟨h.off x hx',ω,ω,ω⟩
 ·rcases hs with e|e
  ·rw [e] at hg;exact h.off g hg hm
  ·have:=e g hg;have:=MJ g hm;omega
theorem og.min (h:og K w0 w wr m p mb a N cap F0 F kd d Z c f R A q pos hp v n Q) {x:Nat} (hM:bu A 1=some x) {k:Int} (hk:(A.c x).k=k) :
  Calls Tryz.prog 43 #[.pointer (some ⟨p,0,none⟩),.int .i64 1] wr fun e w'=>e=.returned (.tuple #[.agg #[.int .i64 (x:Int),.int .u32 (R.g x:Int)],.int .i64 k,.int .i64 0])/\∃F',og K w0 w w' m p mb a N cap F0 F' kd d Z c f R A q pos hp v n Q/\aa F wr w'/\∀z,z∈F'->z∈F\/wr.heap.size<=z:=by
 subst hk;exact (vL h.g.pq 1 hM).mono (fun e w' hh=>⟨hh.1,h.goes hh.2 h.g.i⟩)
theorem og.minE (h:og K w0 w wr m p mb a N cap F0 F kd d Z c f R A q pos hp v n Q) (hM:bu A 1=none) :
  Calls Tryz.prog 43 #[.pointer (some ⟨p,0,none⟩),.int .i64 1] wr fun e w'=>e=.returned (.tuple #[.agg #[.int .i64 0,.int .u32 0],.int .i64 0,.int .i64 (nT A 1)])/\∃F',og K w0 w w' m p mb a N cap F0 F' kd d Z c f R A q pos hp v n Q/\aa F wr w'/\∀z,z∈F'->z∈F\/wr.heap.size<=z:=
 (EB h.g.pq 1 ω hM).mono (fun e w' hh=>⟨hh.1,h.goes hh.2 h.g.i⟩)
theorem og.ext (h:og K w0 w wr m p mb a N cap F0 F kd d Z c f R A q pos hp v n Q) {x l:Nat} (hM:bu A 1=some x) {k:Int} (hk:(A.c x).k=k) (hl:hp l=some x) (hq:q<4294967295) :
  Calls Tryz.prog 41 #[.pointer (some ⟨p,0,none⟩),.int .i64 1] wr fun e w'=>e=.returned (.tuple #[.agg #[.int .i64 (x:Int),.int .u32 (R.g x:Int)],.int .i64 k,.int .i64 0])/\∃F',og K w0 w w' m p mb a N cap F0 F' kd d Z c f (dY R x) (aL A (x:Int)) q pos (fun i=>if i=l then none else hp i) v n Q/\aa F wr w'/\∀z,z∈F'->z∈F\/wr.heap.size<=z:=by
 subst hk;exact (vD h.g.pq 1 hM).mono (fun e w' hh=>⟨hh.1,h.goes hh.2 (h.g.i.pop' hq hM hl (fun i _=>rfl))⟩)
theorem og.WZ (h:og K w0 w wr m p mb a N cap F0 F kd d Z c f R A q pos hp v n Q) (l:Nat) (hl:l<N) (k:Nat) (hk:zl Z l<=k) :
  Calls Tryz.prog 48 #[.pointer (some ⟨m,0,none⟩),.agg #[.int .i64 (l:Int),.int .i64 (k:Int)]] wr fun e w'=>e=.returned (.tuple #[])/\og K w0 w w' m p mb a N cap F0 F kd d Z c f R A q pos hp v n Q:=
 (Iy h.g l hl k hk).mono (fun e w' hh=>⟨hh.1,h.ae hh.2⟩)
theorem og.Xb (h:og K w0 w wr m p mb a N cap F0 F kd d Z c f R A q pos hp v n Q) (l:Nat) (hl:l<N) (h0:hp l=none) (hk:pos l<zl Z l) (hq:q+1<=4294967295) (hc:c<9223372036854775807) (hb:∀p, -9223372036854775808<=zk Z p/\zk Z p<=9223372036854775807) :
  Calls Tryz.prog 48 #[.pointer (some ⟨m,0,none⟩),.agg #[.int .i64 (l:Int),.int .i64 (pos l:Int)]] wr fun e w'=>e=.returned (.tuple #[])/\∃F' x f' R' A',og K w0 w w' m p mb a N cap F0 F' kd d Z (c+1) f' R' A' (q+1) pos (fun i=>if i=l then some x else hp i) v n Q:=by
 refine (Et h.g l hl h0 hk hq hc hb).mono (fun e w' hh=>⟨hh.1,?_⟩);obtain ⟨F',x,f',R',A',h1,h2,h3⟩:=hh.2;have hs:=h.up.size;have hbl:=h.bl;have hoff:∀g,v.ownBlock=some g->g∉mb::F:=fun g hg hm=>by
  rcases ρ.1 hm with e|e
  ·have:=(h.own.lt g hg).1;omega
  ·exact h.off g hg e
 refine ⟨F',x,f',R',A',⟨h1,aA h.own h2 hoff,fun g hg hm=>?_,h.up.joined h2 (fun x hx=>?_),fun z hz=>?_,h.ml,h.bl,h.Sc⟩⟩
 ·rcases h3 g hm with e|e
  ·exact h.off g hg e
  ·have:=(h.own.lt g hg).2;omega
 ·rcases ρ.1 hx with e|e
  ·exact Α (by rw [e];simp)
  ·exact (h.fr x e).imp (fun e=>Λ _ e) id
 ·rcases h3 z hz with e|e
  ·exact h.fr z e
  ·exact Β ω
theorem og.Iu (h:og K w0 w wr m p mb a N cap F0 F kd d Z c f R A q pos hp v n Q) {pos':Nat->Nat} (hi:tJ Z R A q f pos' hp):og K w0 w wr m p mb a N cap F0 F kd d Z c f R A q pos' hp v n Q:=
 ⟨h.g.Iu hi,h.own,h.off,h.up,h.fr,h.ml,h.bl,h.Sc⟩
theorem pz.items (h:pz K w0 w m p mb a N cap F kd d Z c f R A q pos hp) {l:Nat} (hl:l<N) (h0:0<zl Z l):∃g off ge oe cx,a=some ⟨g,off,none⟩/\w0.cell? ⟨g,off+l,none⟩=some (.slice (some ⟨ge,oe,none⟩) (zl Z l) cx)/\∀k,k<zl Z l->w0.cell? ⟨ge,oe+k,none⟩=some (.int .i64 (zk Z (l,k))):=by
 have hx:Z[l]?=some (Z.getD l []):=by simp [φ,h.lN,hl]
 obtain ⟨g,off,ax,cx,e,hg,hc,_,_,hs⟩:=h.ll.at hx;obtain ⟨a',c',he,_,_,h3⟩:=hs;cases he;obtain ⟨ge,oe,rfl,_,_,_⟩:=h3 0 _ (ε h0);refine ⟨g,off,ge,oe,_,e,hc,fun k hk=>?_⟩;obtain ⟨_,_,he,_,_,h5⟩:=h3 k _ (ε hk);cases he;rw [h5];simp [zk,φ,ε (show k<((Z[l]?).getD []).length by simpa [zl,φ] using hk)]
end
section
variable {K:dI} {w0 w wr:World} {m p mb N cap:Nat} {a:Option Addr} {F0 F:List Nat} {kd d:Int} {Z:List (List Int)} {c:Nat} {f:Int->Int->Option Pl} {R:AR} {A:NS} {q:Nat} {pos:Nat->Nat} {hp:Nat->Option Nat} {v:Value} {n:Nat} {Q:List Pl}
def Ji (K:dI) (w0 w:World) (m p mb:Nat) (a:Option Addr) (N cap:Nat) (F0:List Nat) (kd d:Int) (Z:List (List Int)) (fO:Nat->Nat) (e:Ending) (w':World):Prop:=
 ∃ (jE:Int) (Q C:List Pl) (g n co:Nat) (F':List Nat) (c':Nat) (f':Int->Int->Option Pl) (R':AR) (A':NS) (q':Nat) (pos':Nat->Nat) (hp':Nat->Option Nat),e=.returned (.slice (some ⟨g,0,none⟩) n co)/\0<n/\C.length=n/\w.heap.size<=g/\PR w' g C/\C.Perm Q/\eY C/\
  (∀l,l<Z.length->pos' l<zl Z l->jE<zk Z (l,pos' l))/\pz K w0 w' m p mb a N cap F' kd d Z c' f' R' A' q' pos' hp'/\Mc Z jE fO A' q' c' pos' hp' n Q/\aa (mb::F0) w w'/\∀z,z∈F'->z∈F0\/w.heap.size<=z
theorem Ip (h:pz K w0 w m p mb a N cap F kd d Z c f R A q pos hp) (hz:yT Z) (hN:Z.length<=65536) (hT:bJ Z<=65536) (hb:∀p, -9223372036854775808<=zk Z p/\zk Z p<=9223372036854775807) (hle:∀l,l<Z.length->pos l<=zl Z l) (hfull:∀l,l<Z.length->pos l<zl Z l->hp l≠none) {m0:Nat} (hm:bu A 1=some m0) (hq:q<=jw Z pos+iW Z (fun i=>(hp i).isSome)) (hc:c<=q) :
  Calls Tryz.prog 49 #[.pointer (some ⟨m,0,none⟩)] w (Ji K w0 w m p mb a N cap F kd d Z pos):=by
 obtain ⟨l0,e1,e2,e3,e4,e5,e6,e7⟩:=h.i.first hm;obtain ⟨jE,Xr⟩:∃jE,zk Z (l0,pos l0)=jE:=⟨_,rfl⟩;rw [Xr] at e5 e7
 have hS0:Hid (Mc Z jE pos A q c pos hp 0 []):=⟨BS.start hle hfull (fun l hl hlt=>by
  obtain ⟨x,hx⟩:=Option.ne_none_iff_exists'.1 (hfull l hl hlt)
  exact e7 l x hx),hq,hc,rfl,ω,fun _=>⟨m0,hm,e5⟩⟩
 have c0:=h.c0;have hmw:m<w.heap.size:=Ε _ _ c0;have kM1:=(og.start h).min hm e5;have HG:=χ (ψ hz (ψ hN (ψ hT (ψ hb (show m<w.heap.size from hmw)))));clear h hz hN hT hb hle hfull hq hc hm e1 e2 e3 e4 e5 e6 e7 Xr;unfold Ji
 go_enter Tryz.func49,Tryz.ntmps49
 go_wp2_with (first|((go_at_call 43;(with_reducible refine (kM1).mono ?_));rintro e w1 ⟨rfl,F1,zW,hu1,hf1⟩)|fail)
 refine fA (fun W=>og K w0 w W m p mb a N cap F F1 kd d Z c f R A q pos hp (.slice none 0 0) 0 []) (zW.ae β) ?_;rintro W wu;have HW:=χ wu;clear zW wu hu1 hf1 kM1 c0
 go_loopw [6,7,8,9,10,11] (fun v6 _ _ _ _ _ wr=>∃ (n:Nat) (ao:Option Addr) (co:Nat) (Q:List Pl) (F':List Nat) (c':Nat) (f':Int->Int->Option Pl) (R':AR) (A':NS) (q':Nat) (pos':Nat->Nat) (hp':Nat->Option Nat),v6=.slice ao n co/\og K w0 w wr m p mb a N cap F F' kd d Z c' f' R' A' q' pos' hp' (.slice ao n co) n Q/\Mc Z jE pos A' q' c' pos' hp' n Q) (fun v6 _ _ _ _ _ _=>bJ Z-yf v6)
 case atStart=>exact ⟨0,none,0,[],_,_,_,_,_,_,_,_,rfl,HW.out,hS0.out⟩
 case round=>
  obtain ⟨n,ao,co,Q,F',c',f',R',A',q',pos',hp',rfl,hR,hS⟩:=hrel;rename World=>wr;have c0:=hR.g.c0;have hmr:=Ε _ _ c0;obtain ⟨hz,hN,hT,hb,Qt⟩:=HG.out;cases hm':bu A' 1 with
  | none=>
   have kM:=fun W (hW:aa [] wr W)=>(hR.ae hW).minE hm';have hE:(nT A' 1 != 0)=true:=by unfold nT;rw [hm'];split<;>simp
   have hfin:=hS.r.Lj hR.g.i hm';have hn0:0<n:=Nat.pos_of_ne_zero (fun e=>by obtain ⟨x,hx,_⟩:=hS.z e;rw [hm'] at hx;cases hx);have HF:=χ (ψ hN (ψ hT (ψ hS (ψ hfin hn0))));clear hz hN hT hb hS hfin hm' hn0;generalize nT A' 1=er at *
   (go_upto_region 14 with (first|((go_at_call 43;(with_reducible refine (kM _ β).mono ?_));rintro e w6 ⟨rfl,F6,Qv,fq,Mv⟩)|fail);refine fA (fun W=>∃F2,og K w0 w W m p mb a N cap F F2 kd d Z c' f' R' A' q' pos' hp' (.slice ao n co) n Q) ⟨_,Qv.ae β⟩ ?_;rintro W ⟨F2,wu⟩;obtain ⟨hN,hT,hS,hfin,hn0⟩:=HF.out;obtain ⟨g,cp,hv,hg,hQl,hnc,hcc,RF⟩:=PR.fE wu.own (hS.small hN hT) hn0;cases hv;have kS:=xX W g n co Q RF hQl (by have:=hS.le;omega);have HR:=χ (ψ wu (ψ hg RF.lt));clear wu RF hg hS hR Qv hfin hN hT fq Mv kM;go_wp2_with (first|((go_at_call 72;(with_reducible refine (kS).mono ?_));rintro e w9 ⟨rfl,C,jH,hC2,Ac,jR⟩)|fail);go_ret;obtain ⟨wu,hg,hgl⟩:=HR.out;obtain ⟨hN,hT,hS,hfin,hn0⟩:=HF.out;have wY:g∉F2:=wu.off g rfl;exact ⟨jE,Q,C,g,n,co,F2,c',f',R',A',q',pos',hp',rfl,hn0,by rw [jH.length_eq];exact hS.hl,hg,Ac,jH,hC2,hfin,wu.g.upd jR (fun x hx=>by simp at hx;subst hx;exact ⟨wY,by have:=wu.ml;omega,by have:=wu.bl;omega,by have:=wu.Sc;omega⟩),hS,wu.up.joined jR (fun x hx=>by simp at hx;subst hx;exact Β hg),wu.fr⟩)
  | some x=>
   by_cases hk:(A'.c x).k=jE
   ·obtain ⟨l,hl,Zm,hlt,hv,hkz,hfx, -⟩:=hR.g.i.first hm';rw [hk] at hkz;have hlN:l<N:=by rw [←hR.g.lN];exact Zm
    obtain ⟨g,off,ge,oe,cx,rfl,hcl,hce⟩:=hR.g.items hlN ω;have hq':=hS.qle hR.g.i hT;have hgx:=hR.g.i.s.gn x;have hxb:x<65536:=by have h1:=hR.g.i.s.ok.n;have h2:=AR.GD hv;omega
    have kM:=fun W (hW:aa [] wr W)=>(hR.ae hW).min hm' hk;have HA:=χ (fun (Xe:Nat->Nat) (h:∀i,i≠l->Xe i=pos' i)=>hR.g.i.pop' ω hm' hl h);have HT:=χ (hS.out hR.g.i hl Zm);have HS:=χ hS;have HI:=χ hR.g.i;obtain ⟨gx,hgx'⟩:∃gx,R'.g x=gx:=⟨_,rfl⟩;rw [hgx'] at kM hfx hgx;have HC:=χ (ψ hcl (ψ hce (ψ hkz (ψ hlt Zm))));have HD:=χ (ψ hm' (ψ hk hl));clear hz hN hT hb hS hcl hce hkz hm' hk hv
    go_upto_region 7 with (first|((go_at_call 43;(with_reducible refine (kM _ β).mono ?_));rintro e w6 ⟨rfl,F6,Qv,fq,Mv⟩)|fail)
    refine fA (fun W=>og K w0 w W m p mb (some ⟨g,off,none⟩) N cap F F6 kd d Z c' f' R' A' q' pos' hp' (.slice ao n co) n Q/\Bx W w6.heap.size (.int .i64 (x:Int)) (.int .u32 (gx:Int))) ⟨Qv.ae β,⟨γ,γ,γ,γ⟩⟩ ?_;rintro W7 ⟨Ym,hX⟩;clear Qv hR kM c0 hmr Mv fq;generalize w6.heap.size=X at *;have c2:=Ym.g.c2;have hml7:m<W7.heap.size:=Ε _ _ c2;have Cu:¬m=W7.heap.size:=ω;have hXl:=hX.lt;have AY:¬X=W7.heap.size:=ω;obtain ⟨x0,x1, -, -⟩:=hX;have hl1:=(Ym.g.map.upd (S:=[]) (w':=W7.drew) β σ).look hfx ω ω
    have hl2:=(Ym.g.map.upd (S:=[]) (w':=(W7.alloc (.cells #[.int .i64 0,.int .i64 0] 53)).drew) β σ).look hfx ω ω;unfold hV R8 at hl1 hl2;have Xh:=χ Ym;clear Ym;have hPF:W7.heap.size∉F6:=fun e=>absurd (Xh.out.g.pq.lt _ e) (Nat.lt_irrefl _);have Zq:∀k,Value.ownBlock (.slice ao n co)=some k->k≠W7.heap.size:=fun k hk=>Nat.ne_of_lt (Xh.out.own.lt k hk).2;have hPb:w.heap.size<=W7.heap.size:=Xh.out.up.size
    go_region
    all_goals
     go_upto_region 8 with (fail)
     refine fA (fun W=>og K w0 w W m p mb (some ⟨g,off,none⟩) N cap F F6 kd d Z c' f' R' A' q' pos' hp' (.slice ao n co) n Q/\Bx W W7.heap.size (.int .i64 (l:Int)) (.int .i64 (pos' l:Int))) ⟨Xh.out.ae β,⟨γ,γ,γ,γ⟩⟩ ?_;rintro W8 ⟨hR8,hP⟩;clear hl1 hl2 Xh c2 hml7 Cu hXl AY x0 x1;generalize W7.heap.size=P at *;have c0:=hR8.g.c0;have kE:=fun W (hW:aa [] W8 W)=>(hR8.ae hW).ext HD.out.1 HD.out.2.1 HD.out.2.2 ω;have hml8:=Ε _ _ c0
     go_upto_region 9 with (first|((go_at_call 41;(with_reducible refine (kE _ β).mono ?_));rintro e w9 ⟨rfl,F9,hR9,jR,hf9⟩)|fail)
     have VA:Bx w9 P (.int .i64 (l:Int)) (.int .i64 (pos' l:Int)):=hP.upd jR hPF;have Yy:P∉F9:=fun e=>by rcases hf9 P e with e|e;exact hPF e;have:=hP.lt;omega
     have c1:=hR9.g.c1;have hcl:=hR9.g.u.was HC.out.1;obtain ⟨p0,p1, -, -⟩:=VA;have WG:(l:Int)<(N:Int):=ω;have H9:=χ (ψ hR9 (ψ hP jR));clear hR9 jR hf9 hR8 kE c0 hml8 hP
     go_quiet (fail)
     go_wp2;clear p0 p1 c1 hcl
     go_loopw [6] (fun v6 wi=>∃ (n1:Nat) (a1:Option Addr) (c1:Nat) (Q1:List Pl) (jU:Nat->Nat),v6=.slice a1 n1 c1/\og K w0 w wi m p mb (some ⟨g,off,none⟩) N cap F F9 kd d Z c' f' (dY R' x) (aL A' (x:Int)) q' pos' (fun i=>if i=l then none else hp' i) (.slice a1 n1 c1) n1 Q1/\Bx wi P (.int .i64 (l:Int)) (.int .i64 (jU l:Int))/\(∀k,Value.ownBlock (.slice a1 n1 c1)=some k->k≠P)/\Pj Z jE pos pos' q' c' l jU (fun i=>if i=l then none else hp' i) n1 Q1) (fun v6 _=>bJ Z-yf v6)
     case atStart=>exact ⟨n,ao,co,Q,pos',rfl,H9.out.1.ae β,(H9.out.2.1.upd H9.out.2.2 hPF).upd (S:=[]) β σ,Zq,HT.out⟩
     case round=>
      clear Zq;obtain ⟨n1,a1,c1,Q1,jU,rfl,zW,hB,Zq,hT1⟩:=hrel;rename World=>wi;have hTT:=HG.out.2.2.1;have hn1:=hT1.le;have hple:=(hT1.r.le l HC.out.2.2.2.2).2;have hzz:=EG Z l HC.out.2.2.2.2;have hb0:w.heap.size<=wi.heap.size:=zW.up.size;obtain ⟨p0,p1,g0,g1⟩:=hB
      by_cases hlt1:jU l<zl Z l
      ·have hce:=zW.g.u.was (HC.out.2.1 _ hlt1);have yZ:(jU l:Int)<(zl Z l:Int):=ω;have hltD:decide ((jU l:Int)<(zl Z l:Int))=true:=by simpa using hlt1
       by_cases hkk:zk Z (l,jU l)=jE
       ·have ho:=zW.own;have Tv:P∉(Value.ownBlock (.slice a1 n1 c1)).toList:=fun e=>Zq P (Option.mem_toList.1 e) rfl;have hPs:=Ε _ _ p0;have hwr:IntKind.i64.wrap ((jU l:Int)+1)=(jU l:Int)+1:=Μ _ ω;have hn2:=(hT1.add HG.out.1 HC.out.2.2.2.2 hlt1 hkk).le;have HI:=χ (ψ zW (ψ hT1 (ψ hlt1 hkk)));rw [hkk] at hce;clear zW hT1 hlt1 hkk
        go_wp2_with (first|((at_builtin;refine ak rfl _ _ 42 rfl w.heap.size 53 (.agg #[.int .i64 0,.int .i64 0]) 2 16 Tryz.underlying42 OL rfl δ _ _ _ rfl ho [.int .i64 (l:Int),.int .i64 (jU l:Int)] rfl (by simp [Value.oneCell']) (by first|rfl|(rw [Κ];rfl)) μ ω ω ?_;intro v9 w9 Cy jR si;obtain ⟨a9,c9,rfl,ZY⟩:=aR Cy);(have r0:=jR.kept p0 Tv);(have r1:=jR.kept p1 Tv);(have r3:=jR.aP p1 Tv g1);(have r2:=jR.aP p0 Tv g0))|fail)
        go_roundw
        case rel=>
         obtain ⟨zW,hT1,hlt1,hkk⟩:=HI.out;have hA:=zW.app (Q':=Q1++[(l,jU l)]) (by rw [tZ];exact Cy) jR si;have hPb2:P∉F9:=Yy;have XD:∀k,Value.ownBlock (.slice a9 (n1+1) c9)=some k->k≠P:=fun k hk=>by
          rcases si with e|e
          ·rw [e] at hk;exact Zq k hk
          ·have:=e k hk;dsimp only at hPs;omega
         have hst:iP jU l l=jU l+1:=by unfold iP;rw [Δ rfl]
         refine ⟨n1+1,a9,c9,Q1++[(l,jU l)],iP jU l,rfl,hA.upd (S:=[P]) ν (fun x hx=>by simp at hx;subst hx;exact ⟨Yy,hPb,fun e=>XD _ e rfl⟩),⟨γ,by rw [hst];go_simp,γ,γ⟩,XD,hT1.add HG.out.1 HC.out.2.2.2.2 hlt1 hkk⟩
        case measure=>simp [yf];omega
       ·have hkB:(zk Z (l,jU l) == jE)=false:=by simpa using hkk
        have XJ:pos' l<jU l:=by
         have h1:=hT1.lo;rcases ϗ (pos' l) (jU l) with e|e
         ·exact e
         ·exact absurd (by rw [show jU l=pos' l by omega];exact HC.out.2.2.1.symm) hkk
        have kP:=fun W (hW:aa [] wi W)=>((zW.ae hW).Iu (HA.out jU hT1.b)).Xb l ω (Δ rfl) hlt1 ω (by have:=hT1.hc;omega) HG.out.2.2.2.1;have HI:=χ (ψ hT1 (ψ XJ (HT.out.hs)));clear zW hT1 hlt1 hkk XJ
        go_wp2_with (first|((go_at_call 48;(with_reducible refine (kP _ β).mono ?_));rintro e Qx ⟨rfl,F10,x10,f10,R10,A10,Un⟩)|fail)
        go_roundw
        case rel=>exact ⟨n1,a1,c1,Q1,F10,_,f10,R10,A10,_,jU,_,rfl,Un,HI.out.1.Zg HI.out.2.1 HC.out.2.2.2.2 (Δ rfl) x10⟩
        case measure=>
         have h1:=HI.out.1.hs;have h2:=HI.out.1.t;have h3:=HI.out.2.1;have h4:=HI.out.2.2;simp [yf];omega
      ·have yZ:¬ (jU l:Int)<(zl Z l:Int):=ω;have hltD:decide ((jU l:Int)<(zl Z l:Int))=false:=ζ;have XJ:pos' l<jU l:=by have:=HC.out.2.2.2.1;omega
       have kP:=fun W (hW:aa [] wi W)=>((zW.ae hW).Iu (HA.out jU hT1.b)).WZ l ω (jU l) ω;have HI:=χ (ψ hT1 (ψ XJ (ψ (HT.out.hs) hlt1)));clear zW hT1 hlt1 XJ
       go_wp2_with (first|((go_at_call 48;(with_reducible refine (kP _ β).mono ?_));rintro e Qx ⟨rfl,Un⟩)|fail)
       go_roundw
       case rel=>exact ⟨n1,a1,c1,Q1,_,_,_,_,_,_,jU,_,rfl,Un,HI.out.1.Y3 HI.out.2.1 (by have:=HI.out.2.2.2;omega)⟩
       case measure=>
        have h1:=HI.out.1.hs;have h2:=HI.out.1.t;have h3:=HI.out.2.1;have h4:=HI.out.2.2.1;simp [yf];omega
   ·have kM:=fun W (hW:aa [] wr W)=>(hR.ae hW).min hm' rfl;have hfin:=hS.r.Kn hR.g.i hm' hk;have hn0:0<n:=Nat.pos_of_ne_zero (fun e=>by obtain ⟨y,hy,hy2⟩:=hS.z e;rw [hm'] at hy;cases hy;exact hk hy2);have HF:=χ (ψ hN (ψ hT (ψ hS (ψ hfin hn0))));clear hz hN hT hb hS hfin hm' hn0;generalize (A'.c x).k=k at *;have hkB:(k != jE)=true:=by simpa using hk
    (go_upto_region 14 with (first|((go_at_call 43;(with_reducible refine (kM _ β).mono ?_));rintro e w6 ⟨rfl,F6,Qv,fq,Mv⟩)|fail);refine fA (fun W=>∃F2,og K w0 w W m p mb a N cap F F2 kd d Z c' f' R' A' q' pos' hp' (.slice ao n co) n Q) ⟨_,Qv.ae β⟩ ?_;rintro W ⟨F2,wu⟩;obtain ⟨hN,hT,hS,hfin,hn0⟩:=HF.out;obtain ⟨g,cp,hv,hg,hQl,hnc,hcc,RF⟩:=PR.fE wu.own (hS.small hN hT) hn0;cases hv;have kS:=xX W g n co Q RF hQl (by have:=hS.le;omega);have HR:=χ (ψ wu (ψ hg RF.lt));clear wu RF hg hS hR Qv hfin hN hT fq Mv kM;go_wp2_with (first|((go_at_call 72;(with_reducible refine (kS).mono ?_));rintro e w9 ⟨rfl,C,jH,hC2,Ac,jR⟩)|fail);go_ret;obtain ⟨wu,hg,hgl⟩:=HR.out;obtain ⟨hN,hT,hS,hfin,hn0⟩:=HF.out;have wY:g∉F2:=wu.off g rfl;exact ⟨jE,Q,C,g,n,co,F2,c',f',R',A',q',pos',hp',rfl,hn0,by rw [jH.length_eq];exact hS.hl,hg,Ac,jH,hC2,hfin,wu.g.upd jR (fun x hx=>by simp at hx;subst hx;exact ⟨wY,by have:=wu.ml;omega,by have:=wu.bl;omega,by have:=wu.Sc;omega⟩),hS,wu.up.joined jR (fun x hx=>by simp at hx;subst hx;exact Β hg),wu.fr⟩)
end
structure Xx (Z:List (List Int)) (q c:Nat) (pos:Nat->Nat) (hp:Nat->Option Nat):Prop where
 le:∀l,l<Z.length->pos l<=zl Z l
 full:∀l,l<Z.length->pos l<zl Z l->hp l≠none
 hq:q<=jw Z pos+iW Z (fun i=>(hp i).isSome)
 hc:c<=q
def Ww (w:World) (lo:Nat) (v:Value) (n:Nat) (C:List Pl):Prop:=
 C.length=n/\((v=.slice none 0 0/\n=0)\/∃g co,v=.slice (some ⟨g,0,none⟩) n co/\0<n/\lo<=g/\PR w g C)
section
variable {K:dI} {w0 w:World} {m p mb N cap:Nat} {a:Option Addr} {F:List Nat} {kd d:Int} {Z:List (List Int)} {c:Nat} {f:Int->Int->Option Pl} {R:AR} {A:NS} {q:Nat} {pos:Nat->Nat} {hp:Nat->Option Nat} {O:List Pl}
theorem zU (h:pz K w0 w m p mb a N cap F kd d Z c f R A q pos hp) (hQ:Xx Z q c pos hp) (hO:SS Z pos O) (hz:yT Z) (hN:Z.length<=65536) (hT:bJ Z<=65536) (hb:∀p, -9223372036854775808<=zk Z p/\zk Z p<=9223372036854775807) :
  Calls Tryz.prog 49 #[.pointer (some ⟨m,0,none⟩)] w fun e w'=>∃ (v:Value) (n:Nat) (C:List Pl) (F':List Nat) (c':Nat) (f':Int->Int->Option Pl) (R':AR) (A':NS) (q':Nat) (pos':Nat->Nat) (hp':Nat->Option Nat),e=.returned v/\Ww w' w.heap.size v n C/\pz K w0 w' m p mb a N cap F' kd d Z c' f' R' A' q' pos' hp'/\Xx Z q' c' pos' hp'/\SS Z pos' (O++C)/\n+jw Z pos=jw Z pos'/\(n=0->∀l,l<Z.length->pos' l=zl Z l)/\aa (mb::F) w w'/\∀z,z∈F'->z∈F\/w.heap.size<=z:=by
 cases hm:bu A 1 with
 | none=>
  refine (F7 h hm).mono (fun e w' hh=>?_);obtain ⟨he,F',h1,h2,h3⟩:=hh;refine ⟨_,0,[],F',_,_,_,_,_,_,_,he,⟨rfl,Α ⟨rfl,rfl⟩⟩,h1,hQ,by rw [Υ];exact hO,ω,fun _ l hl=>?_,h2.mono (fun x hx=>Λ _ hx),h3⟩;have e1:=hQ.le l hl;have e2:=h.i.none hm l;have e3:=hQ.full l hl
  by_cases e:pos l<zl Z l
  ·exact absurd e2 (e3 e)
  ·omega
 | some m0=>
  refine (Ip h hz hN hT hb hQ.le hQ.full hm hQ.hq hQ.hc).mono (fun e w' hh=>?_);obtain ⟨jE,Q,C,g,n,co,F',c',f',R',A',q',pos',hp',he,h1,h2,h3,h4,h5,h6,h7,h8,h9,h10,h11⟩:=hh;exact ⟨_,n,C,F',c',f',R',A',q',pos',hp',he,⟨h2,Β ⟨g,co,rfl,h1,h3,h4⟩⟩,h8,⟨fun l hl=>(h9.r.le l hl).2,fun l hl hlt=>h9.r.full l hl hlt ω,h9.hq,h9.hc⟩,hO.add h9.r h5 h6 h7,h9.hs,fun e=>ω,h10,h11⟩
end
theorem Ql (Z:List (List Int)) (hT:bJ Z<=65536):tJ Z (AR.new (bJ Z) 4294967295) (Jg (NS.new (bJ Z)) 1) 0 (fun _ _=>none) (fun _=>0) (fun _=>none):=by
 have hm:Jg (NS.new (bJ Z)) 1=aD (NS.new (bJ Z)):=rfl;rw [hm];have hg0:∀x,(AR.new (bJ Z) 4294967295).g x=0:=fun x=>((AR.mg hT ω).fresh x (Nat.zero_le _)).1;refine ⟨⟨AR.mg hT ω,p9 (NS.mg _ hT),by rw [nO];simp [NS.new],by simp [AR.new],fun x=>by rw [EJ,qc,Cc],?_,rfl,fun x=>by rw [hg0];exact Θ _,fun x hx=>absurd hx (Nat.not_lt_zero _),?_⟩,fun l x hx=>(by cases hx),fun x hx=>by rw [EJ] at hx;cases hx⟩
 ·unfold aD NS.new bf;simp
 ·rw [AR.CG];exact (LZ Z).symm
theorem O6 (Z:List (List Int)):SS Z (fun _=>0) []:=
 ⟨ϧ,fun p=>⟨fun h=>(by cases h),fun h=>absurd h.2 (Nat.not_lt_zero _)⟩,List.Pairwise.nil,fun p hp=>(by cases hp)⟩
structure Q9 (Z:List (List Int)) (i q c:Nat) (hp:Nat->Option Nat):Prop where
 no:∀l,i<=l->hp l=none
 yes:∀l,l<i->0<zl Z l->hp l≠none
 hq:q<=iW Z (fun l=>(hp l).isSome)
 hc:c<=q
theorem Q9.step {Z:List (List Int)} {i q c:Nat} {hp:Nat->Option Nat} (h:Q9 Z i q c hp) (hi:i<Z.length) (x:Nat):Q9 Z (i+1) (q+1) (c+1) (fun l=>if l=i then some x else hp l):=by
 have h0:hp i=none:=h.no i (Θ _);have hc:iW Z (fun l=>(if l=i then some x else hp l).isSome)=iW Z (fun l=>(hp l).isSome)+1:=by
  rw [←lW Z (fun l=>(hp l).isSome) i hi (by simp [h0])];exact iD Z _ _ (fun l _=>by split<;>simp_all)
 have h1:=h.hq;have h2:=h.hc;refine ⟨fun l hl=>?_,fun l hl hz=>?_,by rw [hc];omega,ω⟩
 ·show (if l=i then some x else hp l)=_
  rw [Γ ω];exact h.no l ω
 ·show (if l=i then some x else hp l)≠_
  split
  ·simp
  ·exact h.yes l ω hz
theorem Q9.skip {Z:List (List Int)} {i q c:Nat} {hp:Nat->Option Nat} (h:Q9 Z i q c hp) (hz:zl Z i<=0):Q9 Z (i+1) q c hp:=
 ⟨fun l hl=>h.no l ω,fun l hl h0=>by
  by_cases e:l=i
  ·subst e;omega
  ·exact h.yes l ω h0,h.hq,h.hc⟩
theorem Q9.done {Z:List (List Int)} {q c:Nat} {hp:Nat->Option Nat} (h:Q9 Z Z.length q c hp):Xx Z q c (fun _=>0) hp:=
 ⟨fun l _=>Nat.zero_le _,fun l hl h0=>h.yes l hl h0,by rw [Ak];have:=h.hq;omega,h.hc⟩
theorem Ww.shape {w:World} {lo:Nat} {v:Value} {n:Nat} {C:List Pl} (h:Ww w lo v n C):∃al cl,v=.slice al n cl:=by
 rcases h.2 with ⟨rfl,rfl⟩|⟨g,co,rfl,_⟩
 ·exact ⟨_,_,rfl⟩
 ·exact ⟨_,_,rfl⟩
theorem Ww.row {w:World} {lo:Nat} {al:Option Addr} {n cl:Nat} {C:List Pl} (h:Ww w lo (.slice al n cl) n C) (hn:0<n):C.length=n/\∃g,al=some ⟨g,0,none⟩/\lo<=g/\PR w g C:=by
 rcases h.2 with ⟨_,e⟩|⟨g,co,e,_,h1,h2⟩
 ·omega
 ·cases e;exact ⟨h.1,g,rfl,h1,h2⟩
theorem KG {Z:List (List Int)} (hr:Z.any (fun l=>!dw l)=false):yT Z:=fun l k hl hk=>by
 have h1:=List.any_eq_false.1 hr (Z.getD l []) (Η (show Z[l]?=some (Z.getD l []) by simp [φ,hl]));have h2:dw (Z.getD l [])=true:=by simpa using h1
 exact tF.1 h2 k hk
theorem Qh {Z:List (List Int)} (hb:∀l,l∈Z->∀x,x∈l->-9223372036854775808<=x/\x<=9223372036854775807) (p:Pl):-9223372036854775808<=zk Z p/\zk Z p<=9223372036854775807:=by
 unfold zk;rw [φ,φ];cases h1:Z[p.1]? with
 | none=>simp
 | some l=>
  simp only [Option.getD_some];cases h2:l[p.2]? with
  | none=>simp
  | some x=>exact hb l (Η h1) x (Η h2)
theorem Ld {K:dI} (kd d:Int) (va:Value) (Z:List (List Int)) (w:World) (h:qz w va Z) (hb:∀l,l∈Z->∀x,x∈l->-9223372036854775808<=x/\x<=9223372036854775807) (hc:rV kd d=0) (hT:bJ Z<=65536) (hl:Z.length<=65536) (hr:Z.any (fun l=>!dw l)=false) (ko:j4 K kd d (bJ Z)) :
  Calls Tryz.prog 23 #[.agg #[.int .i64 kd,.int .i64 d],va] w fun e w'=>∃ao co,e=.returned (.tuple #[.slice ao (bJ Z) co,.int .i64 0])/\w'.ownsRow w.heap.size 53 2 (.slice ao (bJ Z) co) (bJ Z) (rD (mf Z))/\aa [] w w':=by
 have hkb:∀i,i<Z.length->(Z.getD i []).length<=1000000000000:=fun i hi=>by have h1:=EG Z i hi;unfold zl at h1;omega
 have km:=fun W (hW:aa [] w W)=>vQ W va Z (h.upd hW) hkb;have kc:=fun W (hW:aa [] w W)=>EN W va Z (h.upd hW);rw [hr] at kc;have hm:=xy Z 0 ω;rw [ϕ] at hm;rw [hm] at km;have kp:∀W:World,_:=fun W=>oU kd d (bJ Z) 1 W hc hT ω ko;rw [show ((1:Nat):Int)=1 from rfl] at kp;obtain ⟨a,cap,rfl,hcap,hcap2⟩:=h.shape;have HZ:=χ (ψ h (ψ (KG hr) (ψ hl (ψ hT (fun p=>Qh hb p)))));clear h hkb hc hb hr hm ko;generalize hN:Z.length=N at *;have HN:=χ hN;clear hN;have hnB:decide ((N:Int) > 65536)=false:=ζ;have hmm:=@run_makeMap Tryz.prog
 go_enter Tryz.func23,Tryz.ntmps23
 go_wp2_with (first
  | ((go_at_call 44;(with_reducible refine (km _ β).mono ?_));rintro e w1 ⟨rfl,hu1⟩;(have q0:w1.cell? ⟨w.heap.size,0,none⟩=some (.int .i64 kd):=hu1.was γ);(have q1:w1.cell? ⟨w.heap.size,1,none⟩=some (.int .i64 d):=hu1.was γ);(have hw1:aa [] w w1:=aa.trans β hu1))
  | ((go_at_call 39;(with_reducible refine (kp _).mono ?_));rintro e w2 ⟨p,F,rfl,hP2,hu2,hF2⟩)
  | ((go_at_call 45;(with_reducible refine (kc _ (hw1.trans hu2)).mono ?_));rintro e w3 ⟨rfl,hu3⟩)
  | fail)
 have Oa:=hP2.lt;have hs1:=hw1.size;have hs2:=hu2.size;have hs3:=hu3.size;refine fA (fun W=>pz K w W (w3.heap.size+1) p w3.heap.size a N cap F kd d Z 0 (fun _ _=>none) (AR.new (bJ Z) 4294967295) (Jg (NS.new (bJ Z)) 1) 0 (fun _=>0) (fun _=>none)) ⟨γ,γ,γ,hP2.ae (aa.trans hu3 β),(qB.made w3).upd (S:=[]) β σ,HZ.out.1,HN.out,(hw1.trans hu2).trans (aa.trans hu3 β),ω,ω,fun x hx=>by have:=hF2 x hx;omega,fun e=>by have:=Oa _ e;omega,fun e=>by have:=Oa _ e;omega,ω,Ql Z HZ.out.2.2.2.1⟩ ?_;rintro W hM;have HM:=χ hM;clear hM hP2 hF2 Oa hu3 hu2 hu1 hw1 q0 q1 kp km kc hmm;generalize w3.heap.size+1=m at *
 generalize w3.heap.size=mb at *;go_wp2
 go_loopw [10,38] (fun v10 v38 wr=>∃ (i c q:Nat) (F':List Nat) (f:Int->Int->Option Pl) (R:AR) (A:NS) (hp:Nat->Option Nat),i<=N/\v38=.int .i64 (i:Int)/\pz K w wr m p mb a N cap F' kd d Z c f R A q (fun _=>0) hp/\Q9 Z i q c hp) (fun _ v38 _=>N-(intOf v38).toNat)
 case atStart=>exact ⟨0,0,0,_,_,_,_,_,Nat.zero_le _,rfl,HM.out,⟨fun _ _=>rfl,fun l hl=>absurd hl (Nat.not_lt_zero _),Nat.zero_le _,Θ _⟩⟩
 case round=>
  obtain ⟨i,c,q,F',f,R,A,hp,hi,rfl,hM,hP⟩:=hrel;rename World=>wr;obtain ⟨-,hz,QI,hT,hb⟩:=HZ.out
  by_cases FX:i<N
  ·have Dg:(i:Int)<(N:Int):=ω;have TE:decide ((i:Int)<(N:Int))=true:=ζ;have hiZ:i<Z.length:=by rw [HN.out];exact FX
   have hwr:IntKind.i64.wrap ((i:Int)+1)=(i:Int)+1:=Μ _ ω
   by_cases h0:0<zl Z i
   ·have hcn:=hM.i.Nk;have kY:∀W,aa [] wr W->Calls Tryz.prog 48 #[.pointer (some ⟨m,0,none⟩),.agg #[.int .i64 (i:Int),.int .i64 0]] W _:=fun W (hW:aa [] wr W)=>Et (hM.ae hW) i FX (hP.no i (Θ _)) h0 (by have:=hP.hq;omega) (by have:=hP.hq;have:=hP.hc;omega) hb;have HP:=χ hP;clear hP hM hz QI hT hb
    go_wp2_with (first|((go_at_call 48;(with_reducible refine (kY _ β).mono ?_));rintro e Qx ⟨rfl,F10,x10,f10,R10,A10,hM10, -, -⟩)|fail)
    go_roundw
    case rel=>exact ⟨i+1,_,_,F10,f10,R10,A10,_,ω,by go_num,hM10,HP.out.step hiZ x10⟩
    case measure=>simp [intOf];omega
   ·have kN:∀W,aa [] wr W->Calls Tryz.prog 48 #[.pointer (some ⟨m,0,none⟩),.agg #[.int .i64 (i:Int),.int .i64 0]] W _:=fun W (hW:aa [] wr W)=>Iy (hM.ae hW) i FX 0 ω;have HP:=χ (ψ hP (ψ hM h0));clear hP hM hz QI hT hb h0
    go_wp2_with (first|((go_at_call 48;(with_reducible refine (kN _ β).mono ?_));rintro e Qx ⟨rfl,sH⟩)|fail)
    go_roundw
    case rel=>exact ⟨i+1,_,_,_,_,_,_,_,ω,by go_num,HP.out.2.1.ae sH,HP.out.1.skip (by have:=HP.out.2.2;omega)⟩
    case measure=>simp [intOf];omega
  ·obtain rfl:i=N:=ω;have Dg:¬ (i:Int)<(i:Int):=ω;have TE:decide ((i:Int)<(i:Int))=false:=σ;have hQ:Xx Z q c (fun _=>0) hp:=by rw [←HN.out] at hP;exact hP.done
   have kR:=fun W (hW:aa [] wr W)=>zU (hM.ae hW) hQ (O6 Z) hz (by rw [HN.out];exact QI) hT hb;clear hM hP hQ hz QI hT hb
   go_wp2_with (first|((go_at_call 49;(with_reducible refine (kR _ β).mono ?_));rintro e Qx ⟨v,k,C,F1,c1,f1,R1,A1,q1,pos1,hp1,rfl,yB,hM1,hQ1,om,hs1,hk1, -, -⟩)|fail)
   obtain ⟨al,cl,rfl⟩:=yB.shape;have hmb:w.heap.size<=Qx.heap.size:=hM1.u.size;have YO:0+k=jw Z pos1:=by rw [Ak] at hs1;omega
   have HA:=χ (ψ yB (ψ hM1 (ψ hQ1 (ψ om (ψ YO hk1)))));clear yB hM1 hQ1 om hs1 YO hk1 kR
   go_loopw [11,12] (fun v11 v12 wr=>∃ (n k:Nat) (ao:Option Addr) (co:Nat) (al:Option Addr) (cl:Nat) (O C:List Pl) (F':List Nat) (c:Nat) (f:Int->Int->Option Pl) (R:AR) (A:NS) (q:Nat) (pos:Nat->Nat) (hp:Nat->Option Nat),v11=.slice ao n co/\v12=.slice al k cl/\wr.ownsRow w.heap.size 53 2 (.slice ao n co) n (rD O)/\Ww wr 0 (.slice al k cl) k C/\pz K w wr m p mb a i cap F' kd d Z c f R A q pos hp/\Xx Z q c pos hp/\SS Z pos (O++C)/\n+k=jw Z pos/\(k=0->∀l,l<Z.length->pos l=zl Z l)/\(∀g,Value.ownBlock (.slice ao n co)=some g->g∉F'/\g≠m/\g≠mb)) (fun v11 _ _=>bJ Z-yf v11)
   case atStart=>exact ⟨0,k,none,0,al,cl,[],C,F1,_,_,_,_,_,_,_,rfl,rfl,⟨rfl,Α ⟨rfl,rfl⟩⟩,⟨HA.out.1.1,HA.out.1.2.imp id (fun ⟨g,co,h1,h2,h3,h4⟩=>⟨g,co,h1,h2,Nat.zero_le _,h4⟩)⟩,HA.out.2.1,HA.out.2.2.1,HA.out.2.2.2.1,HA.out.2.2.2.2.1,HA.out.2.2.2.2.2,fun g hg=>by cases hg⟩
   case round=>
    clear HA;obtain ⟨n,k,ao,co,al,cl,O,C,F',c,f,R,A,q,pos,hp,rfl,rfl,ho,yB,hM,hQ,hO,hnk,hk0,VQ⟩:=hrel;rename World=>wr;obtain ⟨-,hz,QI,hT,hb⟩:=HZ.out;have hsl:=ui Z pos hQ.le;have hwl:w.heap.size<=wr.heap.size:=hM.u.size;have hnk2:n+k<=1000000:=ω;have hnk3:n+k<=bJ Z:=ω
    by_cases hk:0<k
    ·have Da:(k:Int) > 0:=ω;have hkD:decide ((k:Int) > 0)=true:=ζ;obtain ⟨IY,g,rfl,hg,RF⟩:=yB.row hk;have Oa:=hM.pq.lt;have Qt:=Ε _ _ hM.c0;have hbl:=hM.map.lt;have kR:=fun W (kW:pz K w W m p mb a i cap F' kd d Z c f R A q pos hp)=>zU kW hQ hO hz (by rw [HN.out];exact QI) hT hb
     have hup:∀W,aa (Value.ownBlock (.slice ao n co)).toList wr W->pz K w W m p mb a i cap F' kd d Z c f R A q pos hp:=fun W hW=>hM.upd hW (fun x hx=>by
      have h1:=Option.mem_toList.1 hx
      exact ⟨(VQ x h1).1,(VQ x h1).2.1,(VQ x h1).2.2,(ho.lt x h1).1⟩)
     have HF:=χ (ψ hup (ψ Oa (ψ Qt (ψ hbl (ψ VQ hnk)))));clear yB hM hQ hO hz QI hT hb hk0 hup Oa Qt hbl VQ hnk hsl
     go_wp2_with (first
      | (at_builtin;refine vv rfl _ _ rfl w.heap.size _ n O rfl ho g k cl C rfl IY RF hk ω ω ?_;intro g9 c9 w9 Cy jR hg9)
      | ((have hX:=kR _ (HF.out.1 _ jR));(go_at_call 49;(with_reducible refine (hX).mono ?_));rintro e Qx ⟨v,k2,C2,F2,c2,f2,R2,A2,q2,pos2,hp2,rfl,SA,hM2,hQ2,hO2,hs2,hk2,sH,hf10⟩;obtain ⟨al2,cl2,rfl⟩:=SA.shape)
      | fail)
     go_roundw
     case rel=>
      obtain ⟨hup,Oa,Qt,hbl,VQ,hnk⟩:=HF.out;have Vl:=jR.size;have h9:g9∉F'/\g9≠m/\g9≠mb:=by
       rcases hg9 with e|e
       ·exact VQ g9 e
       ·subst e;exact ⟨fun e=>by have:=Oa _ e;omega,by (try dsimp only at Qt);omega,ω⟩
      have h9l:=(Cy.lt g9 rfl).2;refine ⟨n+k,k2,_,c9,al2,cl2,O++C,C2,F2,c2,f2,R2,A2,q2,pos2,hp2,rfl,rfl,aA Cy sH (fun x hx hm=>?_),⟨SA.1,SA.2.imp id (fun ⟨g,co,h1,h2,h3,h4⟩=>⟨g,co,h1,h2,Nat.zero_le _,h4⟩)⟩,hM2,hQ2,hO2,ω,hk2,fun x hx=>?_⟩
      ·cases hx;rcases ρ.1 hm with e|e
       ·exact h9.2.2 e
       ·exact h9.1 e
      ·cases hx;refine ⟨fun e=>?_,h9.2⟩;rcases hf10 _ e with e|e
       ·exact h9.1 e
       ·dsimp only at e;omega
     case measure=>
      simp [yf];omega
    ·obtain rfl:k=0:=ω;have Da:¬ ((0:Nat):Int) > 0:=ω;have hkD:decide (((0:Nat):Int) > 0)=false:=σ;obtain rfl:C=[]:=Ϟ yB.1;rw [Υ] at hO;have hOm:=hO.all (hk0 rfl);have hnl:n=bJ Z:=by
      have h1:=ho.1;rw [qI,hOm,G9] at h1;omega
     subst hOm;subst hnl;have HF:=χ (ψ ho hM.u);clear yB hM hQ hO hz QI hT hb hk0 ho;go_wp2;go_ret2;exact ⟨ao,co,rfl,HF.out.1,HF.out.2⟩
end Go.Proofs.YtklibcncmbofpaaGreat
