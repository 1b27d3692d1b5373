/-
  Lemmas for RankSorts: BnQ, BnR, BnS. Conditions: those of each lemma.
-/
import Derived.Test.YtklibcncmbofpaaGreatP30
set_option maxHeartbeats 8000000
set_option maxRecDepth 10000
set_option linter.unusedVariables false
set_option linter.unusedSimpArgs false
namespace Go.Proofs.YtklibcncmbofpaaGreat
structure zA (A:NS) (G:BG):Prop where
 fh:FH A.cs.length G.F (fun y=>(A.c y).i) (bH A)
 rh:RH A.cs.length G (fun y=>(A.c y).i)
 w:∀h:Nat,1≤h→wt A.cs.length G.F (G.R h)=cu A h
structure Bd (A:NS) (G:BG) (x:Nat):Prop where
 fh:FH A.cs.length G.F (fun y=>(A.c y).i) (fun p y=>y≠x→p≠x→bH A p y)
 two:∀p c:Nat,c<A.cs.length→G.F.u x=p→G.F.u c=x→bH A p c
 rh:RH A.cs.length G (fun y=>(A.c y).i)
 w:∀h:Nat,1≤h→wt A.cs.length G.F (G.R h)=cu A h
theorem zA.x {A:NS} {G:BG} (h:zA A G) {x:Nat} (hx:x<A.cs.length):Bd A G x:=
 ⟨⟨h.fh.f,h.fh.home,fun y p hy hu _ _=>h.fh.ord y p hy hu,h.fh.alone⟩,fun p c hc h1 h2=>bE (h.fh.ord x p hx h1) (h.fh.ord c x hc h2),h.rh,h.w⟩
def oW (F:CF) (x p:Nat) (above:Int):CF:=
  ⟨fun y=>if y=x then setAt (F.k p) x p else if y=p then F.k x else if (y:Int)=above then setAt (F.k y) p x else F.k y,
   fun y=>if y=x then above else if (y:Int)∈F.k x then p else if (y:Int)∈setAt (F.k p) x p then x else F.u y⟩
theorem Oj (S:CS) (x p:Nat) (above:Int):(fD S x p above).f=oW S.f x p above:=rfl
def Es (x p:Nat) (above:Int) (z:Int):Int:=if z=p∧above=-1 then (x:Int) else z
def oC (G:BG) (x p:Nat):BG:=⟨oW G.F x p (G.F.u p),fun k=>(G.R k).map (Es x p (G.F.u p))⟩
section
variable {n:Nat} {F:CF}
theorem Lh (h:l8 n F) {x p:Nat} (hx:x<n) (hu:F.u x=p):xe n ⟨fun _=>.slice none 0 0,F.k,F.u⟩ x p (F.u p):=by
 obtain ⟨hp,hm⟩:=h.above hx hu;exact Fu (S:=⟨fun _=>.slice none 0 0,F.k,F.u⟩) h hx hp hu hm
theorem J9 (h:l8 n F) {x p:Nat} (hx:x<n) (hu:F.u x=p):l8 n (oW F x p (F.u p)):=
 l8.lift (S:=⟨fun _=>.slice none 0 0,F.k,F.u⟩) h (Lh h hx hu)
theorem qg (x p:Nat) (above:Int) (y:Nat):((oW F x p above).k y).length=if y=x then (F.k p).length else if y=p then (F.k x).length else (F.k y).length:=
 KX ⟨fun _=>.slice none 0 0,F.k,F.u⟩ x p above y
theorem rY (h:l8 n F) {x y:Nat} (hx:x<n) (hy:y<n):(y:Int)∈F.k x↔F.u y=x:=by
 constructor
 ·intro hm;obtain ⟨z,e,_,h2,_⟩:=h.below hx hm;obtain rfl:y=z:=ω;exact h2
 ·intro hu;exact (h.above hy hu).2
theorem zM (h:l8 n F) {x p:Nat} (hx:x<n) (hu:F.u x=p) {y:Nat} (hy:y<n) :
  (oW F x p (F.u p)).u y=if y=x then F.u p else if F.u y=x then (p:Int) else if y=p∨F.u y=p then (x:Int) else F.u y:=by
 obtain ⟨hp,hm⟩:=h.above hx hu
 show (if y=x then F.u p else if (y:Int)∈F.k x then (p:Int) else if (y:Int)∈setAt (F.k p) x p then (x:Int) else F.u y)=_
 by_cases e:y=x
 ·rw [if_pos e,if_pos e]
 ·rw [if_neg e,if_neg e]
  by_cases e2:F.u y=x
  ·rw [if_pos ((rY h hx hy).2 e2),if_pos e2]
  ·rw [if_neg (fun hm2=>e2 ((rY h hx hy).1 hm2)),if_neg e2]
   have e3:(y:Int)∈setAt (F.k p) x p↔(y=p∨F.u y=p):=by
    rw [nz (h.nd p hp) hm,rY h hp hy];constructor
    ·rintro (h1|⟨h1,_⟩)
     ·exact Or.inl ω
     ·exact Or.inr h1
    ·rintro (h1|h1)
     ·exact Or.inl ω
     ·exact Or.inr ⟨h1,ω⟩
   by_cases e4:y=p∨F.u y=p
   ·rw [if_pos (e3.2 e4),if_pos e4]
   ·rw [if_neg (fun hm2=>e4 (e3.1 hm2)),if_neg e4]
theorem qm (h:l8 n F) {x p:Nat} (hx:x<n) (hu:F.u x=p) {y r:Nat} (hy:y<n) (hr:(oW F x p (F.u p)).u y=r) :
  (y=x∧F.u p=r)∨(y≠x∧F.u y=x∧r=p)∨(y=p∧r=x)∨(y≠x∧y≠p∧F.u y=p∧r=x)∨(y≠x∧y≠p∧F.u y=r∧r≠x∧r≠p):=by
 rw [zM h hx hu hy] at hr
 by_cases e:y=x
 ·rw [if_pos e] at hr;exact Or.inl ⟨e,hr⟩
 ·rw [if_neg e] at hr
  by_cases e2:F.u y=x
  ·rw [if_pos e2] at hr;exact Or.inr (Or.inl ⟨e,e2,ω⟩)
  ·rw [if_neg e2] at hr
   by_cases e3:y=p∨F.u y=p
   ·rw [if_pos e3] at hr
    by_cases e4:y=p
    ·exact Or.inr (Or.inr (Or.inl ⟨e4,ω⟩))
    ·exact Or.inr (Or.inr (Or.inr (Or.inl ⟨e,e4,e3.resolve_left e4,ω⟩)))
   ·rw [if_neg e3] at hr;exact Or.inr (Or.inr (Or.inr (Or.inr ⟨e,fun e4=>e3 (Or.inl e4),hr,fun e5=>e2 ω,fun e5=>e3 (Or.inr ω)⟩)))
theorem nG (h:l8 n F) {x p:Nat} (hx:x<n) (hu:F.u x=p) {y:Nat} (hy:y<n):(oW F x p (F.u p)).u y=-1↔(y=x∧F.u p=-1)∨(y≠x∧y≠p∧F.u y=-1):=by
 rw [zM h hx hu hy]
 by_cases e:y=x
 ·rw [if_pos e];exact ⟨fun h=>Or.inl ⟨e,h⟩,fun h=>by rcases h with h|h;exact h.2;exact absurd e h.1⟩
 ·rw [if_neg e]
  by_cases e2:F.u y=x
  ·rw [if_pos e2];exact ⟨fun h=>ω,fun h=>by rcases h with h|h;exact absurd h.1 e;omega⟩
  ·rw [if_neg e2]
   by_cases e3:y=p∨F.u y=p
   ·rw [if_pos e3];exact ⟨fun h=>ω,fun h=>by rcases h with h|h;exact absurd h.1 e;rcases e3 with e3|e3;exact absurd e3 h.2.1;omega⟩
   ·rw [if_neg e3];exact ⟨fun h=>Or.inr ⟨e,fun e4=>e3 (Or.inl e4),h⟩,fun h=>by rcases h with h|h;exact absurd h.1 e;exact h.2.2⟩
end
section
variable {A:NS} {G:BG} {x p:Nat}
theorem xX (h:Bd A G x) (hx:x<A.cs.length) (hu:G.F.u x=p) {k:Nat} {z:Int} (hz:z∈G.R k) :
  0≤Es x p (G.F.u p) z∧Es x p (G.F.u p) z<A.cs.length∧(oC G x p).F.u (Es x p (G.F.u p) z).toNat=-1∧bM A.cs.length (oC G x p).F (Es x p (G.F.u p) z)=bM A.cs.length G.F z∧(A.c (Es x p (G.F.u p) z).toNat).i=(A.c z.toNat).i:=by
 obtain ⟨hp,hm⟩:=h.fh.f.above hx hu;have hne:p≠x:=fun e=>by subst e;exact h.fh.f.self hx hm
 have hr:=(h.rh.row k).1 z hz;obtain ⟨y,rfl⟩:=Int.eq_ofNat_of_zero_le hr.1;rw [π] at hr;have hy:y<A.cs.length:=ω;unfold Es
 by_cases e:(y:Int)=p∧G.F.u p=-1
 ·rw [if_pos e,π,π];obtain rfl:y=p:=ω;refine ⟨ω,ω,(nG h.fh.f hx hu hx).2 (Or.inl ⟨rfl,e.2⟩),?_,(h.fh.home x y hx hu).1⟩;rw [dH _ _ hx,dH _ _ hy]
  show (((oW G.F x y (G.F.u y)).k x).length:Int)=_
  rw [qg,if_pos rfl]
 ·rw [if_neg e,π];have hyp:y≠p:=fun e2=>by subst e2;exact e ⟨rfl,hr.2.2⟩
  have hyx:y≠x:=fun e2=>by subst e2;omega
  refine ⟨ω,ω,(nG h.fh.f hx hu hy).2 (Or.inr ⟨hyx,hyp,hr.2.2⟩),?_,rfl⟩;rw [dH _ _ hy,dH _ _ hy]
  show (((oW G.F x p (G.F.u p)).k y).length:Int)=_
  rw [qg,if_neg hyx,if_neg hyp]
theorem wm (h:Bd A G x) (hx:x<A.cs.length) (hu:G.F.u x=p):Bd A (oC G x p) x:=by
 obtain ⟨hp,hm⟩:=h.fh.f.above hx hu;have hne:p≠x:=fun e=>by subst e;exact h.fh.f.self hx hm
 have hxp:=h.fh.home x p hx hu;have hqx:∀q:Nat,G.F.u p=q→q≠x:=fun q hq e=>by
  have d1:=h.fh.f.GA hx hu;have d2:=h.fh.f.GA hp hq;subst e;omega
 refine ⟨⟨J9 h.fh.f hx hu,fun y r hy hr=>?_,fun y r hy hr hyx hrx=>?_,fun y hy hh=>?_⟩,fun q c hc h1 h2=>?_,⟨fun k=>⟨fun z hz=>?_,?_⟩,fun k y=>⟨fun hm2=>?_,fun hm2=>?_⟩⟩,fun k hk=>?_⟩
 ·rcases qm h.fh.f hx hu hy hr with ⟨e,h2⟩|⟨_,h2,e⟩|⟨e,e2⟩|⟨_,_,h2,e⟩|⟨_,_,h2,_,_⟩
  ·subst e;have:=h.fh.home p r hp h2;exact ⟨hxp.1.trans this.1,hxp.2⟩
  ·subst e;have:=h.fh.home y x hy h2;exact ⟨this.1.trans hxp.1,this.2⟩
  ·subst e e2;exact ⟨hxp.1.symm,by rw [←hxp.1];exact hxp.2⟩
  ·subst e;have:=h.fh.home y p hy h2;exact ⟨this.1.trans hxp.1.symm,this.2⟩
  ·exact h.fh.home y r hy h2
 ·rcases qm h.fh.f hx hu hy hr with ⟨e,h2⟩|⟨_,h2,e⟩|⟨e,e2⟩|⟨_,_,h2,e⟩|⟨_,_,h2,_,_⟩
  ·exact absurd e hyx
  ·subst e;exact h.two r y hy hu h2
  ·exact absurd e2 hrx
  ·exact absurd e hrx
  ·exact h.fh.ord y r hy h2 hyx hrx
 ·have h0:=h.fh.alone y hy hh;have hyx:y≠x:=fun e=>by subst e;exact hh hxp.2
  have hyp:y≠p:=fun e=>by subst e;exact hh (by rw [←hxp.1];exact hxp.2)
  refine ⟨(nG h.fh.f hx hu hy).2 (Or.inr ⟨hyx,hyp,h0.1⟩),?_⟩;have:((oW G.F x p (G.F.u p)).k y).length=0:=by rw [qg,if_neg hyx,if_neg hyp,h0.2];rfl
  exact List.eq_nil_of_length_eq_zero this
 ·have h3:G.F.u p=q:=by
   have:=zM h.fh.f hx hu hx;rw [if_pos rfl] at this;rw [←this];exact h1
  have hpq:=h.fh.ord p q hp h3 hne (hqx q h3);rcases qm h.fh.f hx hu hc h2 with ⟨e,h4⟩|⟨_,h4,e⟩|⟨e,e2⟩|⟨e3,_,h4,e⟩|⟨_,_,h4,e3,_⟩
  ·exact absurd rfl (hqx x h4)
  ·exact absurd e.symm hne
  ·subst e;exact hpq
  ·exact bE hpq (h.fh.ord c p hc h4 e3 hne)
  ·exact absurd rfl e3
 ·obtain ⟨z0,hz0,rfl⟩:=List.mem_map.1 hz;have:=xX h hx hu hz0;exact ⟨this.1,this.2.1,this.2.2.1⟩
 ·show ((G.R k).map _).Pairwise _
  rw [List.pairwise_map];exact (h.rh.row k).2.imp_of_mem (fun {a b} ha hb hab=>by rw [(xX h hx hu ha).2.2.2.1,(xX h hx hu hb).2.2.2.1];exact hab)
 ·obtain ⟨z0,hz0,e⟩:=List.mem_map.1 hm2;have h1:=xX h hx hu hz0;rw [e] at h1;rw [π] at h1;have hr:=(h.rh.row k).1 z0 hz0;have h2:=(h.rh.mem k z0.toNat).1 (by rw [show ((z0.toNat:Nat):Int)=z0 by omega];exact hz0)
  exact ⟨h2.1,ω,h1.2.2.1,by show (A.c y).i=(k:Int);rw [h1.2.2.2.2];exact h2.2.2.2⟩
 ·obtain ⟨k1,hy,hr,hh⟩:=hm2
  show (y:Int)∈(G.R k).map _
  rw [List.mem_map];rcases (nG h.fh.f hx hu hy).1 hr with ⟨e,h2⟩|⟨hyx,hyp,h2⟩
  ·subst e;refine ⟨(p:Int),(h.rh.mem k p).2 ⟨k1,hp,h2,?_⟩,by unfold Es;rw [if_pos ⟨rfl,h2⟩]⟩
   have e9:(A.c y).i=(A.c p).i:=hxp.1
   show (A.c p).i=(k:Int)
   rw [←e9];exact hh
  ·exact ⟨(y:Int),(h.rh.mem k y).2 ⟨k1,hy,h2,hh⟩,by unfold Es;rw [if_neg (fun e=>hyp ω)]⟩
 ·rw [←h.w k hk];unfold wt
  show (((G.R k).map _).map _).sum=_
  rw [List.map_map]
  congr 1
  exact List.map_congr_left (fun z hz=>by simp only [Function.comp];rw [(xX h hx hu hz).2.2.2.1])
theorem Hg (h:Bd A G x) (hx:x<A.cs.length) (hu:G.F.u x=p) (hk:∀c:Nat,c<A.cs.length→G.F.u c=x→bH A x c) (hl:bH A x p) :
  ∀c:Nat,c<A.cs.length→(oC G x p).F.u c=x→bH A x c:=fun c hc h2=>by
 obtain ⟨hp,hm⟩:=h.fh.f.above hx hu;have hne:p≠x:=fun e=>by subst e;exact h.fh.f.self hx hm
 rcases qm h.fh.f hx hu hc h2 with ⟨e,h4⟩|⟨_,h4,e⟩|⟨e,e2⟩|⟨e3,_,h4,e⟩|⟨_,_,h4,e3,_⟩
 ·have d1:=h.fh.f.GA hx hu;have d2:=h.fh.f.GA hp h4;omega
 ·exact absurd e.symm hne
 ·subst e;exact hl
 ·exact bE hl (h.fh.ord c p hc h4 e3 hne)
 ·exact absurd rfl e3
theorem Bd.done (h:Bd A G x) (hx:x<A.cs.length) (hk:∀c:Nat,c<A.cs.length→G.F.u c=x→bH A x c) (ht:∀p:Nat,G.F.u x=p→bH A p x):zA A G:=by
 refine ⟨⟨h.fh.f,h.fh.home,fun y r hy hr=>?_,h.fh.alone⟩,h.rh,h.w⟩
 by_cases e1:y=x
 ·subst e1;exact ht r hr
 ·by_cases e2:r=x
  ·subst e2;exact hk y hy hr
  ·exact h.fh.ord y r hy hr e1 e2
theorem yQ {k s:Int} (h:zA A G) (hB:iy A x k s=true) (hx:x<A.cs.length):Bd (ak A x k s) G x∧∀c:Nat,c<A.cs.length→G.F.u c=x→bH (ak A x k s) x c:=by
 have hc:=fun y=>pO hB hx y
 have hi:=fun y=>fP hB hx y
 have hle:=qA hB;rw [π] at hle;have hne:∀y r:Nat,y<A.cs.length→G.F.u y=r→y≠r:=fun y r hy hu e=>by
  subst e;exact h.fh.f.self hy (h.fh.f.above hy hu).2
 have low:∀y:Nat,y≠x→bH A x y→bH (ak A x k s) x y:=fun y hy hl=>jw hl (by rw [hc,if_neg hy]) (by rw [hc,if_pos rfl];exact hle)
 have same:∀y r:Nat,y≠x→r≠x→bH A y r→bH (ak A x k s) y r:=fun y r h1 h2 hl=>(dJ (by rw [hc,if_neg h1]) (by rw [hc,if_neg h2])).2 hl
 have hn:=eB A x k s;have hw:∀q:Nat,cu (ak A x k s) q=cu A q:=fun q=>by
  unfold ak;rw [if_pos hB,π];have e:=kG A x ⟨(A.c x).i,k,s⟩ q hx;simp only at e;omega
 refine ⟨⟨⟨by rw [hn];exact h.fh.f,fun y r hy hr=>?_,fun y r hy hr e1 e2=>?_,fun y hy hh=>?_⟩,fun q c hc' h1 h2=>?_,⟨fun q=>by rw [hn];exact h.rh.row q,fun q y=>?_⟩,fun q hq=>by rw [hn,hw];exact h.w q hq⟩,fun c hc' hu=>?_⟩
 ·rw [hn] at hy;simp only [hi];exact h.fh.home y r hy hr
 ·rw [hn] at hy;exact same r y e2 e1 (h.fh.ord y r hy hr)
 ·rw [hn] at hy;simp only [hi] at hh;exact h.fh.alone y hy hh
 ·rw [hn] at hc';have h3:=h.fh.ord x q hx h1;have h4:=h.fh.ord c x hc' h2;exact same q c (fun e=>hne x q hx h1 e.symm) (hne c x hc' h2) (bE h3 h4)
 ·rw [hn];simp only [hi];exact h.rh.mem q y
 ·exact low c (hne c x hc' hu) (h.fh.ord c x hc' hu)
end
theorem lW (A:NS) (a b:Int) (h:bF A a b=true):bF A b a=false:=by
 unfold bF at *
 simp only [Bool.and_eq_true,decide_eq_true_eq] at h;have:=nu h.2;simp [this]
theorem wN {A:NS} {y p:Nat} (hy:bD A (y:Int)=true) (hp:bD A (p:Int)=true) (hne:y≠p) (h:bF A y p=false):bH A p y:=by
 rw [jC,hy,hp] at h;simp only [Bool.and_self,Bool.true_and,decide_eq_false_iff_not] at h;exact (gH hne).resolve_left h
def fF (G:BG) (h x:Nat):BG:=⟨dL G.F x,bJ G.R h ((G.R h).filter (fun z=>z != (x:Int)))⟩
def oz (A:NS) (h x:Nat) (G:BG):BG:=vg (bF A) A.cs.length h (G.F.k x) (fF G h x)
def uV (A:NS) (h x:Nat) (G:BG):Nat:=(iY (bF A) A.cs.length (fF G h x).F ((fF G h x).R h) (G.F.k x)).q
theorem Ea {l:List Int} (hn:l.Nodup) {x:Int} (hx:x∈l):(l.filter (fun z=>z != x)).length+1=l.length:=by
 induction l with
 | nil=>cases hx
 | cons y r ih=>
  rw [List.nodup_cons] at hn;rcases List.mem_cons.1 hx with e|h
  ·subst e;have:r.filter (fun z=>z != x)=r:=by
    rw [List.filter_eq_self];intro a ha;simp;intro e;subst e;exact hn.1 ha
   rw [List.filter_cons_of_neg σ,this];simp
  ·have hne:y≠x:=fun e=>by subst e;exact hn.1 h
   rw [List.filter_cons_of_pos (by simpa using hne)]
   have:=ih hn.2 h;simp only [List.length_cons];omega
theorem Hu {n:Nat} {F:CF} {l:List Int} (hn:l.Nodup) {x:Int} (hx:x∈l):wt n F (l.filter (fun z=>z != x))+2 ^ (bM n F x).toNat=wt n F l:=by
 have hc:∀ (y:Int) (l:List Int),wt n F (y::l)=2 ^ (bM n F y).toNat + wt n F l:=fun y l=>by unfold wt;simp
 induction l with
 | nil=>cases hx
 | cons y r ih=>
  rw [List.nodup_cons] at hn;rcases List.mem_cons.1 hx with e|h
  ·subst e;have:r.filter (fun z=>z != x)=r:=by
    rw [List.filter_eq_self];intro a ha;simp;intro e;subst e;exact hn.1 ha
   rw [List.filter_cons_of_neg σ,this,hc];omega
  ·have hne:y≠x:=fun e=>by subst e;exact hn.1 h
   rw [List.filter_cons_of_pos (by simpa using hne),hc,hc]
   have:=ih hn.2 h;omega
section
variable {A:NS} {G:BG} {h x:Nat}
theorem Gc (B:Bd A G x) (ok:A.Ok) (hx:x<A.cs.length) (hr:G.F.u x=-1) (hin:0<(A.c x).i) (hh:(A.c x).i=h) :
  zA (aL A x) (oz A h x G)∧uV A h x G+((oz A h x G).R h).length+1=(G.R h).length+(G.F.k x).length∧(x:Int)∈G.R h∧
   ji A.cs.length (dL G.F x) ((G.R h).filter (fun z=>z != (x:Int)))∧ji A.cs.length (dL G.F x) (G.F.k x)∧(∀z,z∈(G.R h).filter (fun z=>z != (x:Int))→z∉G.F.k x)∧l8 A.cs.length (dL G.F x)∧
   (∀z,z∈G.R h∨z∈G.F.k x→bD A z=true):=by
 have hh1:1≤h:=ω;have hn:=ok.c1;have inx:bD A (x:Int)=true:=(af _ _).2 ⟨hx,hin⟩;have hc:=fun y=>rq inx y
 have hcs:=dw A (x:Int);have dn:=B.fh.f.nd x hx;have ku:∀z,z∈G.F.k x→∃y:Nat,z=y∧y<A.cs.length∧G.F.u y=x:=fun z hz=>by
  obtain ⟨y,h1,h2,h3,_⟩:=B.fh.f.below hx hz;exact ⟨y,h1,h2,h3⟩
 have sx:(x:Int)∉G.F.k x:=B.fh.f.self hx;have dS:∀z:Int,z≠x→bM A.cs.length (dL G.F x) z=bM A.cs.length G.F z:=fun z hz=>by
  unfold bM dL;simp only
  by_cases h0:0≤z∧z<A.cs.length
  ·rw [if_pos h0,if_pos h0,if_neg ω]
  ·rw [if_neg h0,if_neg h0]
 have uS:∀z:Int,0≤z→G.F.u z.toNat=-1→(dL G.F x).u z.toNat=-1:=fun z h0 hu=>by
  unfold dL;simp only
  split
  ·rfl
  ·exact hu
 have kU:∀z,z∈G.F.k x→(dL G.F x).u z.toNat=-1:=fun z hz=>by
  obtain ⟨y,rfl,_,_⟩:=ku z hz;unfold dL;simp only [π];rw [if_pos hz]
 have mx:(x:Int)∈G.R h:=(B.rh.mem h x).2 ⟨hh1,hx,hr,hh⟩;have hrow:∀k,ji A.cs.length (dL G.F x) ((fF G h x).R k):=fun k=>by
  have base:∀l:List Int,ji A.cs.length G.F l→(x:Int)∉l→ji A.cs.length (dL G.F x) l:=fun l hl hxl=>by
   refine ⟨fun z hz=>?_,hl.2.imp_of_mem (fun {a b} ha hb hab=>?_)⟩
   ·have:=hl.1 z hz;exact ⟨this.1,this.2.1,uS z this.1 this.2.2⟩
   ·rw [dS a (fun e=>hxl (e▸ha)),dS b (fun e=>hxl (e▸hb))];exact hab
  unfold fF bJ;simp only
  split
  ·refine base _ ⟨fun z hz=>(B.rh.row h).1 z (List.mem_filter.1 hz).1,(B.rh.row h).2.filter _⟩ (fun hm=>by simp at hm)
  ·rename_i hk
   exact base _ (B.rh.row k) (fun hm=>hk (by have:=((B.rh.mem k x).1 hm).2.2.2;omega))
 have hl:ji A.cs.length (dL G.F x) (G.F.k x):=Kt B.fh.f hx (fun z hz=>dS z (fun e=>sx (e▸hz))) kU
 have hd:∀z,z∈(fF G h x).R h→z∉G.F.k x:=fun z hz hk=>by
  unfold fF bJ at hz;simp only [if_true] at hz;obtain ⟨y,rfl,hy,hu⟩:=ku z hk;have:=((B.rh.mem h y).1 (List.mem_filter.1 hz).1).2.2.1;omega
 have hF:FH A.cs.length (dL G.F x) (fun y=>((aL A x).c y).i) (bH (aL A x)):=by
  refine ⟨B.fh.f.Lb hx hr,fun y p hy hu=>?_,fun y p hy hu=>?_,fun y hy h0=>?_⟩
  all_goals unfold dL at *;simp only at *
  ·split at hu
   ·omega
   ·rename_i hk
    have hyx:y≠x:=fun e=>by subst e;omega
    have hpx:p≠x:=fun e=>by subst e;exact hk (B.fh.f.above hy hu).2
    rw [hc,hc,if_neg hyx,if_neg hpx];exact B.fh.home y p hy hu
  ·split at hu
   ·omega
   ·rename_i hk
    have hyx:y≠x:=fun e=>by subst e;omega
    have hpx:p≠x:=fun e=>by subst e;exact hk (B.fh.f.above hy hu).2
    exact (dJ (by rw [hc,if_neg hpx]) (by rw [hc,if_neg hyx])).2 (B.fh.ord y p hy hu hyx hpx)
  ·by_cases hyx:y=x
   ·subst hyx;exact ⟨by rw [if_neg sx];exact hr,by rw [if_pos rfl]⟩
   ·rw [hc,if_neg hyx] at h0;have:=B.fh.alone y hy h0;rw [if_neg hyx,this.2];exact ⟨by split;rfl;exact this.1,rfl⟩
 have hL:∀y p:Nat,y<A.cs.length→p<A.cs.length→((aL A x).c y).i=(h:Int)→((aL A x).c p).i=(h:Int)→y≠p→bF A y p=false→bH (aL A x) p y:=fun y p hy hp h1 h2 hne ha=>by
  have hyx:y≠x:=fun e=>by rw [hc,if_pos e] at h1;simp [Cl.z] at h1;omega
  have hpx:p≠x:=fun e=>by rw [hc,if_pos e] at h2;simp [Cl.z] at h2;omega
  rw [hc,if_neg hyx] at h1;rw [hc,if_neg hpx] at h2;exact (dJ (by rw [hc,if_neg hpx]) (by rw [hc,if_neg hyx])).2 (wN ((af _ _).2 ⟨hy,ω⟩) ((af _ _).2 ⟨hp,ω⟩) hne ha)
 have hroot:∀y:Nat,y<A.cs.length→((dL G.F x).u y=-1↔G.F.u y=-1∨G.F.u y=x):=fun y hy=>by
  unfold dL;simp only;have hk:=rY B.fh.f hx hy
  by_cases e:G.F.u y=x
  ·rw [if_pos (hk.2 e)];exact ⟨fun _=>Or.inr e,fun _=>rfl⟩
  ·rw [if_neg (fun hm=>e (hk.1 hm))];exact ⟨fun h=>Or.inl h,fun h=>h.resolve_right e⟩
 have hmem:∀k y:Nat,k≠h→((y:Int)∈(fF G h x).R k↔1≤k∧y<A.cs.length∧(dL G.F x).u y=-1∧((aL A x).c y).i=(k:Int)):=fun k y hk=>by
  unfold fF bJ;simp only [if_neg hk];rw [B.rh.mem k y];constructor
  ·rintro ⟨a1,a2,a3,a4⟩;have hyx:y≠x:=fun e=>by subst e;omega
   exact ⟨a1,a2,(hroot y a2).2 (Or.inl a3),by rw [hc,if_neg hyx];exact a4⟩
  ·rintro ⟨a1,a2,a3,a4⟩;have hyx:y≠x:=fun e=>by rw [hc,if_pos e] at a4;simp [Cl.z] at a4;omega
   rw [hc,if_neg hyx] at a4;refine ⟨a1,a2,((hroot y a2).1 a3).resolve_right (fun e=>?_),a4⟩
   have:=(B.fh.home y x a2 e).1;omega
 have hm:∀y:Nat,y<A.cs.length∧(dL G.F x).u y=-1∧((aL A x).c y).i=(h:Int)↔(y:Int)∈(fF G h x).R h∨(y:Int)∈G.F.k x:=fun y=>by
  unfold fF bJ;simp only [if_true,List.mem_filter,bne_iff_ne,ne_eq];rw [B.rh.mem h y];constructor
  ·rintro ⟨a2,a3,a4⟩;have hyx:y≠x:=fun e=>by rw [hc,if_pos e] at a4;simp [Cl.z] at a4;omega
   rw [hc,if_neg hyx] at a4;rcases (hroot y a2).1 a3 with e|e
   ·exact Or.inl ⟨⟨hh1,a2,e,a4⟩,ω⟩
   ·exact Or.inr ((rY B.fh.f hx a2).2 e)
  ·rintro (⟨⟨_,a2,a3,a4⟩,a5⟩|a1)
   ·exact ⟨a2,(hroot y a2).2 (Or.inl a3),by rw [hc,if_neg ω];exact a4⟩
   ·obtain ⟨z,e,a2,a3⟩:=ku _ a1;obtain rfl:y=z:=ω;have hyx:y≠x:=fun e=>by subst e;exact sx a1
    refine ⟨a2,(hroot y a2).2 (Or.inr a3),?_⟩;rw [hc,if_neg hyx];have:=(B.fh.home y x a2 a3).1;omega
 obtain ⟨r1,r2,r3,r4⟩:=yS (G:=fF G h x) hF hn (lW A) hL hh1 hrow hmem hm hl hd;have nd:(G.R h).Nodup:=(B.rh.row h).nodup;have eR:(fF G h x).R h=(G.R h).filter (fun z=>z != (x:Int)):=by unfold fF bJ;simp
 have fl:=Ea nd mx;refine ⟨⟨by rw [hcs];exact r1,by rw [hcs];exact r2,fun k hk=>?_⟩,?_,mx,by rw [←eR];exact hrow h,hl,by rw [←eR];exact hd,hF.f,fun z hz=>?_⟩
 ·rw [hcs];have e1:wt A.cs.length (oz A h x G).F ((oz A h x G).R k)=_:=r3 k;rw [e1];have hlen:=kG A x Cl.z (k:Int) hx;have e2:aL A x=gD A x Cl.z:=by unfold aL;rw [if_pos inx,π]
  rw [e2]
  by_cases ek:k=h
  ·subst ek;rw [if_pos rfl,eR];rw [if_pos ω,if_neg (by simp [Cl.z];omega)] at hlen
   have w1:=Hu (F:=G.F) (n:=A.cs.length) nd mx;rw [dH _ _ hx,π] at w1;have w2:=Mt (F':=dL G.F x) B.fh.f hx (fun z hz=>dS z (fun e=>sx (e▸hz)))
   have w3:wt A.cs.length (dL G.F x) ((G.R k).filter (fun z=>z != (x:Int)))=wt A.cs.length G.F ((G.R k).filter (fun z=>z != (x:Int))):=xB (fun z hz=>dS z (by simpa using (List.mem_filter.1 hz).2))
   have w4:=B.w k hk
   show wt A.cs.length (dL G.F x) _+wt A.cs.length (dL G.F x) _=_
   omega
  ·rw [if_neg ek];rw [if_neg ω,if_neg (by simp [Cl.z];omega)] at hlen
   have eK:(fF G h x).R k=G.R k:=by unfold fF bJ;simp only [if_neg ek]
   rw [eK];have w4:=B.w k hk
   have w3:wt A.cs.length (dL G.F x) (G.R k)=wt A.cs.length G.F (G.R k):=xB (fun z hz=>dS z (fun e=>by
    subst e;have:=((B.rh.mem k x).1 hz).2.2.2
    omega))
   show wt A.cs.length (dL G.F x) _=_
   omega
 ·rw [eR] at r4;have e3:uV A h x G=(iY (bF A) A.cs.length (fF G h x).F ((G.R h).filter (fun z=>z != (x:Int))) (G.F.k x)).q:=by unfold uV;rw [eR]
  rw [e3];have e4:(oz A h x G).R h=(vg (bF A) A.cs.length h (G.F.k x) (fF G h x)).R h:=rfl;rw [e4];omega
 ·rcases hz with hz|hz
  ·have hr:=(B.rh.row h).1 z hz;have:=(B.rh.mem h z.toNat).1 (by rw [show ((z.toNat:Nat):Int)=z by omega];exact hz)
   exact (vU _ _).2 ⟨hr.1,hr.2.1,by have:=this.2.2.2;omega⟩
  ·obtain ⟨y,rfl,hy,hu⟩:=ku z hz;exact (af _ _).2 ⟨hy,(B.fh.home y x hy hu).2⟩
end
def LK (A':NS) (h x:Nat) (G:BG):BG:=vg (bF A') A'.cs.length h [(x:Int)] G
def MV (A':NS) (h x:Nat) (G:BG):Nat:=(iY (bF A') A'.cs.length G.F (G.R h) [(x:Int)]).q
theorem Lc (n:Nat) (F:CF):ji n F []:=⟨fun x hx=>(by cases hx),List.Pairwise.nil⟩
theorem OC (n:Nat):zA (NS.new n) BG.none:=by
 have hc:=fun y=>NS.uZ n y
 have hn:(NS.new n).cs.length=n:=by simp [NS.new]
 refine ⟨⟨by rw [hn];exact K5 n,fun y p hy hu=>?_,fun y p hy hu=>?_,fun y hy hh=>⟨rfl,rfl⟩⟩,⟨fun h=>Lc _ _,fun h y=>⟨fun hm=>(by cases hm),fun hm=>?_⟩⟩,fun h hh=>?_⟩
 ·have:(-1:Int)=p:=hu;omega
 ·have:(-1:Int)=p:=hu;omega
 ·have h2:=hm.2.2.2;rw [hc] at h2;simp [Cl.z] at h2;omega
 ·have:¬0<cu (NS.new n) (h:Int):=fun hp=>by
   obtain ⟨y,_,h2,h3⟩:=dG.1 hp;rw [hc] at h2;simp [Cl.z] at h2;omega
  show (0:Nat)=_
  omega
theorem OG (A:NS) (y:Nat):(aG A).c y=A.c y:=by unfold aG;split<;>rfl
theorem Fx (A:NS):(aG A).cs=A.cs:=by unfold aG;split<;>rfl
section
variable {A:NS} {G:BG}
theorem Mr (B:zA A G):zA (aG A) G:=by
 have hc:=OG A;have hs:(aG A).cs.length=A.cs.length:=by rw [Fx]
 refine ⟨⟨by rw [hs];exact B.fh.f,fun y p hy hu=>by rw [hc,hc];exact B.fh.home y p (by rw [←hs];exact hy) hu,fun y p hy hu=>(dJ (hc p) (hc y)).2 (B.fh.ord y p (by rw [←hs];exact hy) hu),fun y hy hh=>B.fh.alone y (by rw [←hs];exact hy) (by rw [←hc];exact hh)⟩,
  ⟨fun h=>by rw [hs];exact B.rh.row h,fun h y=>by rw [hs,hc];exact B.rh.mem h y⟩,fun h hh=>by rw [hs,Hr];exact B.w h hh⟩
theorem OJ {h x:Nat} (k s:Int) (B:zA A G) (ok:A.Ok) (hB:jy A h x=true) :
  zA (aB A h x k s) (LK (aB A h x k s) h x G)∧MV (aB A h x k s) h x G+((LK (aB A h x k s) h x G).R h).length=(G.R h).length+1∧
   ji A.cs.length G.F [(x:Int)]∧(∀z,z∈G.R h→z∉[(x:Int)])∧(∀z,z∈G.R h∨z∈[(x:Int)]→bD (aB A h x k s) z=true)∧(aB A h x k s).cs.length=A.cs.length:=by
 obtain ⟨b1,b2,b3⟩:=(cB _ _ _).1 hB;have b4:=(aK _ _).1 b1;have hx:x<A.cs.length:=by have:=(dK _ _).1 b2;omega
 have hh1:1≤h:=ω;have h0:¬0<(A.c x).i:=fun hp=>by rw [(af _ _).2 ⟨hx,hp⟩] at b3;cases b3
 have eA:aB A h x k s=gD A x ⟨h,k,s⟩:=by unfold aB;rw [if_pos hB,π]
 have hcs:(aB A h x k s).cs.length=A.cs.length:=by rw [eA];exact dI _ _ _
 have hc:∀y,(aB A h x k s).c y=if y=x then ⟨h,k,s⟩ else A.c y:=fun y=>by
  rw [eA,iD]
  by_cases e:y=x
  ·rw [if_pos ⟨e,hx⟩,if_pos e]
  ·rw [if_neg (fun h=>e h.1),if_neg e]
 have al:=B.fh.alone x hx h0
 have hne:∀y p:Nat,y<A.cs.length→G.F.u y=p→y≠x∧p≠x:=fun y p hy hu=>⟨fun e=>by subst e;rw [al.1] at hu;omega,fun e=>by
  subst e;have:=(B.fh.f.above hy hu).2
  rw [al.2] at this;cases this⟩
 have hF:FH A.cs.length G.F (fun y=>((aB A h x k s).c y).i) (bH (aB A h x k s)):=by
  refine ⟨B.fh.f,fun y p hy hu=>?_,fun y p hy hu=>?_,fun y hy hh=>?_⟩
  ·obtain ⟨e1,e2⟩:=hne y p hy hu;rw [hc,hc,if_neg e1,if_neg e2];exact B.fh.home y p hy hu
  ·obtain ⟨e1,e2⟩:=hne y p hy hu;exact (dJ (by rw [hc,if_neg e2]) (by rw [hc,if_neg e1])).2 (B.fh.ord y p hy hu)
  ·by_cases e:y=x
   ·rw [hc,if_pos e] at hh;simp only at hh;omega
   ·rw [hc,if_neg e] at hh;exact B.fh.alone y hy hh
 have hin:∀y:Nat,y<A.cs.length→((aB A h x k s).c y).i=(h:Int)→bD (aB A h x k s) (y:Int)=true:=fun y hy e=>(af _ _).2 ⟨ω,ω⟩
 have hl:ji A.cs.length G.F [(x:Int)]:=⟨fun z hz=>by simp at hz;subst hz;exact ⟨ω,ω,by simpa using al.1⟩,List.pairwise_singleton _ _⟩
 have hd:∀z,z∈G.R h→z∉[(x:Int)]:=fun z hz hm=>by
  simp at hm;subst hm;have:=((B.rh.mem h x).1 hz).2.2.2;omega
 have hm:∀y:Nat,y<A.cs.length∧G.F.u y=-1∧((aB A h x k s).c y).i=(h:Int)↔(y:Int)∈G.R h∨(y:Int)∈[(x:Int)]:=fun y=>by
  rw [B.rh.mem h y];simp only [List.mem_singleton]
  by_cases e:y=x
  ·subst e;rw [hc,if_pos rfl];exact ⟨fun _=>Or.inr rfl,fun _=>⟨hx,al.1,rfl⟩⟩
  ·rw [hc,if_neg e];constructor
   ·rintro ⟨a1,a2,a3⟩;exact Or.inl ⟨hh1,a1,a2,a3⟩
   ·rintro (⟨_,a1,a2,a3⟩|a4)
    ·exact ⟨a1,a2,a3⟩
    ·omega
 obtain ⟨r1,r2,r3,r4⟩:=yS (G:=G) (lt:=bF (aB A h x k s)) (h:=h) hF ok.c1 (lW _) (fun y p hy hp h1 h2 hne ha=>wN (hin y hy h1) (hin p hp h2) hne ha) hh1 B.rh.row (fun q y hq=>by
  rw [B.rh.mem q y]
  by_cases e:y=x
  ·subst e;rw [hc,if_pos rfl];constructor
   ·rintro ⟨a1,_,_,a3⟩;omega
   ·rintro ⟨a1,_,_,a3⟩;simp only at a3;omega
  ·rw [hc,if_neg e]) hm hl hd
 unfold LK MV;rw [hcs];refine ⟨⟨by rw [hcs];exact r1,by rw [hcs];exact r2,fun q hq=>?_⟩,by simpa using r4,hl,hd,fun z hz=>?_,rfl⟩
 ·rw [hcs,r3 q];have hlen:=kG A x ⟨h,k,s⟩ (q:Int) hx;rw [←eA] at hlen;rw [if_neg ω] at hlen;have wx:wt A.cs.length G.F [(x:Int)]=1:=by
   unfold wt;simp only [List.map_cons,List.map_nil,List.sum_cons,List.sum_nil];rw [dH _ _ hx,al.2];rfl
  have wq:=B.w q hq
  by_cases e:q=h
  ·subst e;rw [if_pos ⟨rfl,ω⟩] at hlen;rw [if_pos rfl,wx];omega
  ·rw [if_neg (fun h=>e (by have:=h.1;simp only at this;omega))] at hlen
   rw [if_neg e];omega
 ·have key:∃y:Nat,z=y∧y<A.cs.length∧((aB A h x k s).c y).i=(h:Int):=by
   rcases hz with hz|hz
   ·have hr:=(B.rh.row h).1 z hz;obtain ⟨y,rfl⟩:=Int.eq_ofNat_of_zero_le hr.1;have:=(hm y).2 (Or.inl hz);exact ⟨y,rfl,this.1,this.2.2⟩
   ·simp at hz;subst hz;have:=(hm x).2 (Or.inr σ);exact ⟨x,rfl,this.1,this.2.2⟩
  obtain ⟨y,rfl,h1,h2⟩:=key;exact hin y h1 h2
theorem JL (B:zA A G):∀ (m y:Nat),A.cs.length≤m+(G.F.k y).length→y<A.cs.length→0<(A.c y).i→∃T,T<A.cs.length∧G.F.u T=-1∧(A.c T).i=(A.c y).i∧(T=y∨bH A T y)
 | m,y,hm,hy,hh=>by
  rcases B.fh.f.up y hy with h1|⟨p,hp,h1,h2⟩
  ·exact ⟨y,hy,h1,rfl,Or.inl rfl⟩
  ·have hd:=B.fh.f.GA hy h1;have hl:=B.fh.f.len hp;have ho:(A.c y).i=(A.c p).i∧0<(A.c y).i:=B.fh.home y p hy h1
   match m,hm with
   | 0,hm=>omega
   | m+1,hm=>
    obtain ⟨T,t1,t2,t3,t4⟩:=JL B m p ω hp ω;refine ⟨T,t1,t2,by rw [t3,ho.1],Or.inr ?_⟩
    have hl:=B.fh.ord y p hy h1;rcases t4 with e|e
    ·rw [e];exact hl
    ·exact bE e hl
def jG (lt:Int→Int→Bool):Int→List Int→Int
 | b,[]=>b
 | b,x::t=>jG lt (if lt x b then x else b) t
theorem xY (lt:Int→Int→Bool):∀ (l:List Int) (b:Int),jG lt b l∈b::l
 | [],b=>by simp [jG]
 | x::t,b=>by
  have key:∀c,jG lt c t∈c::t:=fun c=>xY lt t c
  unfold jG;cases e:lt x b with
  | true=>
   rw [if_pos rfl];exact List.mem_cons_of_mem _ (key x)
  | false=>
   rw [if_neg σ];rcases List.mem_cons.1 (key b) with h|h
   ·rw [h];simp
   ·exact List.mem_cons_of_mem _ (List.mem_cons_of_mem _ h)
theorem uW {lt:Int→Int→Bool} {P:Int→Prop} (tr:∀a b c,P a→P b→P c→lt a b=true→lt b c=true→lt a c=true) (tot:∀a b,P a→P b→a≠b→lt a b=false→lt b a=true) :
  ∀ (l:List Int) (b:Int),P b→(∀x,x∈l→P x)→∀x,x∈b::l→x=jG lt b l∨lt (jG lt b l) x=true
 | [],b,_,_,x,hx=>by simp at hx;subst hx;exact Or.inl rfl
 | y::t,b,hb,hl,x,hx=>by
  have hy:=hl y σ;have ht:=fun z hz=>hl z (List.mem_cons_of_mem _ hz)
  unfold jG;have hP:P (if lt y b then y else b):=by split;exact hy;exact hb
  have ih:=uW tr tot t (if lt y b then y else b) hP ht
  have hbest:P (jG lt (if lt y b then y else b) t):=by
   rcases List.mem_cons.1 (xY lt t (if lt y b then y else b)) with e|e
   ·rw [e];exact hP
   ·exact ht _ e
  have via:∀z,P z→lt (if lt y b then y else b) z=true→z=jG lt (if lt y b then y else b) t∨lt (jG lt (if lt y b then y else b) t) z=true:=fun z hz h=>by
   rcases ih _ (List.mem_cons_self) with e|e
   ·rw [←e];exact Or.inr h
   ·exact Or.inr (tr _ _ _ hbest hP hz e h)
  by_cases e:lt y b=true
  ·rw [if_pos e] at ih via ⊢;rcases List.mem_cons.1 hx with e1|hx
   ·subst e1;exact via x hb e
   ·exact ih x hx
  ·rw [if_neg e] at ih via ⊢;have e:lt y b=false:=by simpa using e
   rcases List.mem_cons.1 hx with e1|hx
   ·subst e1;exact ih x σ
   ·rcases List.mem_cons.1 hx with e1|hx
    ·subst e1
     by_cases exb:x=b
     ·subst exb;exact ih x σ
     ·exact via x hy (tot x b hy hb exb e)
    ·exact ih x (List.mem_cons_of_mem _ hx)
theorem Ls (B:zA A G) {h:Nat} {z:Int} (hz:z∈G.R h):∃y:Nat,z=y∧y<A.cs.length∧bD A z=true∧(A.c y).i=h∧G.F.u y=-1:=by
 have hr:=(B.rh.row h).1 z hz;obtain ⟨y,rfl⟩:=Int.eq_ofNat_of_zero_le hr.1;have:=(B.rh.mem h y).1 hz;have h4:(A.c y).i=h:=this.2.2.2;exact ⟨y,rfl,this.2.1,(af _ _).2 ⟨this.2.1,ω⟩,h4,this.2.2.1⟩
theorem Kg (B:zA A G) {h:Nat} (h1:1≤h) {x:Int} {t:List Int} (hR:G.R h=x::t):∃m:Nat,jG (bF A) x t=m∧bL A (h:Int)=some m∧m<A.cs.length∧G.F.u m=-1∧(A.c m).i=h:=by
 have hin:∀z,z∈x::t→∃y:Nat,z=y∧y<A.cs.length∧bD A z=true∧(A.c y).i=h∧G.F.u y=-1:=fun z hz=>Ls B (by rw [hR];exact hz)
 obtain ⟨m,e,m1,m2,m3,m4⟩:=hin _ (xY (bF A) t x);refine ⟨m,e,(dM ω).2 ⟨m1,m3,fun y hy hh=>?_⟩,m1,m4,m3⟩
 have F:=uW (lt:=bF A) (P:=fun z=>∃y:Nat,z=y∧bD A z=true) (fun a b c ha hb hc h1 h2=>by
  obtain ⟨a,rfl,_⟩:=ha;obtain ⟨b,rfl,_⟩:=hb;obtain ⟨c,rfl,_⟩:=hc;rw [jC] at h1 h2 ⊢;simp only [Bool.and_eq_true,decide_eq_true_eq] at h1 h2 ⊢;exact ⟨⟨h1.1.1,h2.1.2⟩,bE h1.2 h2.2⟩) (fun a b ha hb hne h1=>by
  obtain ⟨a,rfl,ia⟩:=ha;obtain ⟨b,rfl,ib⟩:=hb;have:=wN ia ib (fun e=>hne (by rw [e])) h1
  rw [jC,ia,ib]
  simpa using this) t x (by obtain ⟨y,e,_,i,_⟩:=hin x σ;exact ⟨y,e,i⟩) (fun z hz=>by obtain ⟨y,e,_,i,_⟩:=hin z (List.mem_cons_of_mem _ hz);exact ⟨y,e,i⟩)
 obtain ⟨T,t1,t2,t3,t4⟩:=JL B A.cs.length y ω hy ω;have hT:(T:Int)∈x::t:=by rw [←hR];exact (B.rh.mem h T).2 ⟨h1,t1,t2,by rw [t3];exact hh⟩
 have hmT:T=m∨bH A m T:=by
  rcases F _ hT with e2|e2
  ·rw [e] at e2;exact Or.inl ω
  ·rw [e,jC] at e2;simp only [Bool.and_eq_true,decide_eq_true_eq] at e2;exact Or.inr e2.2
 rcases t4 with e1|e1
 ·subst e1;exact hmT
 ·rcases hmT with e2|e2
  ·subst e2;exact Or.inr e1
  ·exact Or.inr (bE e2 e1)
theorem Fh (B:zA A G) {h:Nat} (h1:1≤h) (hR:G.R h=[]):bL A (h:Int)=none:=by
 have:=B.w h h1;rw [hR] at this;exact (iB ω).2 this.symm
end
end Go.Proofs.YtklibcncmbofpaaGreat
