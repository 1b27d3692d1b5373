/-
  Lemmas for PathBest: FbP, FbQ, FbR, Fb3. Conditions: those of each lemma.
-/
import Derived.Deep.DeepCutAuto
import Derived.Outline
import Derived.Deep.LoopGhost
import Derived.Test.YtklibcncmbofpaaGreatB25
set_option linter.all false
set_option maxHeartbeats 8000000
set_option maxRecDepth 10000
namespace Go.Proofs.YtklibcncmbofpaaGreat
section
variable {n:Nat} {G:FG} {bO:Nat->Int} {L:Nat->Nat->Prop} {ex:Nat->Nat}
theorem FF.sV (H:FF n G bO L ex) {a x:Nat} (hx:x<n) (ua:G.up a=-1):a∉G.K x:=fun hm=>by
 have:=(H.kid x a hx hm).2;omega
theorem FF.Np (H:FF n G bO L ex) {a b:Nat} (ha:a<n) (hb:b<n) (ua:G.up a=-1) (ub:G.up b=-1) (h0a:0<bO a) (h0b:0<bO b):FF n (Np G a b) bO L ex:=
 ⟨H.rg.swap ha hb,H.kid,H.FQ,fun x hx=>(H.ring x hx).oz (H.sV hx ua) (H.sV hx ub),H.home,H.ord,fun y hy h0=>by
  obtain ⟨h1,h2,h3⟩:=H.alone y hy h0
  exact ⟨h1,h2,by show dK G.nx a b y=y;rw [jk (fun e=>h0 (by rw [e];exact h0a)) (fun e=>h0 (by rw [e];exact h0b))];exact h3⟩,H.free,H.cnt⟩
theorem FF.dG (H:FF n G bO L ex) (R:Nat->List Nat):FF n { G with R:=R } bO L ex:=⟨H.rg,H.kid,H.FQ,H.ring,H.home,H.ord,H.alone,H.free,H.cnt⟩
theorem FF.mono {L':Nat->Nat->Prop} {vZ:Nat->Int} (H:FF n G bO L ex) (hL:∀y p:Nat,y<n->G.up y=p->L p y->vZ y=vZ p/\0<vZ y/\L' p y) (ha:∀y,y<n->¬0<vZ y->G.up y=-1/\G.K y=[]/\G.nx y=y):FF n G vZ L' ex:=
 ⟨H.rg,H.kid,H.FQ,H.ring,fun y p hy hu=>⟨(hL y p hy hu (H.ord y p hy hu)).1,(hL y p hy hu (H.ord y p hy hu)).2.1⟩,fun y p hy hu=>(hL y p hy hu (H.ord y p hy hu)).2.2,ha,H.free,H.cnt⟩
def kl (l:List Nat):List Nat:=match l with|[]=>[]|k::t=>t++[k]
theorem LV (l:List Nat):(kl l).Perm l:=by
 cases l with
 | nil=>exact List.Perm.refl _
 | cons k t=>exact List.perm_append_comm (l₁:=t) (l₂:=[k])
theorem Yw {l:List Nat} {z:Nat}:z∈kl l↔z∈l:=(LV l).mem_iff
theorem Zc (l:List Nat):(kl l).length=l.length:=(LV l).length_eq
theorem Vp (G:FG) (x:Nat):(dO G x).R=G.R:=by unfold dO;cases G.K x<;>rfl
theorem Dy (G:FG) (x:Nat):(dO G x).K=az G.K x []:=by
 unfold dO;cases hK:G.K x with
 | nil=>funext z;unfold az;by_cases e:z=x<;>simp [e,hK]
 | cons k t=>rfl
theorem GZ (G:FG) {x:Nat} (ux:G.up x=-1) (z:Nat):(dO G x).up z=if z∈G.K x then -1 else G.up z:=by
 unfold dO;cases hK:G.K x with
 | nil=>simp
 | cons k t=>
  show az (fun z=>if z∈k::t then (-1:Int) else G.up z) x (-1) z=_
  unfold az
  by_cases e:z=x
  ·rw [if_pos e];split;rfl;rw [e,ux]
  ·rw [if_neg e]
theorem Sy (G:FG) {x:Nat} (mx:G.mr x=false) (z:Nat):(dO G x).mr z=if z∈G.K x then false else G.mr z:=by
 unfold dO;cases hK:G.K x with
 | nil=>simp
 | cons k t=>
  show az (fun z=>if z∈k::t then false else G.mr z) x false z=_
  unfold az
  by_cases e:z=x
  ·rw [if_pos e];split;rfl;rw [e,mx]
  ·rw [if_neg e]
theorem Ah (G:FG) (x:Nat):(dO G x).nx=match G.K x with|[]=>G.nx|k::_=>dK G.nx x k:=by unfold dO;cases G.K x<;>rfl
theorem Sc (G:FG) (x:Nat):(dO G x).pv=match G.K x with|[]=>G.pv|k::_=>jO G.nx G.pv x k:=by unfold dO;cases G.K x<;>rfl
theorem FF.raise (H:FF n G bO L ex) {x:Nat} (hx:x<n) (ux:G.up x=-1) (h0:0<bO x) :
  FF n (dO G x) bO L ex/\(∀l,Ring G.nx l->x∉l->(∀z,z∈l->z∉G.K x)->Ring (dO G x).nx l)/\
   (∀a b,Ring G.nx (a++x::b)->(∀z,z∈a++x::b->z∉G.K x)->Ring (dO G x).nx (a++x::(kl (G.K x)++b))):=by
 have mx:=H.free x hx ux;have up:=GZ G ux;have mr:=Sy G mx;have far:∀z,z≠x->z∉G.K x->(dO G x).nx z=G.nx z:=fun z h1 h2=>by
  rw [Ah];cases hK:G.K x with
  | nil=>rfl
  | cons k t=>exact jk h1 (fun e=>h2 (by rw [hK,e];simp))
 have rl:∀l,Ring G.nx l->x∉l->(∀z,z∈l->z∉G.K x)->Ring (dO G x).nx l:=fun l hl h1 h2=>hl.far (fun z hz=>far z (fun e=>h1 (e▸hz)) (h2 z hz));have oth:∀a,a<n->a≠x->∀z,z∈G.K a->z≠x/\z∉G.K x:=fun a ha hne z hz=>by
  have:=(H.kid a z ha hz).2;exact ⟨fun e=>by subst e;omega,fun hm=>by have:=(H.kid x z hx hm).2;omega⟩
 have kn:∀a,a≠x->(dO G x).K a=G.K a:=fun a ha=>by rw [Dy,bg _ _ ha]
 have kx:(dO G x).K x=[]:=by rw [Dy,bV]
 refine ⟨⟨?_,fun a y ha hy=>?_,fun y hy=>?_,fun a ha=>?_,fun y p hy hu=>?_,fun y p hy hu=>?_,fun y hy h1=>?_,fun y hy hu=>?_,fun a d ha=>?_⟩,rl,fun a b hr hd=>?_⟩
 ·rw [Ah,Sc];cases hK:G.K x with
  | nil=>exact H.rg
  | cons k t=>exact H.rg.swap hx (H.kid x k hx (by rw [hK];simp)).1
 ·by_cases e:a=x
  ·subst e;rw [kx] at hy;cases hy
  ·rw [kn a e] at hy;have:=oth a ha e y hy;exact ⟨(H.kid a y ha hy).1,by rw [up,if_neg this.2];exact (H.kid a y ha hy).2⟩
 ·rw [up]
  by_cases e:y∈G.K x
  ·rw [if_pos e];exact Or.inl rfl
  ·rw [if_neg e];rcases H.FQ y hy with h1|⟨p,hp,h1,h2⟩
   ·exact Or.inl h1
   ·have hpx:p≠x:=fun e2=>e (e2▸h2);exact Or.inr ⟨p,hp,h1,by rw [kn p hpx];exact h2⟩
 ·by_cases e:a=x
  ·subst e;rw [kx];exact Ring.nil _
  ·rw [kn a e];exact rl _ (H.ring a ha) (fun hm=>(oth a ha e x hm).1 rfl) (fun z hz=>(oth a ha e z hz).2)
 ·rw [up] at hu
  split at hu
  ·omega
  ·exact H.home y p hy hu
 ·rw [up] at hu
  split at hu
  ·omega
  ·exact H.ord y p hy hu
 ·obtain ⟨a1,a2,a3⟩:=H.alone y hy h1;have hyx:y≠x:=fun e=>h1 (by rw [e];exact h0);have hyk:y∉G.K x:=H.sV hx a1;exact ⟨by rw [up,if_neg hyk];exact a1,by rw [kn y hyx];exact a2,by rw [far y hyx hyk];exact a3⟩
 ·rw [up] at hu;rw [mr]
  split
  ·rfl
  ·rename_i hk
   rw [if_neg hk] at hu;exact H.free y hy hu
 ·by_cases e:a=x
  ·subst e;rw [kx];exact Nat.zero_le _
  ·rw [kn a e,tQ (G:=G) (ex:=ex) d (fun c hc=>by
    have:=oth a ha e c hc
    rw [kn c this.1,mr,if_neg this.2])]
   exact H.cnt a d ha
 ·have hk:=H.ring x hx;rw [Ah];cases hK:G.K x with
  | nil=>simpa [kl] using hr
  | cons k t=>
   rw [hK] at hk hd;have h1:Ring G.nx (x::(b++a)):=Ring.WK (a:=a) (b:=x::b) hr;have h2:=Ring.join h1 hk (fun z hz=>hd z (by simp only [ρ,τ] at hz ⊢;rcases hz with h|h|h<;>simp [h]));have h3:Ring (dK G.nx x k) ((x::(t++k::b))++a):=by simpa using h2
   have h4:=Ring.WK h3;simpa [kl] using h4
def uK (l:List Nat) (G:FG):FG:=l.foldl prt G
theorem xA:∀ (l:List Nat) (G:FG),(uK l G).up=G.up/\(uK l G).mr=G.mr/\(uK l G).K=G.K/\(uK l G).R=G.R
 | [],G=>⟨rfl,rfl,rfl,rfl⟩
 | x::t,G=>by
  obtain ⟨h1,h2,h3,h4⟩:=xA t (prt G x);exact ⟨h1,h2,h3,h4⟩
theorem Le:∀ (l:List Nat) (G:FG),FF n G bO L ex->Ring G.nx l->(∀z,z∈l->z<n/\G.up z=-1/\0<bO z)->
  FF n (uK l G) bO L ex/\(∀z,z∈l->(uK l G).nx z=z)/\(∀l',Ring G.nx l'->(∀z,z∈l'->z∉l)->Ring (uK l G).nx l')
 | [],G,H,hr,hl=>⟨H,fun z hz=>(by cases hz),fun l' h _=>h⟩
 | x::t,G,H,hr,hl=>by
  have hx:=hl x σ;obtain ⟨p1,p2⟩:=H.rg.part hr (fun z hz=>(hl z hz).1);have hpm:G.pv x∈x::t:=by
   rcases List.eq_nil_or_concat t with rfl|⟨a,y,e⟩
   ·have e1:=jI.1 hr;have:=H.rg.pn x hx.1;rw [e1] at this;simp [this]
   ·rw [List.concat_eq_append] at e;subst e;have:=H.rg.last (x:=x) (y:=y) (a:=a) hr (hl y σ).1;rw [this];simp
  have hp:=hl _ hpm;have H1:FF n (prt G x) bO L ex:=H.Np hx.1 hp.1 hx.2.1 hp.2.1 hx.2.2 hp.2.2;have hnd:=List.nodup_cons.1 hr.nd;obtain ⟨r1,r2,r3⟩:=Le t (prt G x) H1 p2 (fun z hz=>hl z (by simp [hz]));refine ⟨r1,fun z hz=>?_,fun l' h' hd=>r3 l' (h'.oz (fun hm=>hd x hm σ) (fun hm=>hd _ hm hpm)) (fun z hz hm=>hd z hz (by simp [hm]))⟩;rcases ρ.1 hz with rfl|hz
  ·exact jI.1 (r3 [z] p1 (fun y hy=>by simp at hy;subst hy;exact hnd.1))
  ·exact r2 z hz
theorem IV (b:Bool) (R l:List Nat):(vV b R l).Perm (R++l):=by
 unfold vV;cases R with
 | nil=>exact List.Perm.refl _
 | cons t s=>
  cases l with
  | nil=>simp
  | cons x r=>
   simp only
   split
   ·exact List.perm_append_comm (l₁:=x::s) (l₂:=t::r) |>.trans (by
     show (t::(r++x::s)).Perm (t::(s++x::r))
     refine List.Perm.cons t ?_
     exact List.perm_middle.trans ((List.Perm.cons x List.perm_append_comm).trans List.perm_middle.symm))
   ·show (t::(r++x::s)).Perm (t::(s++x::r))
    refine List.Perm.cons t ?_;exact List.perm_middle.trans ((List.Perm.cons x List.perm_append_comm).trans List.perm_middle.symm)
theorem vL (lt:Nat->Nat->Bool) (h:Nat) (l:List Nat) (G:FG):(iW lt h l G).up=G.up/\(iW lt h l G).mr=G.mr/\(iW lt h l G).K=G.K/\∀g,g≠h->(iW lt h l G).R g=G.R g:=by
 unfold iW
 split
 ·exact ⟨rfl,rfl,rfl,fun g hg=>bg _ _ hg⟩
 ·exact ⟨rfl,rfl,rfl,fun g hg=>bg _ _ hg⟩
theorem A8 {lt:Nat->Nat->Bool} {h x:Nat} {r:List Nat} (H:FF n G bO L ex) (h1:1<=h) (hl:J4 n G bO h L lt) (tr:∀a b c,L a b->L b c->L a c) (hR:Ring G.nx (G.R h)) (hx:Ring G.nx (x::r)) (hd:∀z,z∈G.R h->z∉x::r)
  (mR:∀z,z∈G.R h->Ao n G bO h z) (mx:∀z,z∈x::r->Ao n G bO h z) (tR:∀t s,G.R h=t::s->∀y,y∈s->L t y) (tx:∀y,y∈r->L x y) :
  FF n (iW lt h (x::r) G) bO L ex/\Ring (iW lt h (x::r) G).nx ((iW lt h (x::r) G).R h)/\((iW lt h (x::r) G).R h).Perm (G.R h++x::r)/\
   (∀t s,(iW lt h (x::r) G).R h=t::s->∀y,y∈s->L t y)/\(∀l',Ring G.nx l'->(∀z,z∈l'->z∉G.R h/\z∉x::r)->Ring (iW lt h (x::r) G).nx l'):=by
 cases hRR:G.R h with
 | nil=>
  have e:iW lt h (x::r) G={ G with R:=az G.R h (x::r) }:=by unfold iW;rw [hRR]
  rw [e];have eR:az G.R h (x::r) h=x::r:=bV _ _ _;simp only [eR];exact ⟨H.dG _,hx,List.Perm.refl _,fun t s e y hy=>by injection e with e1 e2;subst e1 e2;exact tx y hy,fun l' h _=>h⟩
 | cons t s=>
  have e:iW lt h (x::r) G={ Np G t x with R:=az G.R h (vV (lt x t) (t::s) (x::r)) }:=by unfold iW;rw [hRR]
  rw [e];rw [hRR] at hR hd mR;have ht:=mR t σ;have Bd:=mx x σ;have hne:x≠t:=fun e=>hd t σ (by simp [e]);have h0:(0:Int)<bO t/\(0:Int)<bO x:=⟨by rw [ht.2.2];omega,by rw [Bd.2.2];omega⟩;have hk:=hl x t Bd.1 ht.1 Bd.2.2 ht.2.2 hne;have eR:az G.R h (vV (lt x t) (t::s) (x::r)) h=vV (lt x t) (t::s) (x::r):=bV _ _ _;have hj:Ring (dK G.nx t x) (t::r++x::s):=Ring.join hR hx hd;have hts:=tR t s hRR;simp only [eR];refine ⟨(H.Np ht.1 Bd.1 ht.2.1 Bd.2.1 h0.1 h0.2).dG _,?_,IV _ _ _,fun t' s' e' y hy=>?_,fun l' hl' hd'=>hl'.oz (fun hm=>(hd' t hm).1 σ) (fun hm=>(hd' x hm).2 σ)⟩
  ·show Ring (dK G.nx t x) _
   unfold vV;simp only;cases hb:lt x t with
   | true=>exact Ring.WK (a:=t::r) (b:=x::s) hj
   | false=>exact hj
  ·unfold vV at e';simp only at e';cases hb:lt x t with
   | true=>
    rw [hb] at hk;rw [hb,if_pos rfl] at e';have hxt:=hk.1 rfl;have e1:x=t':=by injection e'
    have e2:s++t::r=s':=by injection e'
    subst e1 e2;simp only [τ,ρ] at hy;rcases hy with hy|rfl|hy
    ·exact tr _ _ _ hxt (hts y hy)
    ·exact hxt
    ·exact tx y hy
   | false=>
    rw [hb] at hk;rw [hb,if_neg σ] at e';have htx:=hk.2 rfl;have e1:t=t':=by injection e'
    have e2:r++x::s=s':=by injection e'
    subst e1 e2;simp only [τ,ρ] at hy;rcases hy with hy|rfl|hy
    ·exact tr _ _ _ htx (tx y hy)
    ·exact htx
    ·exact hts y hy
end
def ru (lt:Nat->Nat->Bool) (h:Nat):List Int->FG->Nat->FG×Nat
 | [],G,q=>(G,q)
 | y::t,G,q=>if y=-1 then ru lt h t G q else ru lt h t (iW lt h [y.toNat] G) (q+sW h G)
def Gh (T:List Int):List Nat:=T.filterMap (fun y=>if y=-1 then none else some y.toNat)
theorem sD (y:Int) (t:List Int):Gh (y::t)=if y=-1 then Gh t else y.toNat::Gh t:=by
 unfold Gh;rw [List.filterMap_cons];split<;>rename_i h<;>by_cases e:y=-1<;>simp_all
theorem K7:∀T:List Int,(Gh T).length=oH T
 | []=>rfl
 | y::t=>by
  rw [sD];have ih:=K7 t;unfold oH at *
  by_cases e:y=-1
  ·rw [if_pos e,List.filter_cons_of_neg (by simpa using e)];exact ih
  ·rw [if_neg e,List.filter_cons_of_pos (by simpa using e)];simp [ih]
structure Aj (n:Nat) (bO:Nat->Int) (L:Nat->Nat->Prop) (h:Nat) (ps:List Nat) (G:FG):Prop where
 ff:FF n G bO L (fun _=>0)
 fr:FR n G bO L (some h)
 ring:Ring G.nx (G.R h)
 top:∀t s,G.R h=t::s->∀y,y∈s->L t y
 mem:∀y,y∈G.R h->Ao n G bO h y
 nd:ps.Nodup
 pr:∀z,z∈ps->Ao n G bO h z/\G.nx z=z/\z∉G.R h
 all:∀z,Ao n G bO h z->z∈G.R h\/z∈ps
section
variable {n:Nat} {bO:Nat->Int} {L:Nat->Nat->Prop} {h:Nat} {G:FG}
theorem Aj.step {lt:Nat->Nat->Bool} {z:Nat} {ps:List Nat} (H:Aj n bO L h (z::ps) G) (h1:1<=h) (hl:∀G,J4 n G bO h L lt) (tr:∀a b c,L a b->L b c->L a c) :
  Aj n bO L h ps (iW lt h [z] G)/\((iW lt h [z] G).R h).length=(G.R h).length+1:=by
 obtain ⟨z1,z2,z3⟩:=H.pr z σ;have hnd:=List.nodup_cons.1 H.nd;obtain ⟨c1,c2,c3,c4,c5⟩:=A8 H.ff h1 (hl G) tr H.ring (jI.2 z2) (fun y hy hm=>by simp at hm;subst hm;exact z3 hy) H.mem (fun y hy=>by simp at hy;subst hy;exact z1) H.top (fun y hy=>by cases hy);obtain ⟨s1,s2,s3,s4⟩:=vL lt h [z] G;have rt:∀g y,Ao n (iW lt h [z] G) bO g y↔Ao n G bO g y:=fun g y=>by unfold Ao;rw [s1]
 have mem':∀y,y∈(iW lt h [z] G).R h↔y∈G.R h\/y=z:=fun y=>by rw [c3.mem_iff];simp
 refine ⟨⟨c1,⟨fun g hg=>?_,fun g y hg=>?_,fun g t s hg hR=>?_⟩,c2,c4,fun y hy=>?_,hnd.2,fun y hy=>?_,fun y hy=>?_⟩,by rw [c3.length_eq];simp⟩
 ·have hgh:g≠h:=fun e=>hg (by rw [e]);rw [s4 g hgh];refine c5 _ (H.fr.ring g hg) (fun y hy=>?_);have hm:=(H.fr.mem g y hg).1 hy;refine ⟨fun hm2=>hgh ?_,fun hm2=>hgh ?_⟩
  ·have:=(H.mem y hm2).2.2;have:=hm.2.2.2;omega
  ·simp at hm2;subst hm2;have:=z1.2.2;have:=hm.2.2.2;omega
 ·have hgh:g≠h:=fun e=>hg (by rw [e]);rw [s4 g hgh,s1];exact H.fr.mem g y hg
 ·have hgh:g≠h:=fun e=>hg (by rw [e]);rw [s4 g hgh] at hR;exact H.fr.top g t s hg hR
 ·rw [rt];rcases (mem' y).1 hy with hy|rfl
  ·exact H.mem y hy
  ·exact z1
 ·obtain ⟨y1,y2,y3⟩:=H.pr y (by simp [hy]);have Rw:y≠z:=fun e=>hnd.1 (e▸hy);refine ⟨(rt h y).2 y1,jI.1 (c5 [y] (jI.2 y2) (fun w hw=>by simp at hw;subst hw;exact ⟨y3,by simpa using Rw⟩)),fun hm=>?_⟩;rcases (mem' y).1 hm with hm|hm
  ·exact y3 hm
  ·exact Rw hm
 ·rcases H.all y ((rt h y).1 hy) with a|a
  ·exact Or.inl ((mem' y).2 (Or.inl a))
  ·rcases ρ.1 a with a|a
   ·exact Or.inl ((mem' y).2 (Or.inr a))
   ·exact Or.inr a
theorem Cg (h:Nat) (G:FG):sW h G=min 1 (G.R h).length:=by
 unfold sW;cases G.R h with
 | nil=>simp
 | cons t s=>simp
theorem Km {lt:Nat->Nat->Bool} (h1:1<=h) (hl:∀G,J4 n G bO h L lt) (tr:∀a b c,L a b->L b c->L a c):∀ (T:List Int) (G:FG) (q:Nat),Aj n bO L h (Gh T) G->
  Aj n bO L h [] (ru lt h T G q).1/\((ru lt h T G q).1.up=G.up/\(ru lt h T G q).1.mr=G.mr/\(ru lt h T G q).1.K=G.K/\∀g,g≠h->(ru lt h T G q).1.R g=G.R g)/\
   ((ru lt h T G q).1.R h).Perm (G.R h++Gh T)/\(ru lt h T G q).2+min 1 ((ru lt h T G q).1.R h).length=q+oH T+min 1 (G.R h).length
 | [],G,q,H=>⟨H,⟨rfl,rfl,rfl,fun _ _=>rfl⟩,by simp [Gh,ru],by simp [ru,oH]⟩
 | y::t,G,q,H=>by
  rw [sD] at H;unfold ru
  by_cases e:y=-1
  ·rw [if_pos e] at H ⊢;obtain ⟨r1,r2,r3,r4⟩:=Km h1 hl tr t G q H;refine ⟨r1,r2,by rw [sD,if_pos e];exact r3,?_⟩;have:oH (y::t)=oH t:=by unfold oH;rw [List.filter_cons_of_neg (by simpa using e)]
   rw [this];exact r4
  ·rw [if_neg e] at H ⊢;obtain ⟨k1,k2⟩:=H.step h1 hl tr;obtain ⟨s1,s2,s3,s4⟩:=vL lt h [y.toNat] G;obtain ⟨r1,r2,r3,r4⟩:=Km h1 hl tr t _ (q+sW h G) k1;have hp:((iW lt h [y.toNat] G).R h).Perm (G.R h++[y.toNat]):=by
    obtain ⟨z1,z2,z3⟩:=H.pr y.toNat σ;exact (A8 H.ff h1 (hl G) tr H.ring (jI.2 z2) (fun w hw hm=>by simp at hm;subst hm;exact z3 hw) H.mem (fun w hw=>by simp at hw;subst hw;exact z1) H.top (fun w hw=>by cases hw)).2.2.1
   refine ⟨r1,⟨r2.1.trans s1,r2.2.1.trans s2,r2.2.2.1.trans s3,fun g hg=>(r2.2.2.2 g hg).trans (s4 g hg)⟩,?_,?_⟩
   ·rw [sD,if_neg e];exact r3.trans ((hp.append_right (Gh t)).trans σ)
   ·have:oH (y::t)=oH t+1:=by unfold oH;rw [List.filter_cons_of_pos (by simpa using e)];rfl
    rw [this];rw [Cg] at r4;rw [Cg];omega
theorem TT.degs {T:List Int} (H:TT n bO L h T [] G):(Gh T).Pairwise (fun a b=>(G.K a).length≠(G.K b).length):=by
 unfold Gh;rw [List.pairwise_filterMap,List.pairwise_iff_getElem];intro i j hi hj hij a ha b hb;have f:∀ (i:Nat) (hi:i<T.length) (a:Nat),(if T[i]=-1 then none else some T[i].toNat)=some a->(G.K a).length=i:=fun i hi a ha=>by
  rcases H.tab i T[i] (ε hi) with e|⟨z,e1,_,e2,_⟩
  ·rw [if_pos e] at ha;cases ha
  ·rw [if_neg ω] at ha;have:T[i].toNat=a:=by injection ha
   obtain rfl:z=a:=ω;exact e2
 rw [f i hi a ha,f j hj b hb];omega
theorem TT.ri {T:List Int} (H:TT n bO L h T [] G):Aj n bO L h (Gh T) G:=by
 have hm:∀z,z∈Gh T↔(z:Int)∈T:=fun z=>by
  unfold Gh;rw [List.mem_filterMap];constructor
  ·rintro ⟨y,hy,e⟩
   by_cases e1:y=-1
   ·rw [if_pos e1] at e;cases e
   ·rw [if_neg e1] at e;have e2:y.toNat=z:=by injection e
    obtain ⟨i,hi⟩:=List.mem_iff_getElem?.1 hy;rcases H.tab i y hi with e3|⟨w,e3,_⟩
    ·exact absurd e3 e1
    ·rw [show (z:Int)=y by omega];exact hy
  ·intro hz;exact ⟨z,hz,by rw [if_neg ω];simp⟩
 refine ⟨H.ff,H.fr,by rw [H.zero];exact Ring.nil _,fun t s e=>(by rw [H.zero] at e;cases e),fun y hy=>(by rw [H.zero] at hy;cases hy),H.degs.imp (fun {a b} hab e=>hab (by rw [e])),fun z hz=>?_,fun z hz=>?_⟩
 ·obtain ⟨i,hi⟩:=List.mem_iff_getElem?.1 ((hm z).1 hz);rcases H.tab i z hi with e3|⟨w,e3,e4,_⟩
  ·omega
  ·obtain rfl:z=w:=ω;exact ⟨e4,H.one z e4,by rw [H.zero];simp⟩
 ·rcases H.all z hz with a|a
  ·cases a
  ·exact Or.inr ((hm z).2 a)
end
structure yJ (A:NS) (G:FG):Prop where
 ff:FF A.cs.length G (fun y=>(A.c y).i) (cZ A) (fun _=>0)
 fr:FR A.cs.length G (fun y=>(A.c y).i) (cZ A) none
theorem FR.all {n:Nat} {G:FG} {bO:Nat->Int} {L:Nat->Nat->Prop} (H:FR n G bO L none) (h:Nat):Ring G.nx (G.R h)/\(∀y,y∈G.R h↔1<=h/\Ao n G bO h y)/\∀t s,G.R h=t::s->∀y,y∈s->L t y:=
 ⟨H.ring h σ,fun y=>H.mem h y σ,fun t s e=>H.top h t s σ e⟩
section
variable {A:NS} {G:FG}
theorem yJ.sO (I:yJ A G) {h:Int} {m:Nat} (hm:dW A h=some m):Ao A.cs.length G (fun y=>(A.c y).i) h.toNat m/\1<=h.toNat:=by
 have h0:0<h:=by
  apply Classical.byContradiction;intro hn;rw [qa hn] at hm;cases hm
 obtain ⟨h1,h2,h3⟩:=(iZ h0).1 hm;refine ⟨⟨h1,?_,by show (A.c m).i=_;rw [h2];omega⟩,by omega⟩;rcases I.ff.FQ m h1 with e|⟨p,hp,e,_⟩
 ·exact e
 ·have ho:=I.ff.ord m p h1 e;have hh:=(I.ff.home m p h1 e).1;have hh':(A.c m).i=(A.c p).i:=hh;rcases h3 p hp (by rw [←hh',h2]) with e2|e2
  ·subst e2;exact absurd ho vQ
  ·exact absurd ho (qo e2)
theorem yJ.qc (I:yJ A G) {h:Nat} {t:Nat} {s:List Nat} (hR:G.R h=t::s):dW A (h:Int)=some t/\1<=h/\t<A.cs.length/\G.up t=-1/\(A.c t).i=h:=by
 obtain ⟨r1,r2,r3⟩:=I.fr.all h;obtain ⟨h1,t1,t2,t3⟩:=(r2 t).1 (by rw [hR];simp);have t3':(A.c t).i=(h:Int):=t3;refine ⟨?_,h1,t1,t2,t3'⟩;cases hm:dW A (h:Int) with
 | none=>
  have:=(jT ω).1 hm;have hp:0<dZ A (h:Int):=fM.2 ⟨t,t1,t3',ω⟩;omega
 | some m=>
  obtain ⟨m1,m2⟩:=I.sO hm;rw [π] at m1;have hmem:=(r2 m).2 ⟨h1,m1⟩;rw [hR] at hmem;rcases ρ.1 hmem with e|e
  ·rw [e]
  ·have a1:=r3 t s hR m e;obtain ⟨_,_,h3⟩:=(iZ ω).1 hm;rcases h3 t t1 t3' with e2|e2
   ·rw [e2]
   ·exact absurd a1 (qo e2)
theorem yJ.QO (I:yJ A G) {h:Nat} (hR:G.R h=[]):dW A (h:Int)=none:=by
 cases hm:dW A (h:Int) with
 | none=>rfl
 | some m=>
  obtain ⟨m1,m2⟩:=I.sO hm;rw [π] at m1 m2;have:=((I.fr.all h).2.1 m).2 ⟨m2,m1⟩;rw [hR] at this;cases this
theorem yJ.first (I:yJ A G) {h:Nat} {t:Nat} {s:List Nat} (hR:G.R h=t::s) {y:Nat} (hy:y<A.cs.length) (hh:(A.c y).i=h) (hne:y≠t):cZ A t y:=by
 obtain ⟨m1,m2,_⟩:=I.qc hR;obtain ⟨_,_,h3⟩:=(iZ ω).1 m1;exact (h3 y hy hh).resolve_left hne
theorem yJ.out (I:yJ A G) {h:Nat} {z:Nat} (hz:z∈G.R h):1<=h/\z<A.cs.length/\G.up z=-1/\(A.c z).i=h/\bX A (z:Int)=true:=by
 obtain ⟨h1,t1,t2,t3⟩:=((I.fr.all h).2.1 z).1 hz;have t3':(A.c z).i=(h:Int):=t3;exact ⟨h1,t1,t2,t3',(ai _ _).2 ⟨t1,ω⟩⟩
end
def o9 (A:NS) (a b:Nat):Bool:=decide (cZ A a b)
theorem zU (A:NS) (n:Nat) (G:FG) (bO:Nat->Int) (h:Nat):J4 n G bO h (cZ A) (o9 A):=fun a b _ _ _ _ hne=>
 ⟨fun e=>by unfold o9 at e;simpa using e,fun e=>by
  unfold o9 at e;have e':¬cZ A a b:=by simpa using e
  exact (jm hne).resolve_left e'⟩
def oZ (h x:Nat) (rs:List Nat) (G:FG):FG:={ uK (x::rs) (dO G x) with R:=az G.R h [] }
def rW (A:NS) (h x:Nat) (rs:List Nat) (G:FG):TD:=tid (o9 A) rs ⟨[],oZ h x rs G,0⟩
def rH (A:NS) (h x:Nat) (rs:List Nat) (G:FG):FG×Nat:=ru (o9 A) h (rW A h x rs G).T (rW A h x rs G).G 0
section
variable {A:NS} {G:FG}
theorem XT (I:yJ A G) (ok:A.Ok) {h x:Nat} {s:List Nat} (hR:G.R h=x::s) :
  (Ring (dO G x).nx (x::(kl (G.K x)++s))/\(∀z,z∈x::(kl (G.K x)++s)->z<A.cs.length))/\
  TT A.cs.length (fun y=>((bz A x).c y).i) (cZ A) h [] (kl (G.K x)++s) (oZ h x (kl (G.K x)++s) G)/\
  (∀z,z<A.cs.length->((bz A (x:Int)).c z).i=(h:Int)->bX A (z:Int)=true)/\
  Aj A.cs.length (fun y=>((bz A x).c y).i) (cZ A) h (Gh (rW A h x (kl (G.K x)++s) G).T) (rW A h x (kl (G.K x)++s) G).G/\(rW A h x (kl (G.K x)++s) G).G.R h=[]/\
  yJ (bz A x) (rH A h x (kl (G.K x)++s) G).1/\
  (rW A h x (kl (G.K x)++s) G).q+(rH A h x (kl (G.K x)++s) G).2<=(G.K x).length+s.length/\
  (rW A h x (kl (G.K x)++s) G).q+((rH A h x (kl (G.K x)++s) G).1.R h).length=(G.K x).length+s.length/\
  (((rH A h x (kl (G.K x)++s) G).1.R h).Pairwise (fun a b=>((rH A h x (kl (G.K x)++s) G).1.K a).length≠((rH A h x (kl (G.K x)++s) G).1.K b).length))/\
  (∀g,g≠h->(rH A h x (kl (G.K x)++s) G).1.R g=G.R g)/\(∀y,y∈(rW A h x (kl (G.K x)++s) G).T->y=-1\/0<=y)/\(rW A h x (kl (G.K x)++s) G).T.length<=A.cs.length+1/\(rH A h x (kl (G.K x)++s) G).1.mr=(rW A h x (kl (G.K x)++s) G).G.mr:=by
 obtain ⟨m1,h1,hx,ux,hxh⟩:=I.qc hR;obtain ⟨_,_,_,_,hin⟩:=I.out (h:=h) (z:=x) (by rw [hR];simp);have hc:=fun y=>xR hin y;have hcl:=fT A (x:Int);have h0:(0:Int)<(A.c x).i:=ω;obtain ⟨rF,r1,r2⟩:=I.ff.raise hx ux h0;have mx:=I.ff.free x hx ux;have up1:=GZ G ux;have K1:=Dy G x;obtain ⟨q1,q2,q3⟩:=I.fr.all h;rw [hR] at q1;have K5:∀z,G.up z=-1->z∉G.K x:=fun z hz=>I.ff.sV hx hz;have Rk:Ring (dO G x).nx (x::(kl (G.K x)++s)):=by
  have:=r2 [] s q1 (fun z hz=>K5 z (((q2 z).1 (by rw [hR];exact hz)).2.2.1));exact this
 have sr:∀z,z∈s->Ao A.cs.length G (fun y=>(A.c y).i) h z:=fun z hz=>((q2 z).1 (by rw [hR];simp [hz])).2;have kr:∀z,z∈G.K x->z<A.cs.length/\G.up z=x/\(A.c z).i=h:=fun z hz=>by
  obtain ⟨k1,k2⟩:=I.ff.kid x z hx hz;have k3:(A.c z).i=(A.c x).i:=(I.ff.home z x k1 k2).1;exact ⟨k1,k2,ω⟩
 have rsm:∀z,z∈kl (G.K x)++s↔z∈G.K x\/z∈s:=fun z=>by simp [Yw]
 have Y7:∀z,z∈x::(kl (G.K x)++s)->z<A.cs.length/\(dO G x).up z=-1/\0<(A.c z).i:=fun z hz=>by
  rw [up1];rcases ρ.1 hz with rfl|hz
  ·exact ⟨hx,by rw [ux];split<;>rfl,h0⟩
  ·rcases (rsm z).1 hz with hz|hz
   ·exact ⟨(kr z hz).1,by rw [if_pos hz],by have:=(kr z hz).2.2;omega⟩
   ·have a:=sr z hz;have a3:(A.c z).i=h:=a.2.2;exact ⟨a.1,by rw [if_neg (K5 z a.2.1)];exact a.2.1,ω⟩
 have hnd:=List.nodup_cons.1 Rk.nd;obtain ⟨p1,p2,p3⟩:=Le (x::(kl (G.K x)++s)) (dO G x) rF Rk Y7;obtain ⟨e1,e2,e3,e4⟩:=xA (x::(kl (G.K x)++s)) (dO G x);have up3:∀z,(oZ h x (kl (G.K x)++s) G).up z=if z∈G.K x then -1 else G.up z:=fun z=>by
  show (uK (x::(kl (G.K x)++s)) (dO G x)).up z=_
  rw [e1,up1]
 have K3:(oZ h x (kl (G.K x)++s) G).K=az G.K x []:=by
  show (uK (x::(kl (G.K x)++s)) (dO G x)).K=_
  rw [e3,K1]
 have YB:(oZ h x (kl (G.K x)++s) G).up x=-1:=by rw [up3,ux];split<;>rfl
 have vZ:∀z,z≠x->((bz A (x:Int)).c z).i=(A.c z).i:=fun z hz=>by rw [hc,if_neg hz]
 have Bl:((bz A (x:Int)).c x).i=0:=by rw [hc,if_pos rfl];rfl
 have F3:FF A.cs.length (oZ h x (kl (G.K x)++s) G) (fun y=>((bz A (x:Int)).c y).i) (cZ A) (fun _=>0):=by
  refine (p1.dG (az G.R h [])).mono (fun y p hy hu ho=>?_) (fun y hy h2=>?_)
  ·have hu':(oZ h x (kl (G.K x)++s) G).up y=p:=hu;have hyx:y≠x:=fun e=>by subst e;rw [YB] at hu';omega
   have hpx:p≠x:=fun e=>by
    have hk:=(p1.dG (az G.R h [])).above hy hu;have hk2:y∈(oZ h x (kl (G.K x)++s) G).K p:=hk.2;rw [K3,e,bV] at hk2;cases hk2
   have hh:=p1.home y p hy hu;have EU:(A.c y).i=(A.c p).i:=hh.1;have hh2:0<(A.c y).i:=hh.2;exact ⟨by simp only [vZ y hyx,vZ p hpx];exact EU,by simp only [vZ y hyx];exact hh2,ho⟩
  ·by_cases e:y=x
   ·subst e;exact ⟨YB,by show (oZ h y (kl (G.K y)++s) G).K y=[];rw [K3,bV],p2 y σ⟩
   ·have h3:¬0<(A.c y).i:=by simp only [vZ y e] at h2;exact h2
    exact p1.alone y hy h3
 have rt3:∀g z,Ao A.cs.length (oZ h x (kl (G.K x)++s) G) (fun y=>((bz A (x:Int)).c y).i) g z->1<=g->z≠x/\(A.c z).i=g/\(z∈G.K x\/G.up z=-1):=fun g z hz hg=>by
  obtain ⟨a1,a2,a3⟩:=hz;have hzx:z≠x:=fun e=>by subst e;simp only [Bl] at a3;omega
  simp only [vZ z hzx] at a3;rw [up3] at a2;refine ⟨hzx,a3,?_⟩
  split at a2
  ·rename_i hk;exact Or.inl hk
  ·exact Or.inr a2
 have R3:∀g,g≠h->(oZ h x (kl (G.K x)++s) G).R g=G.R g:=fun g hg=>bg _ _ hg;have fr3:FR A.cs.length (oZ h x (kl (G.K x)++s) G) (fun y=>((bz A (x:Int)).c y).i) (cZ A) (some h):=by
  refine ⟨fun g hg=>?_,fun g z hg=>?_,fun g t s' hg hR'=>?_⟩
  all_goals have hgh:g≠h:=fun e=>hg (by rw [e])
  ·rw [R3 g hgh];obtain ⟨a1,a2,_⟩:=I.fr.all g;have hz:∀z,z∈G.R g->G.up z=-1/\(A.c z).i=g:=fun z hz=>⟨((a2 z).1 hz).2.2.1,((a2 z).1 hz).2.2.2⟩
   refine p3 _ (r1 _ a1 (fun hm=>hgh (by have:=(hz x hm).2;omega)) (fun z hm=>K5 z (hz z hm).1)) (fun z hm hm2=>?_);have hzg:=(hz z hm).2;rcases ρ.1 hm2 with e|hm2
   ·subst e;exact hgh ω
   ·rcases (rsm z).1 hm2 with hm2|hm2
    ·have:=(kr z hm2).2.2;exact hgh ω
    ·have:(A.c z).i=h:=(sr z hm2).2.2;exact hgh ω
  ·rw [R3 g hgh,(I.fr.all g).2.1 z];constructor
   ·rintro ⟨a0,a1,a2,a3⟩;have a3':(A.c z).i=g:=a3;have hzx:z≠x:=fun e=>by subst e;exact hgh ω
    exact ⟨a0,a1,by rw [up3,if_neg (K5 z a2)];exact a2,by simp only [vZ z hzx];exact a3'⟩
   ·rintro ⟨a0,a1,a2,a3⟩;obtain ⟨b1,b2,b3⟩:=rt3 g z ⟨a1,a2,a3⟩ a0;rcases b3 with b3|b3
    ·have:=(kr z b3).2.2;exact absurd (show g=h by omega) hgh
    ·exact ⟨a0,a1,b3,b2⟩
  ·rw [R3 g hgh] at hR';exact (I.fr.all g).2.2 t s' hR'
 have T3:TT A.cs.length (fun y=>((bz A (x:Int)).c y).i) (cZ A) h [] (kl (G.K x)++s) (oZ h x (kl (G.K x)++s) G):=by
  refine ⟨F3,fr3,bV _ _ _,fun z hz=>?_,fun d y hy=>by simp at hy,hnd.2,fun z hz=>?_,fun z hz=>?_⟩
  ·obtain ⟨b1,b2,b3⟩:=rt3 h z hz h1;refine p2 z ?_;simp only [ρ,rsm];rcases b3 with b3|b3
   ·exact Or.inr (Or.inl b3)
   ·have:=(q2 z).2 ⟨h1,hz.1,b3,b2⟩;rw [hR] at this;rcases ρ.1 this with e|e
    ·exact absurd e b1
    ·exact Or.inr (Or.inr e)
  ·have hzx:z≠x:=fun e=>hnd.1 (e▸hz);have a:=Y7 z (by simp [hz]);refine ⟨a.1,by rw [up3,←up1];exact a.2.1,?_⟩;simp only [vZ z hzx];rcases (rsm z).1 hz with b|b
   ·exact (kr z b).2.2
   ·exact (sr z b).2.2
  ·obtain ⟨b1,b2,b3⟩:=rt3 h z hz h1;left;rw [rsm];rcases b3 with b3|b3
   ·exact Or.inl b3
   ·have:=(q2 z).2 ⟨h1,hz.1,b3,b2⟩;rw [hR] at this;rcases ρ.1 this with e|e
    ·exact absurd e b1
    ·exact Or.inr e
 obtain ⟨t1,t2,t3,t4⟩:=Ri h1 (fun G=>zU A A.cs.length G _ h) (kl (G.K x)++s) ⟨[],oZ h x (kl (G.K x)++s) G,0⟩ T3 σ;have eD:tid (o9 A) (kl (G.K x)++s) ⟨[],oZ h x (kl (G.K x)++s) G,0⟩=rW A h x (kl (G.K x)++s) G:=rfl;rw [eD] at t1 t2 t3 t4;have Yl:=t1.ri;obtain ⟨u1,u2,u3,u4⟩:=Km h1 (fun G=>zU A A.cs.length G _ h) (fun a b c=>cz) _ _ 0 Yl;have e4':ru (o9 A) h (rW A h x (kl (G.K x)++s) G).T (rW A h x (kl (G.K x)++s) G).G 0=rH A h x (kl (G.K x)++s) G:=rfl;rw [e4'] at u1 u2 u3 u4;rw [t1.zero,List.nil_append] at u3;rw [t1.zero] at u4;have hlen:=u3.length_eq;rw [K7] at hlen
 have ho0:oH (TD.mk [] (oZ h x (kl (G.K x)++s) G) 0).T=0:=rfl;have hl2:(kl (G.K x)++s).length=(G.K x).length+s.length:=by rw [υ,Zc]
 have hq0:(TD.mk [] (oZ h x (kl (G.K x)++s) G) 0).q=0:=rfl;rw [ho0,hl2,hq0] at t2;simp only [List.length_nil] at u4;refine ⟨⟨Rk,fun z hz=>(Y7 z hz).1⟩,T3,fun z hz hh=>?_,Yl,t1.zero,⟨?_,?_⟩,?_,?_,?_,?_,fun y hy=>?_,t4,u2.2.1⟩
 ·have hzx:z≠x:=fun e=>by subst e;rw [Bl] at hh;omega
  rw [vZ z hzx] at hh;exact (ai _ _).2 ⟨hz,ω⟩
 ·rw [hcl];refine u1.ff.mono (fun y p hy hu ho=>?_) (fun y hy h2=>u1.ff.alone y hy h2);have hh:=u1.ff.home y p hy hu;have EU:((bz A (x:Int)).c y).i=((bz A (x:Int)).c p).i:=hh.1;have hh2:0<((bz A (x:Int)).c y).i:=hh.2;have hyx:y≠x:=fun e=>by rw [e,Bl] at hh2;omega
  have hpx:p≠x:=fun e=>by rw [e,Bl] at EU;omega
  exact ⟨hh.1,hh.2,(fP (by rw [hc,if_neg hpx]) (by rw [hc,if_neg hyx])).2 ho⟩
 ·rw [hcl];have mm:∀g y,y∈(rH A h x (kl (G.K x)++s) G).1.R g↔1<=g/\y<A.cs.length/\(rH A h x (kl (G.K x)++s) G).1.up y=-1/\((bz A (x:Int)).c y).i=g:=fun g y=>by
   by_cases e:g=h
   ·subst e;constructor
    ·intro hm;exact ⟨h1,u1.mem y hm⟩
    ·rintro ⟨_,a⟩;rcases u1.all y a with b|b
     ·exact b
     ·cases b
   ·exact u1.fr.mem g y (by simp;exact e)
  refine ⟨fun g _=>?_,fun g y _=>mm g y,fun g t s' _ hR' y hy=>?_⟩
  ·by_cases e:g=h
   ·subst e;exact u1.ring
   ·exact u1.fr.ring g (by simp;exact e)
  ·have hL:cZ A t y:=by
    by_cases e:g=h
    ·subst e;exact u1.top t s' hR' y hy
    ·exact u1.fr.top g t s' (by simp;exact e) hR' y hy
   have ht:=(mm g t).1 (by rw [hR'];simp);have hy':=(mm g y).1 (by rw [hR'];simp [hy]);have htx:t≠x:=fun e=>by subst e;rw [Bl] at ht;omega
   have hyx:y≠x:=fun e=>by subst e;rw [Bl] at hy';omega
   exact (fP (by rw [hc,if_neg htx]) (by rw [hc,if_neg hyx])).2 hL
 ·omega
 ·omega
 ·rw [u2.2.2.1];exact u3.symm.pairwise (l:=Gh _) t1.degs (fun {a b} h=>Ne.symm h)
 ·intro g hg;rw [u2.2.2.2 g hg,t3];exact R3 g hg
 ·obtain ⟨i,hi⟩:=List.mem_iff_getElem?.1 hy;rcases t1.tab i y hi with e|⟨z,e,_⟩
  ·exact Or.inl e
  ·exact Or.inr ω
end
end Go.Proofs.YtklibcncmbofpaaGreat
namespace Go.Proofs.YtklibcncmbofpaaGreat
open Go Go.RowKit
theorem FJ {w:World} {base g n cap:Nat} {l:List Int} (h:w.ownsRow base 3 1 (.slice (some ⟨g,0,none⟩) n cap) n (aU l)) (j:Nat) (x:Int):(w.setCell ⟨g,j,none⟩ (.int .i64 x)).ownsRow base 3 1 (.slice (some ⟨g,0,none⟩) n cap) n (aU (l.set j x)):=by
 have hl:l.length=n:=by have:=h.1;rw [fG] at this;omega
 rcases h.2 with ⟨h1,_⟩|⟨g',cap',cur,h1,hb,hg,hn,hc,hs,ht⟩
 ·cases h1
 ·cases h1;refine ⟨by rw [fG,List.length_set];omega,Or.inr ⟨g,cap,cur.setIfInBounds j (.int .i64 x),rfl,by simpa using hb,?_,hn,hc,ζ,?_⟩⟩
  ·simp [World.setCell,Array.getElem?_modify,hg]
  ·rw [Array.toList_setIfInBounds]
   by_cases hj:j<n
   ·rw [List.take_set,ht];unfold aU;rw [List.map_set]
   ·rw [List.take_set_of_le ω,ht,List.set_eq_of_length_le ω]
section
variable {w:World} {B:FB} {F:List Nat} {gt ct:Nat} {A:NS} {st:Nat} {G:FG}
theorem fI.own {w0 w1 w2:World} {e:TypeId} {size k:Nat} {v:Value} {xs:List Value} (h:fI w1 B F gt ct A st G) (hb:∀x,x∈B.blk F gt->x<w0.heap.size) (ho:w1.ownsRow w0.heap.size e size v k xs) (hu:aa v.ownBlock.toList w1 w2):fI w2 B F gt ct A st G:=
 h.upd hu (fun x hx hm=>by
  have h1:=(ho.lt x (by simpa using hx)).1;have h2:=hb x hm
  omega)
theorem NA (M:fI w B F gt ct A st G) {rs:List Nat} {v:Value} {h:Nat} {bO:Nat->Int} (h1:1<=h) (hin:∀z,z<A.cs.length->bO z=h->bX A (z:Int)=true) (H:TT A.cs.length bO (cZ A) h [] rs G) (hv:iw w [B.c,B.bn,B.bp,B.bl] v (pM rs)) :
  Calls Tryz.prog 229 #[.pointer (some ⟨B.n0,0,none⟩),v] w fun e w'=>∃v',e=.returned v'/\w'.ownsRow w.heap.size 3 1 v' (tid (o9 A) rs ⟨[],G,0⟩).T.length (aU (tid (o9 A) rs ⟨[],G,0⟩).T)/\
   fI w' B F gt ct A (bZ st (tid (o9 A) rs ⟨[],G,0⟩).q) (tid (o9 A) rs ⟨[],G,0⟩).G/\aa [B.c,B.bn,B.bp,B.bl] w w':=by
 have hc1:=M.cells.ok.c1;have hz:=gL M.cells.pI;have hlr:rs.length<=A.cs.length:=jM _ _ H.nd (fun z hz=>(H.xr z hz).1);obtain ⟨a,cap,rfl,hcap,hcap2,hel⟩:=hv;rw [mQ] at hcap ⊢;have hlt:=M.lt;obtain ⟨g1,g2,g3,g4,g5,g6,g7⟩:=M.d3;obtain ⟨e1,e2,e3,e4,e5⟩:=M.d2;have cn:=M.cn;obtain ⟨D,hD⟩:∃D,tid (o9 A) rs ⟨[],G,0⟩=D:=⟨_,rfl⟩;rw [hD];have hbl:∀y,y∈[B.c,B.bn,B.bp,B.bl]->y<w.heap.size:=fun y hy=>by
  simp only [ρ,ς,or_false] at hy;rcases hy with rfl|rfl|rfl|rfl
  ·exact M.cells.lt _ M.cells.mem
  ·exact hlt _ (by simp [FB.blk])
  ·exact hlt _ (by simp [FB.blk])
  ·exact hlt _ (by simp [FB.blk])
 have WT:=χ hlt;have H0:=χ (ψ M (ψ H (ψ hD (ψ hel (ψ hbl hz)))));clear M H hD hel hbl hz hlt;generalize hrl:rs.length=len at *;have R5:=χ hrl;clear hrl
 go_enter Tryz.func229,Tryz.ntmps229
 go_wp2
 go_loopw [5,12] (fun s5 s12 wr=>∃ (i:Nat) (T:List Int) (G':FG) (q:Nat),i<=len/\s12=.int .i64 (i:Int)/\tid (o9 A) (rs.drop i) ⟨T,G',q⟩=D/\TT A.cs.length bO (cZ A) h T (rs.drop i) G'/\T.length<=A.cs.length+1/\
  wr.ownsRow w.heap.size 3 1 s5 T.length (aU T)/\fI wr B F gt ct A (bZ st q) G'/\aa [B.c,B.bn,B.bp,B.bl] w wr) (fun _ s12 _=>len-(intOf s12).toNat)
 case atStart=>
  obtain ⟨M,H,hD,hel,hbl,hz⟩:=H0.out;exact ⟨0,[],G,0,ω,rfl,hD,H,σ,World.ownsRow_nil _ _ _ _,by rw [hz];exact M,aa.refl _ _⟩
 case round=>
  obtain ⟨i,T,G',q,hi,rfl,hD,hT,Nv,ho,hM,hu⟩:=hrel;rename World=>wr
  by_cases hil:i<len
  ·obtain ⟨x,hx⟩:∃x,rs[i]?=some x:=⟨_,ε (by rw [R5.out];exact hil)⟩;have hdr:rs.drop i=x::rs.drop (i+1):=by
    rw [List.drop_eq_getElem_cons (by rw [R5.out];exact hil)]
    congr 1
    rw [ε (by rw [R5.out];exact hil)] at hx
    injection hx
   rw [hdr] at hD hT;obtain ⟨gr,off,rfl,hgl,EY,hcx⟩:=H0.out.2.2.2.1 i (x:Int) (by unfold pM;rw [List.getElem?_map,hx];rfl);have hcx:=hu.kept hcx EY;have hiI:(i:Int)<(len:Int):=ω;have hw1:IntKind.i64.wrap ((i:Int)+1)=(i:Int)+1:=IntWalk.i64_in _ ω;have HR:=χ (ψ hD (ψ hT (ψ ho (ψ hM hu))));clear hD hT ho hM hu hx hdr;go_wp2;obtain ⟨D1,hD1⟩:∃D1,J9 (o9 A) (oH T+1) T x G' q=D1:=⟨_,rfl⟩;have HD1:=χ hD1;clear hD1
   go_loopg [5,7] (oH T+1) (fun fu s5 s7 wr2=>∃ (T1:List Int) (x1:Nat) (G1:FG) (q1:Nat),s7=.int .i64 (x1:Int)/\J9 (o9 A) fu T1 x1 G1 q1=D1/\oH T1<fu/\TT A.cs.length bO (cZ A) h T1 (x1::rs.drop (i+1)) G1/\T1.length<=A.cs.length+1/\
    wr2.ownsRow w.heap.size 3 1 s5 T1.length (aU T1)/\fI wr2 B F gt ct A (bZ st q1) G1/\aa [B.c,B.bn,B.bp,B.bl] w wr2)
   case atStart=>exact ⟨T,x,G',q,rfl,HD1.out,ω,HR.out.2.1,Nv,HR.out.2.2.1,HR.out.2.2.2.1,HR.out.2.2.2.2⟩
   case round=>
    rename Nat=>fu;obtain ⟨T1,x1,G1,q1,rfl,hI,Bz,hT1,hTl1,ho1,hM1,hu1⟩:=hrel;rename World=>wr2;obtain ⟨fv,rfl⟩:∃fv,fu=fv+1:=⟨fu-1,ω⟩;have Bd:=hT1.xr x1 σ;have hx1:=Bd.1;have hx1I:(x1:Int)<(A.cs.length:Int):=ω;have hq2:=hM1.h2;have hp2:=hM1.p2 hx1;have hdn:=hT1.ff.OI hx1;obtain ⟨d,hd⟩:∃d,(G1.K x1).length=d:=⟨_,rfl⟩;rw [hd] at hp2 hdn;have hsz1:=hu1.size;have HI:=χ (ψ hI (ψ Bz (ψ hT1 (ψ hM1 (ψ hu1 (ψ ho1 (ψ hd Bd)))))));clear hI Bz hT1 hM1 hu1 hd Bd hx1;obtain ⟨a5,c5,rfl,hc5⟩:=bu ho1;clear ho1;go_wp2
    go_loopw [5] (fun s5 wr3=>∃m:Nat,T1.length+m<=max T1.length (d+1)/\wr3.ownsRow w.heap.size 3 1 s5 (T1.length+m) (aU (T1++List.replicate m (-1)))/\fI wr3 B F gt ct A (bZ st q1) G1/\aa [B.c,B.bn,B.bp,B.bl] w wr3) (fun s5 _=>match s5 with | .slice _ l _=>d+1-l|_=>0)
    case atStart=>
     obtain ⟨hI,Bz,hT1,hM1,hu1,ho1,hd,Bd⟩:=HI.out;exact ⟨0,ω,by simpa using ho1,hM1,hu1⟩
    case round=>
     obtain ⟨m,hm,ho,hM,hu⟩:=hrel;rename World=>wr3;obtain ⟨a,c,rfl,hc⟩:=bu ho
     by_cases hmd:T1.length+m<=d
     ·have hmdI:((T1.length+m:Nat):Int)<=(d:Int):=ω;have hsz3:=hu.size;have HU:=χ (ψ hM hu);clear hM hu
      go_wp2_with (first
       | (at_builtin;refine aW rfl _ _ 26 rfl w.heap.size 3 (.int .i64 0) 1 8 Tryz.underlying26 fK rfl δ _ _ _ rfl (ho) [.int .i64 (-1)] rfl (by simp [Value.oneCell']) (by first|rfl|(rw [World.size_alloc];rfl)) μ ω (ω) ?_;intro v2 w2 ho2 hu2 mW)
       | fail)
      obtain ⟨hM,hu⟩:=HU.out;obtain ⟨a2,c2,rfl,_⟩:=bu ho2;refine ⟨⟨m+1,ω,?_,hM.own WT.out ho hu2,hu.own ho (Nat.le_refl _) hu2⟩,ζ⟩;rw [List.replicate_succ',←List.append_assoc,bN];exact ho2
     ·have hm':m=d+1-T1.length:=ω;have hP:T1++List.replicate m (-1)=kG T1 d:=by unfold kG;rw [hm']
      rw [hP] at ho;obtain ⟨hI,Bz,hT1,hM1,hu1,ho1,hd,Bd⟩:=HI.out;obtain ⟨s0,s1,s2⟩:=hT1.step (zU A A.cs.length G1 _ h) h1;rw [hd] at s0 s1 s2;unfold J9 at hI;rw [hd] at hI;have hPl:=DC T1 d;have hPn:T1.length+m=(kG T1 d).length:=ω;rw [hPn] at ho ⊢;obtain ⟨P,eP⟩:∃P,kG T1 d=P:=⟨_,rfl⟩;rw [eP] at ho s0 s1 s2 hI hPl ⊢;obtain ⟨g,cp,hv,hbg,hgs,hcp1,hcp2,hcell,UX⟩:=gM ho ω;have hcd:wr3.cell? ⟨g,d,none⟩=some (.int .i64 (P.getD d (-1))):=hcell d _ (by unfold aU;rw [List.getElem?_map,s0];rfl);have hfd:=UX d;rw [hv] at ho ⊢;have hPlI:(d:Int)<(P.length:Int):=by clear s0 s1 s2 hI;omega
      have hPb:(P.length:Int)<=65537:=by clear s0 s1 s2 hI;omega
      have hni:¬ (P.length:Int)<=(d:Int):=by clear s0 s1 s2 hI;omega
      have Yo:g∉B.blk F gt:=fun hm=>by have:=WT.out g hm;omega
      have HPL:=χ hPl;clear hPl
      by_cases hy:P.getD d (-1)=-1
      ·rw [if_pos hy] at hI;rw [hy] at hcd;have HS:=χ (ψ hM (ψ hu (ψ ho (ψ (s1 hy) hI))));clear hI Bz hT1 hM1 hu1 ho1 hd Bd s0 s1 s2 hM hu ho hcell UX hv eP hP hy HI hPn;go_wp2;obtain ⟨hM,hu,ho,hpl,hI⟩:=HS.out;obtain ⟨hD,hT,_,_,_⟩:=HR.out;have hD2:tid (o9 A) (rs.drop (i+1)) ⟨P.set d x1,G1,q1⟩=D:=by
        have:tid (o9 A) (x::rs.drop (i+1)) ⟨T,G',q⟩=tid (o9 A) (rs.drop (i+1)) (J9 (o9 A) (oH T+1) T x G' q):=rfl;rw [this,HD1.out,←hI] at hD;exact hD
       refine ⟨⟨i+1,P.set d x1,G1,q1,ω,by go_num,hD2,hpl.1,by rw [List.length_set];have:=HPL.out;omega,?_,hM.upd ((aa.refl [g] wr3).setCell (Or.inl σ) _) (fun y hy=>by simp at hy;subst hy;exact Yo),hu.setCell (Or.inr hbg) _⟩,by simp [intOf];omega⟩;rw [List.length_set];exact FJ ho d x1
      ·rw [if_neg hy] at hI;obtain ⟨z,ez,hzn,hzx,hzh,hoc,st1,st2⟩:=s2 hy;rw [ez] at hcd hI;rw [π] at hI;have rO:=Bd.1;have hin1:bX A (x1:Int)=true:=hin x1 rO Bd.2.2;have hinz:bX A (z:Int)=true:=hin z hzn hzh;have hzm:((z:Int) == -1)=false:=σ;have hu0:aa [g] wr3 (wr3.setCell ⟨g,d,none⟩ (.int .i64 (-1))):=(aa.refl [g] wr3).setCell (Or.inl σ) _;have hgc:B.n0∉[g]:=by simp;intro e;exact Yo (by rw [←e];simp [FB.blk])
       have hM2:=hM.upd hu0 (fun y hy=>by simp at hy;subst hy;exact Yo);have ka:=fF hM2.cells z x1 hinz hin1;have hn0:(wr3.setCell ⟨g,d,none⟩ (.int .i64 (-1))).cell? ⟨B.n0,0,none⟩=some (.pointer (some ⟨B.c,0,none⟩)):=hM2.h0;have ho2:=FJ ho d (-1);obtain ⟨wq,hwq⟩:∃wq,wr3.setCell ⟨g,d,none⟩ (.int .i64 (-1))=wq:=⟨_,rfl⟩;rw [hwq] at hM2 ka hn0 ho2 hu0;have Zm:aa [B.c,B.bn,B.bp,B.bl] w wq:=hwq▸hu.setCell (Or.inr hbg) _;have HS:=χ (ψ hM2 (ψ Zm (ψ ho2 (ψ hI (ψ hoc (ψ st1 (ψ st2 (ψ hT1 Bz))))))));cases hb:decide (cZ A z x1) with
       | true=>
        rw [hb] at ka;have kz:=fun W st' (hW:fI W B F gt ct A st' G1)=>zO hW (x:=z) (y:=x1) hzn rO (fun k t e=>(hT1.ff.kid z k hzn (by rw [e];simp)).1) (Nat.le_trans (hT1.ff.OI hzn) hc1);have KZ:=χ kz;have HB:=χ hb;clear hI Bz hT1 hM1 hu1 ho1 hd Bd s0 s1 s2 hM hu ho hcell UX hv eP hP hy HI hPn st1 st2 hoc hM2 Zm ho2 ez kz hb
        go_wp2_with (first
         | ((go_at_call 174;(with_reducible refine (ka).mono ?_));rintro e w5 ⟨rfl,Uq,cu⟩;(have k5:=KZ.out w5 _ (HS.out.1.setSt cu Uq));(have OW:=χ cu);clear Uq cu ka)
         | ((go_at_call 235;(with_reducible refine (k5).mono ?_));rintro e w6 ⟨rfl,uB,iB⟩;(have VO:=χ (ψ uB iB));clear uB iB k5)
         | fail)
        go_roundg fv
        case measure=>omega
        case rel=>
         obtain ⟨hM2,Zm,ho2,hI,hoc,st1,st2,hT1,Bz⟩:=HS.out;have hlt2:o9 A z x1=true:=HB.out;rw [hlt2,if_pos rfl] at hI;obtain ⟨uB,iB⟩:=VO.out;have cu:=OW.out;have hg1:∀y,y∈[B.c,B.bn,B.bp,B.bl]->y≠g:=fun y hy e=>by have:=H0.out.2.2.2.2.1 y hy;omega
         rw [jg] at uB;refine ⟨P.set d (-1),z,dY G1 x1 z,q1+1,rfl,hI,ω,st1 hlt2,by rw [List.length_set];have:=HPL.out;omega,?_,uB,?_⟩
         ·rw [List.length_set];exact aF (aF ho2 cu (fun y hy hm=>by simp [Value.ownBlock] at hy hm;exact hg1 B.c σ ω)) iB (fun y hy hm=>by simp [Value.ownBlock] at hy;subst hy;exact hg1 g (by simp at hm;rcases hm with e|e|e<;>simp [e]) rfl)
         ·exact (Zm.trans (cu.mono σ)).trans (iB.mono (fun y hy=>by simp at hy;rcases hy with e|e|e<;>simp [e]))
       | false=>
        rw [hb] at ka;have kz:=fun W st' (hW:fI W B F gt ct A st' G1)=>zO hW (x:=x1) (y:=z) rO hzn (fun k t e=>(hT1.ff.kid x1 k rO (by rw [e];simp)).1) (Nat.le_trans (hT1.ff.OI rO) hc1);have KZ:=χ kz;have HB:=χ hb;clear hI Bz hT1 hM1 hu1 ho1 hd Bd s0 s1 s2 hM hu ho hcell UX hv eP hP hy HI hPn st1 st2 hoc hM2 Zm ho2 ez kz hb
        go_wp2_with (first
         | ((go_at_call 174;(with_reducible refine (ka).mono ?_));rintro e w5 ⟨rfl,Uq,cu⟩;(have k5:=KZ.out w5 _ (HS.out.1.setSt cu Uq));(have OW:=χ cu);clear Uq cu ka)
         | ((go_at_call 235;(with_reducible refine (k5).mono ?_));rintro e w6 ⟨rfl,uB,iB⟩;(have VO:=χ (ψ uB iB));clear uB iB k5)
         | fail)
        go_roundg fv
        case measure=>omega
        case rel=>
         obtain ⟨hM2,Zm,ho2,hI,hoc,st1,st2,hT1,Bz⟩:=HS.out;have hlt2:o9 A z x1=false:=HB.out;rw [hlt2,if_neg σ] at hI;obtain ⟨uB,iB⟩:=VO.out;have cu:=OW.out;have hg1:∀y,y∈[B.c,B.bn,B.bp,B.bl]->y≠g:=fun y hy e=>by have:=H0.out.2.2.2.2.1 y hy;omega
         rw [jg] at uB;refine ⟨P.set d (-1),x1,dY G1 z x1,q1+1,rfl,hI,ω,st2 hlt2,by rw [List.length_set];have:=HPL.out;omega,?_,uB,?_⟩
         ·rw [List.length_set];exact aF (aF ho2 cu (fun y hy hm=>by simp [Value.ownBlock] at hy hm;exact hg1 B.c σ ω)) iB (fun y hy hm=>by simp [Value.ownBlock] at hy;subst hy;exact hg1 g (by simp at hm;rcases hm with e|e|e<;>simp [e]) rfl)
         ·exact (Zm.trans (cu.mono σ)).trans (iB.mono (fun y hy=>by simp at hy;rcases hy with e|e|e<;>simp [e]))
  ·obtain rfl:i=len:=ω;have hdr:rs.drop i=[]:=List.drop_eq_nil_of_le (by have:=R5.out;omega);rw [hdr] at hD;have hD2:(⟨T,G',q⟩:TD)=D:=hD;subst hD2;have HR:=χ (ψ ho (ψ hM hu));clear hT ho hM hu hD hdr;go_wp2;go_ret;exact ⟨_,rfl,HR.out.1,HR.out.2.1,HR.out.2.2⟩
end
end Go.Proofs.YtklibcncmbofpaaGreat
