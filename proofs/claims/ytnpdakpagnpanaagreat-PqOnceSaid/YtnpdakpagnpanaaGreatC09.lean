/-
  Lemmas for PqAlike: PaP, Pa, Pa2, Pa3, Pa8, Pa7, Pa5, PaR, Pa6, Pa4o, Pa4a, Pa4b, Pa4c, Pa4d, Pa4, Pa9, Pa10, PaR2, Pa11, Pa12, PaQ, Pa13. Conditions: those of each lemma.
-/
import Derived.Deep.LoopGhost
import Derived.Test.YtnpdakpagnpanaaGreatC08
set_option linter.all false
set_option maxHeartbeats 8000000
set_option maxRecDepth 10000
namespace Go.Proofs.YtnpdakpagnpanaaGreat
open Tryz
def eU(A:NS):BT->Prop
 | .nil=>True
 | .node x l r=>(∀y,y∈l.nodes->dB A x y)/\eU A l/\eU A r
theorem eU.frame{A A':NS}:∀{t:BT},eU A t->(∀x,x∈t.nodes->A'.c x=A.c x)->eU A' t
 | .nil,_,_=>trivial
 | .node x l r,h,hs=>by
  have hx:=hs x (by simp[BT.nodes]);exact⟨λy hy=>(fE hx (hs y (by simp[BT.nodes,hy]))).2 (h.1 y hy),h.2.1.frame (λy hy=>hs y (by simp[BT.nodes,hy])),h.2.2.frame (λy hy=>hs y (by simp[BT.nodes,hy]))⟩
abbrev Lb:Rb:=⟨eU,eU.frame,λ_=>trivial⟩
def Lone:BT->Prop
 | .nil=>True
 | .node _ _ r=>r=.nil
theorem yK{A:NS}:∀{P:List Fr} {t:BT},eU A (au P t)->eU A t
 | [],_,h=>h
 |f::P,t,h=>by
  have h1:eU A (bP f t):=yK (P:=P) h;unfold bP at h1
  split at h1
  ·exact h1.2.2
  ·exact h1.2.1
theorem Yt{A:NS}:∀{P:List Fr} {t t':BT},eU A (au P t)->eU A t'->(∀y,y∈t'.nodes->y∈t.nodes)->eU A (au P t')
 | [],_,_,_,h,_=>h
 |f::P,t,t',h,h',hs=>by
  have h1:eU A (bP f t):=yK (P:=P) h;refine Yt (P:=P) h ?_ (λy hy=>?_)
  ·unfold bP at h1 ⊢
   split at h1
   ·rename_i e;rw[Δ e];exact⟨h1.1,h1.2.1,h'⟩
   ·rename_i e;rw[Γ e];exact⟨λy hy=>h1.1 y (hs y hy),h',h1.2.2⟩
  ·have hy':=(jA f t').mem_iff.1 hy;refine(jA f t).mem_iff.2 ?_;simp only[ρ,τ] at hy' ⊢;rcases hy' with h|h|h
   ·exact Α h
   ·exact Β (Α (hs y h))
   ·exact Β (Β h)
theorem qC:∀{P:List Fr} {f:Fr} {t t':BT},t≠.nil->Lone (au (f::P) t)->Lone (au (f::P) t')
 | [],f,t,t',ht,h=>by
  have h1:Lone (bP f t):=h
  show Lone (bP f t')
  unfold bP at h1 ⊢
  split at h1
  ·exact absurd h1 ht
  ·rename_i e;rw[Γ e];exact h1
 |g::P,f,t,t',ht,h=>qC (P:=P) (f:=g) (t:=bP f t) (t':=bP f t') (RJ f t) h
/-! ### two trees become one -/
noncomputable def dH(A:NS)(a b:BT):BT:=
 match a,b with
 | .nil,t=>t
 |t,.nil=>t
 | .node x l _,.node y m _=>if dB A y x then .node y (.node x l m) .nil else .node x (.node y m l) .nil
theorem uW(A:NS)(t:BT):dH A .nil t=t:=by cases t<;>rfl
theorem rU(A:NS)(t:BT):dH A t .nil=t:=by cases t<;>rfl
theorem rM(A:NS)(x y:Nat)(l r m q:BT):dH A (.node x l r) (.node y m q)=if dB A y x then .node y (.node x l m) .nil else .node x (.node y m l) .nil:=rfl
theorem j4(A:NS){a b:BT}(ha:Lone a)(hb:Lone b):(dH A a b).nodes.Perm (a.nodes++b.nodes):=by
 cases a with
 |nil=>rw[uW];exact ό _
 |node x l r=>
  cases b with
  |nil=>rw[rU];simp[BT.nodes]
  |node y m q=>
   have e1:r=.nil:=ha;have e2:q=.nil:=hb;subst e1 e2;rw[rM]
   split
   ·simp only[BT.nodes,Υ];exact(ϡ (a:=y) (l₁:=x::l.nodes) (l₂:=m.nodes)).symm
   ·simp only[BT.nodes,Υ];refine List.Perm.cons x ?_;exact((Φ (l₁:=l.nodes) (l₂:=y::m.nodes))).symm
theorem lV(A:NS){a b:BT}(ha:Lone a)(hb:Lone b):Lone (dH A a b):=by
 cases a with
 |nil=>rw[uW];exact hb
 |node x l r=>
  cases b with
  |nil=>rw[rU];exact ha
  |node y m q=>rw[rM];split<;>rfl
theorem ace{A:NS}{x:Nat}{l:BT}(h:eU A (.node x l .nil)):∀y,y∈(BT.node x l .nil).nodes->y=x\/dB A x y:=λy hy=>by
 simp only[BT.nodes,Υ,ρ] at hy;rcases hy with e|e
 ·exact Α e
 ·exact Β (h.1 y e)
theorem nR{A:NS}{a b:BT}(ha:Lone a)(hb:Lone b)(h1:eU A a)(h2:eU A b)(hn:(a.nodes++b.nodes).Nodup):eU A (dH A a b):=by
 cases a with
 |nil=>rw[uW];exact h2
 |node x l r=>
  cases b with
  |nil=>rw[rU];exact h1
  |node y m q=>
   have e1:r=.nil:=ha;have e2:q=.nil:=hb;subst e1 e2;have hxy:x≠y:=λe=>by
    simp only[BT.nodes,Υ,θ] at hn;exact hn.2.2 x σ y σ e
   rw[rM]
   split
   ·rename_i h
    refine⟨λz hz=>?_,⟨h1.1,h1.2.1,h2.2.1⟩,trivial⟩;simp only[BT.nodes,ρ,τ] at hz;rcases hz with e|e|e
    ·rw[e];exact h
    ·exact dI h (h1.1 z e)
    ·exact h2.1 z e
   ·rename_i h
    have h':dB A x y:=(jc hxy).resolve_right h;refine⟨λz hz=>?_,⟨h2.1,h2.2.1,h1.2.1⟩,trivial⟩;simp only[BT.nodes,ρ,τ] at hz;rcases hz with e|e|e
    ·rw[e];exact h'
    ·exact dI h' (h2.1 z e)
    ·exact h1.1 z e
def iy(S:TS)(x y:Nat):TS:=⟨λz=>if z=x then y else S.l z,λz=>if z=y then S.l x else S.r z,λz=>if z=y then x else if(z:Int)=S.l x then y else S.u z⟩
theorem G5{S:TS}{x y z:Nat}(h1:z≠x)(h2:z≠y)(h3:(z:Int)≠S.l x):S.at (iy S x y) z:=by
 unfold iy TS.at;simp[h1,h2,h3]
theorem El{S:TS}{x y:Nat}{l m:BT}(ha:dL S (-1) x (.node x l .nil))(hb:dL S (-1) y (.node y m .nil))(hn:((BT.node x l .nil).nodes++(BT.node y m .nil).nodes).Nodup) :
  dL (iy S x y) (-1) x (.node x (.node y m l) .nil)/\∀z,z∉(BT.node x l .nil).nodes++(BT.node y m .nil).nodes->S.at (iy S x y) z:=by
 simp only[BT.nodes,Υ] at hn ⊢;rw[θ,Ζ,Ζ] at hn;obtain⟨⟨n1,n2⟩,⟨n3,n4⟩,n5⟩:=hn;obtain⟨_,a2,a3,a4⟩:=ha;obtain⟨_,b2,b3,b4⟩:=hb;have hxy:x≠y:=λe=>n5 x σ y σ e;have hlx:S.l x=l.root:=a3.root;have hlr:∀z:Nat,(z:Int)=S.l x->z∈l.nodes:=λz hz=>by
  rw[hlx] at hz
  by_cases e:l=.nil
  ·rw[e] at hz;simp[BT.root] at hz
  ·have h1:=cz e;have:l.root.toNat=z:=ω;rw[←this];exact h1.1
 have e0:(iy S x y).l x=y:=by unfold iy;simp
 have e1:(iy S x y).r x=S.r x:=by unfold iy;simp[hxy]
 have e2:(iy S x y).u x=S.u x:=by
  have h3:(x:Int)≠S.l x:=λe=>n1 (hlr x e);unfold iy;simp[hxy,h3]
 have e3:(iy S x y).l y=S.l y:=by have hyx:¬y=x:=λe=>hxy e.symm;unfold iy;simp[hyx]
 have e4:(iy S x y).r y=S.l x:=by unfold iy;simp
 have e5:(iy S x y).u y=x:=by unfold iy;simp
 refine⟨⟨rfl,by rw[e2];exact a2,?_,by rw[e1];exact a4⟩,λz hz=>?_⟩
 ·rw[e0];refine⟨rfl,e5,?_,?_⟩
  ·rw[e3];refine b3.frame (λz hz=>G5 (λe=>n5 x σ z (by simp[hz]) e.symm) (λe=>n3 (by rw[←e];exact hz)) (λe=>n5 z (by simp[hlr z e]) z (by simp[hz]) rfl))
  ·rw[e4];refine a3.QL n2 (λz hz=>?_) (λhl=>?_)
   ·have z1:z≠x:=λe=>n1 (by rw[←e];exact hz);have z2:z≠y:=λe=>n5 z (by simp[hz]) y σ e;refine⟨by unfold iy;simp[z1],by unfold iy;simp[z2],λhr=>?_⟩;have z3:(z:Int)≠S.l x:=λe=>hr (by rw[←hlx,←e];simp);unfold iy;simp[z2,z3]
   ·have h1:=cz hl;have z2:l.root.toNat≠y:=λe=>n5 _ (Λ _ h1.1) y σ e
    show(if l.root.toNat=y then(x:Int) else if((l.root.toNat:Nat):Int)=S.l x then(y:Int) else S.u l.root.toNat)=y
    rw[Γ z2,Δ (by rw[hlx];exact h1.2.symm)]
 ·simp only[τ,ρ,not_or] at hz;exact G5 hz.1.1 hz.2.1 (λe=>hz.1.2 (hlr z e))
/-! ### a tree comes off -/
def jW(S:TS)(p:Nat)(s:Bool)(x:Nat):TS:=
 ⟨λz=>if s=false/\z=p then S.r x else S.l z,λz=>if z=x then -1 else if s=true/\z=p then S.r x else S.r z,λz=>if z=x then -1 else if(z:Int)=S.r x then p else S.u z⟩
theorem Bb{S:TS}{f:Fr}{P:List Fr}{x:Nat}{l r:BT}(h:dL S (-1) (au (f::P) (.node x l r)).root (au (f::P) (.node x l r)))(hn:(au (f::P) (.node x l r)).nodes.Nodup) :
  dL (jW S f.1 f.2.1 x) (-1) x (.node x l .nil)/\dL (jW S f.1 f.2.1 x) (-1) (au (f::P) r).root (au (f::P) r)/\(∀y,y∉(au (f::P) (.node x l r)).nodes->S.at (jW S f.1 f.2.1 x) y)/\
   S.kid f.2.1 f.1=x/\(f.2.1=true->S.l f.1≠x)/\S.u x=f.1:=by
 obtain⟨h1,h2⟩:=(fq _ _).1 h;have Zd:=(aW (f::P) (.node x l r)).nodup_iff.1 hn;have hmem:∀y,y∈(au (f::P) (.node x l r)).nodes↔y∈(BT.node x l r).nodes\/y∈eH (f::P):=λy=>by rw[(aW (f::P) (.node x l r)).mem_iff,τ]
 rw[θ] at Zd;obtain⟨n1,n2,n3⟩:=Zd;obtain⟨_,g2,g3,g4⟩:=h1;obtain⟨k1,k2,k3,k4⟩:=h2;simp only[BT.nodes,Ζ,τ,not_or,θ] at n1;obtain⟨⟨m1,m2⟩,m3,m4,m5⟩:=n1;have hfx:f.1≠x:=λe=>n3 x (by simp[BT.nodes]) f.1 (by simp[eH]) e.symm;have hrx:S.r x=r.root:=g4.root;have hrr:∀z:Nat,(z:Int)=S.r x->z∈r.nodes:=λz hz=>by
  rw[hrx] at hz
  by_cases e:r=.nil
  ·rw[e] at hz;simp[BT.root] at hz
  ·have h1:=cz e;have:r.root.toNat=z:=ω;rw[←this];exact h1.1
 have hat:∀z,z≠f.1->z≠x->(z:Int)≠S.r x->S.at (jW S f.1 f.2.1 x) z:=λz z1 z2 z3=>by
  unfold jW TS.at;simp[z1,z2,z3]
 have hnot:f.2.1=true->S.l f.1≠x:=λe hl=>by
  rw[e] at k2;have h4:=k2.root;have h5:f.2.2.root=(x:Int):=by rw[←h4];simpa[TS.kid] using hl
  have h6:f.2.2≠.nil:=λe=>by rw[e] at h5;simp[BT.root] at h5
  have h7:=(cz h6).1;rw[h5,π] at h7;exact n3 x (by simp[BT.nodes]) x (by simp[eH,h7]) rfl
 have ZZ:∀z,z∈eH (f::P)->z≠x/\(z:Int)≠S.r x:=λz hz=>⟨λe=>n3 x (by simp[BT.nodes]) z hz e.symm,λe=>n3 z (by simp[BT.nodes,hrr z e]) z hz rfl⟩
 refine⟨⟨rfl,by unfold jW;simp,?_,?_⟩,(fq _ _).2 ⟨?_,?_⟩,λy hy=>?_,k1,hnot,g2⟩
 ·have e:(jW S f.1 f.2.1 x).l x=S.l x:=by have hyx:¬x=f.1:=λe=>hfx e.symm;unfold jW;simp[hyx]
  rw[e];refine g3.frame (λz hz=>hat z (λe=>n3 z (by simp[BT.nodes,hz]) f.1 (by simp[eH]) e) (λe=>m1 (by rw[←e];exact hz)) (λe=>m5 z hz z (hrr z e) rfl))
 ·show(jW S f.1 f.2.1 x).r x=-1
  unfold jW;simp
 ·rw[←hrx];refine g4.QL m4 (λz hz=>?_) (λhr=>?_)
  ·have z1:z≠f.1:=λe=>n3 z (by simp[BT.nodes,hz]) f.1 (by simp[eH]) e;have z2:z≠x:=λe=>m2 (by rw[←e];exact hz);refine⟨by unfold jW;simp[z1],by unfold jW;simp[z1,z2],λhr=>?_⟩;have z3:(z:Int)≠S.r x:=λe=>hr (by rw[←hrx,←e];simp);unfold jW;simp[z2,z3]
  ·have h1:=cz hr;have z2:r.root.toNat≠x:=λe=>m2 (by rw[←e];exact h1.1)
   show(if r.root.toNat=x then(-1:Int) else if((r.root.toNat:Nat):Int)=S.r x then(f.1:Int) else S.u r.root.toNat)=f.1
   rw[Γ z2,Δ (by rw[hrx];exact h1.2.symm)]
 ·have hf:=ZZ f.1 (by simp[eH]);refine Ud.other (S:=S) (z:=x) ⟨k1,k2,k3,k4⟩ n2 ?_ ?_ ?_ (λz z1 z2=>hat z z1 (ZZ z z2).1 (ZZ z z2).2)
  ·unfold TS.kid jW;cases f.2.1<;>simp[hfx,hrx]
  ·unfold TS.kid jW;cases f.2.1<;>simp[hfx]
  ·unfold jW;simp[hf.1,hf.2]
 ·rw[hmem,not_or] at hy;exact hat y (λe=>hy.2 (by simp[eH,e])) (λe=>hy.1 (by simp[BT.nodes,e])) (λe=>hy.1 (by simp[BT.nodes,hrr y e]))
theorem xq(P:List Fr)(x:Nat)(l r:BT):(au P (.node x l r)).nodes.Perm ((BT.node x l .nil).nodes++(au P r).nodes):=by
 refine(aW P _).trans ?_;refine Ϡ ?_ ((aW P r).symm.append_left _);simp[BT.nodes,ϋ]
theorem BZ{A:NS}{P:List Fr}{x:Nat}{l r:BT}(h:eU A (au P (.node x l r))):eU A (.node x l .nil)/\eU A (au P r):=by
 have h1:=yK h;exact⟨⟨h1.1,h1.2.1,trivial⟩,Yt h h1.2.2 (λy hy=>by simp[BT.nodes,hy])⟩
/-! ### what is below a thing comes off it -/
def bR:BT->List BT
 | .nil=>[]
 | .node x l r=>.node x l .nil::bR r
def gM(l:List BT):List Nat:=l.flatMap BT.nodes
theorem jE:∀(t:BT),(gM (bR t)).Perm t.nodes
 | .nil=>ό _
 | .node x l r=>by
  unfold gM;simp only[bR,List.flatMap_cons,BT.nodes,Υ,List.cons_append];exact List.Perm.cons x ((jE r).append_left _)
theorem Ea{A:NS}:∀{t:BT},eU A t->∀u,u∈bR t->eU A u/\Lone u
 | .nil,_,u,hu=>by cases hu
 | .node x l r,h,u,hu=>by
  simp only[bR,ρ] at hu;rcases hu with e|e
  ·subst e;exact⟨⟨h.1,h.2.1,trivial⟩,rfl⟩
  ·exact Ea h.2.2 u e
def dV(l:List BT):List Int:=l.map BT.root
def gK(S:TS)(x:Nat)(ks:List Int):TS:=⟨λz=>if z=x then -1 else S.l z,λz=>if(z:Int)∈ks then -1 else S.r z,λz=>if(z:Int)∈ks then -1 else S.u z⟩
theorem G6{t u:BT}(hu:u∈bR t):u.root.toNat∈u.nodes/\u.root=(u.root.toNat:Int)/\u.root∈dV (bR t):=by
 refine⟨?_,?_,List.mem_map.2 ⟨u,hu,rfl⟩⟩
 all_goals
  induction t with
  |nil=>cases hu
  |node x l r _ ih=>
   simp only[bR,ρ] at hu;rcases hu with e|e
   ·subst e;simp[BT.root,BT.nodes]
   ·exact ih e
theorem NP{t:BT}{z:Nat}(h:(z:Int)∈dV (bR t)):z∈t.nodes:=by
 obtain⟨u,hu,e⟩:=List.mem_map.1 h;have h1:=G6 hu;refine(jE t).mem_iff.1 (List.mem_flatMap.2 ⟨u,hu,?_⟩);rw[←show u.root.toNat=z by omega];exact h1.1
theorem IC{S:TS}{x:Nat}{ks:List Int}:∀{t:BT} {p:Int},dL S p t.root t->t.nodes.Nodup->x∉t.nodes->(∀z:Nat,z∈t.nodes->((z:Int)∈ks↔(z:Int)∈dV (bR t)))->
  ∀u,u∈bR t->dL (gK S x ks) (-1) u.root u
 | .nil,_,_,_,_,_,u,hu=>by cases hu
 | .node y l r,p,h,hn,hx,hk,u,hu=>by
  simp only[BT.nodes,ρ,τ,not_or] at hx;simp only[BT.nodes,Ζ,τ,not_or,θ] at hn;obtain⟨⟨m1,m2⟩,m3,m4,m5⟩:=hn;obtain⟨_,h2,h3,h4⟩:=h;have hl:∀z:Nat,z∈l.nodes->(z:Int)∉ks:=λz hz hm=>by
   have:=(hk z (by simp[BT.nodes,hz])).1 hm;simp only[dV,bR,List.map_cons,ρ,BT.root] at this;rcases this with e|e
   ·have:z=y:=ω;exact m1 (by rw[←this];exact hz)
   ·exact m5 z hz z (NP e) rfl
  simp only[bR,ρ] at hu;rcases hu with e|e
  ·subst e;have hyk:(y:Int)∈ks:=(hk y (by simp[BT.nodes])).2 (by simp[dV,bR,BT.root]);refine⟨rfl,by simp[gK,hyk],?_,by simp[gK,hyk,dL]⟩;have e1:(gK S x ks).l y=S.l y:=by have hyx:¬y=x:=λe=>hx.1 e.symm;simp[gK,hyx]
   rw[e1];exact h3.frame (λz hz=>⟨by simp[gK,show z≠x from λe=>hx.2.1 (by rw[←e];exact hz)],by simp[gK,hl z hz],by simp[gK,hl z hz]⟩)
  ·have e4:=h4.root;rw[e4] at h4;refine IC h4 m4 hx.2.2 (λz hz=>?_) u e;rw[hk z (by simp[BT.nodes,hz])];simp only[dV,bR,List.map_cons,ρ,BT.root];constructor
   ·rintro(e|e)
    ·have:z=y:=ω;exact absurd (by rw[←this];exact hz) m2
    ·exact e
   ·exact Β
theorem UK{S:TS}{x z:Nat}{ks:List Int}(h1:z≠x)(h2:(z:Int)∉ks):S.at (gK S x ks) z:=by unfold gK TS.at;simp[h1,h2]
noncomputable def dE(A:NS):List BT->List BT
 | []=>[]
 | [a]=>[a]
 |a::b::l=>dH A a b::dE A l
noncomputable def gF(A:NS)(l:List BT):BT:=l.foldr (dH A) .nil
theorem cu(t:BT)(l:List BT):gM (t::l)=t.nodes++gM l:=rfl
theorem gB(l m:List BT):gM (l++m)=gM l++gM m:=by unfold gM;rw[List.flatMap_append]
theorem uz(A:NS):∀(l:List BT),(dE A l).length=(l.length+1) / 2
 | []=>rfl
 | [_]=>by simp[dE]
 |a::b::l=>by
  show(dE A l).length+1=_
  rw[uz A l];simp;omega
theorem DC(A:NS):∀(l:List BT),(∀t,t∈l->Lone t)->(gM (dE A l)).Perm (gM l)
 | [],_=>ό _
 | [_],_=>ό _
 |a::b::l,h=>by
  show(gM (dH A a b::dE A l)).Perm _
  rw[cu,cu,cu,←ϋ];exact(j4 A (h a σ) (h b σ)).append (DC A l (λt ht=>h t (by simp[ht])))
theorem yI(A:NS):∀(l:List BT),(∀t,t∈l->Lone t)->(gF A l).nodes.Perm (gM l)/\Lone (gF A l)
 | [],_=>⟨ό _,trivial⟩
 |a::l,h=>by
  have ih:=yI A l (λt ht=>h t (by simp[ht]));exact⟨(j4 A (h a σ) ih.2).trans (ih.1.append_left _),lV A (h a σ) ih.2⟩
theorem wI(A:NS):∀(k:Nat) (l:List BT),2*k<=l.length->dE A l=(dE A l).take k++dE A (l.drop (2*k))
 |0,l,_=>σ
 |k+1,[],h=>by simp at h
 |k+1,[_],h=>by simp at h;omega
 |k+1,a::b::l,h=>by
  have h1:=wI A k l (by simp at h;omega)
  show dH A a b::dE A l=_
  rw[show 2*(k+1)=2*k+2 by omega];simp only[dE,List.take_succ_cons,List.cons_append,List.drop_succ_cons];rw[←h1]
end Go.Proofs.YtnpdakpagnpanaaGreat
namespace Go.Proofs.YtnpdakpagnpanaaGreat
open Tryz
open Go Go.RowKit
structure PB where
 n0:Nat
 c:Nat
 ba:Nat
structure gX(w:World)(B:PB)(F:List Nat)(gt ct:Nat)(A:NS)(st:Nat)(S:TS)(ai:List Int):Prop where
 head:aS w B.n0 188 3 (λj=>[Value.pointer (some ⟨B.c,0,none⟩),.slice (some ⟨B.ba,0,none⟩) A.cs.length A.cs.length,.slice (some ⟨gt,0,none⟩) ai.length ct].getD j undef)
 cells:aF w B.c F A st
 ties:aS w B.ba 190 (A.cs.length*3) (eB S)
 iG:IZ w gt ct ai
 iJ:ai.length=A.hs.length
 bS:B.n0∉F/\B.ba∉F/\gt∉F
 sep:B.n0≠B.ba/\B.n0≠gt/\B.ba≠gt
section
variable{w:World}{B:PB}{F:List Nat}{gt ct:Nat}{A:NS}{st:Nat}{S:TS}{ai:List Int}
def PB.blk(B:PB)(F:List Nat)(gt:Nat):List Nat:=B.n0::B.ba::gt::F
theorem gX.upd{w':World}{G:List Nat}(h:gX w B F gt ct A st S ai)(hu:ae G w w')(hG:∀x,x∈G->x∉B.blk F gt):gX w' B F gt ct A st S ai:=by
 have h1:∀x,x∈B.blk F gt->x∉G:=λx hx hg=>hG x hg hx;exact⟨h.head.upd hu (h1 _ (by simp[PB.blk])),h.cells.upd hu (λx hx=>λhm=>hG x hx (by simp[PB.blk,hm])),h.ties.upd hu (h1 _ (by simp[PB.blk])),h.iG.upd hu (h1 _ (by simp[PB.blk])),h.iJ,h.bS,h.sep⟩
theorem gX.ag{w':World}(h:gX w B F gt ct A st S ai)(hu:ae [] w w'):gX w' B F gt ct A st S ai:=h.upd hu σ
theorem gX.lt(h:gX w B F gt ct A st S ai):∀x,x∈B.blk F gt->x<w.heap.size:=by
 intro x hx;have:=h.head.lt;have:=h.ties.lt;have:=h.iG.lt;simp only[PB.blk,ρ] at hx;rcases hx with rfl|rfl|rfl|hx
 ·assumption
 ·assumption
 ·assumption
 ·exact h.cells.lt x hx
theorem gX.cF(h:gX w B F gt ct A st S ai):B.c∈F:=h.cells.mem
theorem gX.h0(h:gX w B F gt ct A st S ai):w.cell? ⟨B.n0,0,none⟩=some (.pointer (some ⟨B.c,0,none⟩)):=h.head.cellAt 0 ω rfl
theorem gX.h1(h:gX w B F gt ct A st S ai):w.cell? ⟨B.n0,1,none⟩=some (.slice (some ⟨B.ba,0,none⟩) A.cs.length A.cs.length):=h.head.cellAt 1 ω rfl
theorem gX.h2(h:gX w B F gt ct A st S ai):w.cell? ⟨B.n0,2,none⟩=some (.slice (some ⟨gt,0,none⟩) ai.length ct):=h.head.cellAt 2 ω rfl
theorem gX.l(h:gX w B F gt ct A st S ai)(x:Nat)(hx:x<A.cs.length):w.cell? ⟨B.ba,x*3,none⟩=some (.int .i64 (S.l x)):=h.ties.cellAt _ ω (qE S x)
theorem gX.r(h:gX w B F gt ct A st S ai)(x:Nat)(hx:x<A.cs.length):w.cell? ⟨B.ba,x*3+1,none⟩=some (.int .i64 (S.r x)):=h.ties.cellAt _ ω (qK S x)
theorem gX.u(h:gX w B F gt ct A st S ai)(x:Nat)(hx:x<A.cs.length):w.cell? ⟨B.ba,x*3+2,none⟩=some (.int .i64 (S.u x)):=h.ties.cellAt _ ω (uN S x)
theorem gX.f(h:gX w B F gt ct A st S ai)(j:Nat):w.frozen? ⟨B.ba,j,none⟩=false:=h.ties.free j
theorem gX.iC{w':World}{S':TS}(h:gX w B F gt ct A st S ai)(hu:ae [B.ba] w w')(hT:aS w' B.ba 190 (A.cs.length*3) (eB S')):gX w' B F gt ct A st S' ai:=by
 have s:=h.sep;have f:=h.bS;exact⟨h.head.upd hu ζ,h.cells.upd hu (λx hx=>by simp at hx;rw[hx];exact f.2.1),hT,h.iG.upd hu ζ,h.iJ,f,s⟩
theorem gX.ext{S':TS}(h:gX w B F gt ct A st S ai)(hS:∀x,S'.l x=S.l x/\S'.r x=S.r x/\S'.u x=S.u x):gX w B F gt ct A st S' ai:=by
 have e:S'=S:=by
  cases S;cases S';simp only[TS.mk.injEq];exact⟨funext λx=>(hS x).1,funext λx=>(hS x).2.1,funext λx=>(hS x).2.2⟩
 rw[e];exact h
theorem X8(S:TS)(p:Nat)(v:Int)(j:Nat):(if j=p*3 then Value.int .i64 v else eB S j)=eB (S.aK p false v) j:=by
 unfold eB TS.aK
 by_cases hj2:j=p*3
 ·subst hj2;simp
 ·by_cases h0:j % 3=0
  ·simp[hj2,h0];intro hh;exfalso;omega
  ·simp[hj2,h0]
theorem VK(S:TS)(p:Nat)(v:Int)(j:Nat):(if j=p*3+1 then Value.int .i64 v else eB S j)=eB (S.aK p true v) j:=by
 unfold eB TS.aK
 by_cases hj2:j=p*3+1
 ·subst hj2;simp;intro hh;exfalso;omega
 ·by_cases h0:j % 3=1
  ·simp[hj2,h0];intro hh;exfalso;omega
  ·simp[hj2,h0]
theorem Wu(S:TS)(p:Nat)(v:Int)(j:Nat):(if j=p*3+2 then Value.int .i64 v else eB S j)=eB (S.dC p v) j:=by
 unfold eB TS.dC
 by_cases hj2:j=p*3+2
 ·subst hj2;simp;intro hh;exfalso;omega
 ·by_cases h0:j % 3=0
  ·simp[hj2,h0]
  ·by_cases h1:j % 3=1
   ·simp[hj2,h1]
   ·simp[hj2,h0,h1];intro hh;exfalso;omega
theorem gX.LC(h:gX w B F gt ct A st S ai)(p:Nat)(v:Int):gX (w.setCell ⟨B.ba,p*3,none⟩ (.int .i64 v)) B F gt ct A st (S.aK p false v) ai:=
 h.iC β ((h.ties.set _ _).ext (λj _=>X8 S p v j))
theorem gX.cO(h:gX w B F gt ct A st S ai)(p:Nat)(v:Int):gX (w.setCell ⟨B.ba,p*3+1,none⟩ (.int .i64 v)) B F gt ct A st (S.aK p true v) ai:=
 h.iC β ((h.ties.set _ _).ext (λj _=>VK S p v j))
theorem gX.uf(h:gX w B F gt ct A st S ai)(p:Nat)(v:Int):gX (w.setCell ⟨B.ba,p*3+2,none⟩ (.int .i64 v)) B F gt ct A st (S.dC p v) ai:=
 h.iC β ((h.ties.set _ _).ext (λj _=>Wu S p v j))
theorem gX.mg(h:gX w B F gt ct A st S ai)(x:Nat)(k:Int):gX (w.setCell ⟨gt,x,none⟩ (.int .i64 k)) B F gt ct A st S (ai.set x k):=by
 have s:=h.sep;have f:=h.bS;have hu:ae [gt] w (w.setCell ⟨gt,x,none⟩ (.int .i64 k)):=β;exact⟨by rw[Ι];exact h.head.upd hu ζ,h.cells.upd hu (λx hx=>by simp at hx;rw[hx];exact f.2.2),h.ties.upd hu ζ,h.iG.set x k,by rw[Ι];exact h.iJ,f,s⟩
theorem gX.cB{w':World}{F':List Nat}{A':NS}{st':Nat}(h:gX w B F gt ct A st S ai)(hu:ae F w w')(hC:aF w' B.c F' A' st')(hF:∀x,x∈F'->x∈F\/w.heap.size<=x)(h1:A'.cs.length=A.cs.length)(h2:A'.hs.length=A.hs.length):gX w' B F' gt ct A' st' S ai:=by
 have f:=h.bS;have g:=h.lt;have hf:∀x,x<w.heap.size->x∉F->x∉F':=λx hx hn hm=>by rcases hF x hm with h'|h';exact hn h';omega
 have l0:=g B.n0 (by simp[PB.blk]);have l1:=g B.ba (by simp[PB.blk]);have l4:=g gt (by simp[PB.blk]);exact⟨by rw[h1];exact h.head.upd hu f.1,hC,by rw[h1];exact h.ties.upd hu f.2.1,h.iG.upd hu f.2.2,by rw[h2];exact h.iJ,⟨hf _ l0 f.1,hf _ l1 f.2.1,hf _ l4 f.2.2⟩,h.sep⟩
end
def lT(w:World)(B:PB)(F:List Nat)(gt ct:Nat)(A:NS)(st:Nat)(tr:Nat->BT):Prop:=∃S ai,gX w B F gt ct A st S ai/\vN Lb A S ai tr/\∀h,Lone (tr h)
theorem lT.upd{w w':World}{B:PB}{F G:List Nat}{gt ct st:Nat}{A:NS}{tr:Nat->BT}(h:lT w B F gt ct A st tr)(hu:ae G w w')(hG:∀x,x∈G->x∉B.blk F gt):lT w' B F gt ct A st tr:=by
 obtain⟨S,ai,hM,hI⟩:=h;exact⟨S,ai,hM.upd hu hG,hI⟩
theorem lT.ag{w w':World}{B:PB}{F:List Nat}{gt ct st:Nat}{A:NS}{tr:Nat->BT}(h:lT w B F gt ct A st tr)(hu:ae [] w w'):lT w' B F gt ct A st tr:=h.upd hu σ
section
variable{w:World}{B:PB}{F:List Nat}{gt ct:Nat}{A:NS}{st:Nat}{S:TS}{ai:List Int}
theorem D9(S:TS)(x y:Nat)(h:S.l x=-1):∀z,(iy S x y).l z=((((S.aK y true (S.l x)).dC y x).aK x false y)).l z/\(iy S x y).r z=((((S.aK y true (S.l x)).dC y x).aK x false y)).r z/\(iy S x y).u z=((((S.aK y true (S.l x)).dC y x).aK x false y)).u z:=λz=>by
 unfold iy TS.aK TS.dC;rw[h];refine⟨σ,σ,?_⟩;have:¬(z:Int)=-1:=ω;simp[this]
theorem Eo(S:TS)(x y o:Nat)(h:S.l x=o)(hoy:o≠y):∀z,(iy S x y).l z=(((((S.aK y true (S.l x)).dC y x).dC o y).aK x false y)).l z/\(iy S x y).r z=(((((S.aK y true (S.l x)).dC y x).dC o y).aK x false y)).r z/\(iy S x y).u z=(((((S.aK y true (S.l x)).dC y x).dC o y).aK x false y)).u z:=λz=>by
 unfold iy TS.aK TS.dC;rw[h];refine⟨σ,σ,?_⟩;simp only[Ϣ,if_false,if_true]
 by_cases h1:z=y
 ·subst h1;rw[Δ rfl,Γ (λe=>hoy e.symm),Δ rfl]
 ·rw[Γ h1]
  by_cases h2:z=o
  ·subst h2;simp
  ·rw[Γ (show ¬(z:Int)=(o:Int) by omega),Γ h2,Γ h1]
theorem yj(b:Int)(w:World)(n0:Nat):Calls prog 205 #[.pointer (some ⟨n0,0,none⟩),.int .i64 (-1),.int .i64 b] w λe w'=>e=.returned (.int .i64 b)/\w'=w:=by
 go_enter func205,ntmps205
 go_wp2;go_ret;exact⟨rfl,rfl⟩
theorem EA(a:Int)(w:World)(n0:Nat):Calls prog 205 #[.pointer (some ⟨n0,0,none⟩),.int .i64 a,.int .i64 (-1)] w λe w'=>e=.returned (.int .i64 a)/\w'=w:=by
 by_cases h:a=-1
 ·subst h;exact yj (-1) w n0
 ·have hb:(a == -1)=false:=by simpa using h
  go_enter func205,ntmps205
  go_wp2;go_ret;exact⟨rfl,rfl⟩
theorem JQ(h:gX w B F gt ct A st S ai)(x y:Nat)(hx:bY A (x:Int)=true)(hy:bY A (y:Int)=true)(hxy:x≠y)(hkx:S.l x=-1\/(0<=S.l x/\S.l x<A.cs.length))(hky:S.l y=-1\/(0<=S.l y/\S.l y<A.cs.length))(hnx:S.l x≠y)(hny:S.l y≠x) :
  Calls prog 205 #[.pointer (some ⟨B.n0,0,none⟩),.int .i64 (x:Int),.int .i64 (y:Int)] w λe w'=>e=.returned (.int .i64 ((if dB A y x then y else x:Nat):Int))/\(∃st',gX w' B F gt ct A st' (if dB A y x then iy S y x else iy S x y) ai)/\ae [B.ba,B.c] w w':=by
 have ka:=fB h.cells y x hy hx;have hx2:=(aj _ _).1 hx;have hy2:=(aj _ _).1 hy;have c0:=h.h0;have hM1:∀w1,aF w1 B.c F A (cK st 1)->ae [B.c] w w1->gX w1 B F gt ct A (cK st 1) S ai:=λw1 hC hu=>h.cB (hu.mono (λz hz=>by simp at hz;rw[hz];exact h.cF)) hC (λz hz=>Α hz) rfl rfl;have hb1:((x:Int) == -1)=false:=σ;have hb2:((y:Int) == -1)=false:=σ;have HX:=χ (ψ hM1 h.sep);have CE:(x:Int)<(A.cs.length:Int):=ω;have hyI:(y:Int)<(A.cs.length:Int):=ω;clear h hx hy hM1
 by_cases hlt:dB A y x
 ·rw[Ν hlt] at ka;rw[Δ hlt,Δ hlt];clear hlt hkx
  go_enter func205,ntmps205
  go_upto_region 7 with (first
   |((go_at_call 164;(with_reducible refine(ka).mono ?_));rintro e w1 ⟨rfl,hC,hu1⟩)
   | fail)
  obtain⟨hM1,hsep⟩:=HX.out;have hM:=hM1 w1 hC hu1;have c1:=hM.h1;have dl:=hM.l y hy2.1;have dr:=hM.r x hx2.1;have du:=hM.u x hx2.1;have ff:=hM.f;have hn1:¬B.n0=B.ba:=hsep.1;have hn2:¬B.ba=B.n0:=λe=>hsep.1 e.symm;have HM:=χ (ψ hM hu1);have nb1:¬y*3=x*3+1:=ω;have nb2:¬y*3=x*3+2:=ω;clear hM hu1 hC hM1 hsep ka
  by_cases ho:S.l y=-1
  ·have HO:=χ ho;have he:=D9 S y x ho;rw[ho] at dl he;have HE:=χ he;clear ho he hky hny
   go_upto_region 8 with(fail)
   go_region_law (fail)
   all_goals
    go_wp2;go_ret;refine⟨rfl,⟨_,gX.ext ((((HM.out.1.cO x (-1)).uf x y).LC y x).ag ?_) HE.out⟩,(HM.out.2.mono σ).trans ?_⟩
    ·exact ν
    ·exact β
  ·obtain⟨o,xk⟩:∃o:Nat,S.l y=o:=⟨(S.l y).toNat,ω⟩;have hol:o<A.cs.length:=ω;have hoy:o≠x:=λe=>hny (by rw[xk,e]);have he:=Eo S y x o xk hoy;rw[xk] at dl he;have HE:=χ he;have I6:((o:Int) != -1)=true:=σ;have hoI:(o:Int)<(A.cs.length:Int):=ω;have do_:=HM.out.1.u o hol;have no1:¬o*3+2=x*3+1:=ω;have no2:¬o*3+2=x*3+2:=ω;have no3:¬y*3=o*3+2:=ω;clear ho he xk hky hny
   go_upto_region 8 with(fail)
   go_region_law (fail)
   all_goals
    go_wp2;go_ret;refine⟨rfl,⟨_,gX.ext (((((HM.out.1.cO x (o:Int)).uf x y).uf o x).LC y x).ag ?_) HE.out⟩,(HM.out.2.mono σ).trans ?_⟩
    ·exact ν
    ·exact β
 ·rw[Ξ hlt] at ka;rw[Γ hlt,Γ hlt];clear hlt hky
  go_enter func205,ntmps205
  go_upto_region 7 with (first
   |((go_at_call 164;(with_reducible refine(ka).mono ?_));rintro e w1 ⟨rfl,hC,hu1⟩)
   | fail)
  obtain⟨hM1,hsep⟩:=HX.out;have hM:=hM1 w1 hC hu1;have c1:=hM.h1;have dl:=hM.l x hx2.1;have dr:=hM.r y hy2.1;have du:=hM.u y hy2.1;have ff:=hM.f;have hn1:¬B.n0=B.ba:=hsep.1;have hn2:¬B.ba=B.n0:=λe=>hsep.1 e.symm;have HM:=χ (ψ hM hu1);have nb1:¬x*3=y*3+1:=ω;have nb2:¬x*3=y*3+2:=ω;clear hM hu1 hC hM1 hsep ka
  by_cases ho:S.l x=-1
  ·have HO:=χ ho;have he:=D9 S x y ho;rw[ho] at dl he;have HE:=χ he;clear ho he hkx hnx
   go_upto_region 8 with(fail)
   go_region_law (fail)
   all_goals
    go_wp2;go_ret;refine⟨rfl,⟨_,gX.ext ((((HM.out.1.cO y (-1)).uf y x).LC x y).ag ?_) HE.out⟩,(HM.out.2.mono σ).trans ?_⟩
    ·exact ν
    ·exact β
  ·obtain⟨o,xk⟩:∃o:Nat,S.l x=o:=⟨(S.l x).toNat,ω⟩;have hol:o<A.cs.length:=ω;have hoy:o≠y:=λe=>hnx (by rw[xk,e]);have he:=Eo S x y o xk hoy;rw[xk] at dl he;have HE:=χ he;have I6:((o:Int) != -1)=true:=σ;have hoI:(o:Int)<(A.cs.length:Int):=ω;have do_:=HM.out.1.u o hol;have no1:¬o*3+2=y*3+1:=ω;have no2:¬o*3+2=y*3+2:=ω;have no3:¬x*3=o*3+2:=ω;clear ho he xk hkx hnx
   go_upto_region 8 with(fail)
   go_region_law (fail)
   all_goals
    go_wp2;go_ret;refine⟨rfl,⟨_,gX.ext (((((HM.out.1.cO y (o:Int)).uf y x).uf o y).LC x y).ag ?_) HE.out⟩,(HM.out.2.mono σ).trans ?_⟩
    ·exact ν
    ·exact β
end
theorem yM{a b:List Nat}(h:(a++b).Nodup):(b++a).Nodup:=(Φ (l₁:=a) (l₂:=b)).nodup_iff.1 h
theorem wz{S:TS}{p z:Int}{t:BT}{n:Nat}(h:dL S p z t)(hl:∀y,y∈t.nodes->y<n):z=-1\/(0<=z/\z<n):=by
 rw[h.root]
 by_cases e:t=.nil
 ·left;rw[e];rfl
 ·right;have h1:=cz e;have:=hl _ h1.1;omega
section
variable{w:World}{B:PB}{F:List Nat}{gt ct:Nat}{A:NS}{st:Nat}{S:TS}{ai:List Int}
theorem vg(h:gX w B F gt ct A st S ai)(a b:BT)(ha:dL S (-1) a.root a)(hb:dL S (-1) b.root b)(la:Lone a)(lb:Lone b)(hn:(a.nodes++b.nodes).Nodup)(hin:∀z,z∈a.nodes++b.nodes->bY A (z:Int)=true) :
  Calls prog 205 #[.pointer (some ⟨B.n0,0,none⟩),.int .i64 a.root,.int .i64 b.root] w λe w'=>e=.returned (.int .i64 (dH A a b).root)/\ae [B.ba,B.c] w w'/\∃st' S',gX w' B F gt ct A st' S' ai/\dL S' (-1) (dH A a b).root (dH A a b)/\∀z,z∉a.nodes++b.nodes->S.at S' z:=by
 cases a with
 |nil=>
  rw[uW];refine(yj b.root w B.n0).mono ?_;rintro e w' ⟨rfl,rfl⟩;exact⟨rfl,ae.refl _ _,st,S,h,hb,λz _=>⟨rfl,rfl,rfl⟩⟩
 |node x l r=>
  cases b with
  |nil=>
   rw[rU];refine(EA (BT.node x l r).root w B.n0).mono ?_;rintro e w' ⟨rfl,rfl⟩;exact⟨rfl,ae.refl _ _,st,S,h,ha,λz _=>⟨rfl,rfl,rfl⟩⟩
  |node y m q=>
   have e1:r=.nil:=la;have e2:q=.nil:=lb;subst e1 e2;have hlt:∀z,z∈(BT.node x l .nil).nodes++(BT.node y m .nil).nodes->z<A.cs.length:=λz hz=>((aj _ _).1 (hin z hz)).1;have hxy:x≠y:=λe=>by
    rw[θ] at hn;exact hn.2.2 x (by simp[BT.nodes]) y (by simp[BT.nodes]) e
   have hrx:=wz (n:=A.cs.length) ha.2.2.1 (λz hz=>hlt z (by simp[BT.nodes,hz]));have hry:=wz (n:=A.cs.length) hb.2.2.1 (λz hz=>hlt z (by simp[BT.nodes,hz]));have hne:∀{u:Nat} {t t':BT},S.l u=t.root->(∀z,z∈t.nodes->z∉t'.nodes)->∀v,v∈t'.nodes->S.l u≠(v:Int):=λ{u t t'} h1 h2 v hv e=>by
    rw[h1] at e;have h6:t≠.nil:=λe'=>by rw[e'] at e;simp[BT.root] at e
    have h7:=(cz h6).1;rw[e,π] at h7;exact h2 v h7 hv
   have hnn:=hn;rw[θ] at hnn;have hnx:S.l x≠(y:Int):=hne (t':=.node y m .nil) ha.2.2.1.root (λz hz hm=>hnn.2.2 z (by simp[BT.nodes,hz]) z hm rfl) y (by simp[BT.nodes]);have hny:S.l y≠(x:Int):=hne (t':=.node x l .nil) hb.2.2.1.root (λz hz hm=>hnn.2.2 z hm z (by simp[BT.nodes,hz]) rfl) x (by simp[BT.nodes]);refine(JQ h x y (hin x (by simp[BT.nodes])) (hin y (by simp[BT.nodes])) hxy hrx hry hnx hny).mono ?_;rintro e w' ⟨rfl,⟨st',hM⟩,hu⟩;rw[rM]
   by_cases hc:dB A y x
   ·simp only[Δ hc] at hM ⊢;obtain⟨h1,h2⟩:=El hb ha (yM hn);exact⟨rfl,hu,st',_,hM,h1,λz hz=>h2 z (λhm=>hz (by rw[τ] at hm ⊢;exact hm.symm))⟩
   ·simp only[Γ hc] at hM ⊢;obtain⟨h1,h2⟩:=El ha hb hn;exact⟨rfl,hu,st',_,hM,h1,h2⟩
end
theorem Xk:(prog.info? 190).map (λi=>(i.zero,i.size,i.bytes))=some (some (.agg #[.int .i64 0,.int .i64 0,.int .i64 0]),3,24):=by kernel_rfl
theorem Pb(n:Nat):vN Lb (NS.new n) TS.none [-1] (λ_=>.nil):=Gi n
theorem Qu(n:Nat)(w:World)(h:n<=65536) :
  Calls prog 62 #[.int .i64 (n:Int)] w λe w'=>∃B F gt,e=.returned (.tuple #[.pointer (some ⟨B.n0,0,none⟩),.int .i64 0])/\lT w' B F gt 1 (NS.new n) 0 (λ_=>.nil)/\ae [] w w'/\∀x,x∈B.blk F gt->w.heap.size<=x:=by
 have hcs:(NS.new n).cs.length=n:=by simp[NS.new]
 have HCS:=χ hcs;clear hcs
 go_enter func62,ntmps62
 go_wp2_with (first
  |((go_at_call 84;(with_reducible refine(oH n _ h).mono ?_));rintro e w1 ⟨c,F,rfl,hC,hu1,hF⟩)
  | (at_make;refine wpList_make_row rfl _ 186 rfl 190 (.agg #[.int .i64 0,.int .i64 0,.int .i64 0]) 3 24 underlying186 Xk n rfl ω μ ?_;intro w3 hr3 hu3))
 have l1:=hu1.size;have l3:=hu3.size;have l4:=hr3.lt;have l7:=hC.lt;have e3:((w3.alloc (.cells #[.int .i64 (-1)] 3)).heap.size)=w3.heap.size+1:=by rw[Κ]
 have hv:ae [] w3 (w3.alloc (.cells #[.int .i64 (-1)] 3)):=(ae.refl _ _).alloc _;obtain⟨W4,TF⟩:∃W4,W4=(w3.alloc (.cells #[.int .i64 (-1)] 3)).alloc (.cells #[.pointer (some ⟨c,0,none⟩),.slice (some ⟨w1.heap.size,0,none⟩) n n,.slice (some ⟨w3.heap.size,0,none⟩) 1 1] 188):=⟨_,rfl⟩;have hw:ae [] w3 W4:=by rw[TF];exact hv.alloc _
 have hh:=eZ (w3.alloc (.cells #[.int .i64 (-1)] 3)) [.pointer (some ⟨c,0,none⟩),.slice (some ⟨w1.heap.size,0,none⟩) n n,.slice (some ⟨w3.heap.size,0,none⟩) 1 1] 188;rw[e3] at hh;rw[←TF] at hh;have hi:IZ W4 w3.heap.size 1 [-1]:=by rw[TF];exact(IZ.lit w3 [-1] σ).upd ((ae.refl [] _).alloc _) σ
 have TH:aF W4 c F (NS.new n) 0:=(hC.ag hu3).ag hw;have hr4:=hr3.upd hw σ;have u4:ae [] w W4:=(hu1.trans hu3).trans hw;have hF':∀x,x∈F->x<w1.heap.size:=l7;have hnF:∀x,w1.heap.size<=x->x∉F:=λx hx hm=>by have:=hF' x hm;omega
 rw[←TF];clear TF e3 hv hu3 hr3 hw hC;have H4:=χ (ψ TH (ψ hi (ψ u4 (ψ hF (ψ hF' hnF)))));clear TH hi u4 hF hF' hnF hu1 l7;go_wp2
 go_loopw [7,27] (λv7 i wr=>∃(k:Nat) (f:Nat->Value),k<=n/\i=.int .i64 k/\aS wr (w3.heap.size+1) 188 3 (λj=>[Value.pointer (some ⟨c,0,none⟩),.slice (some ⟨w1.heap.size,0,none⟩) n n,.slice (some ⟨w3.heap.size,0,none⟩) 1 1].getD j undef)/\aS wr w1.heap.size 190 (n*3) f/\(∀j,j<k*3->f j=.int .i64 (-1))/\ae [w1.heap.size] W4 wr) (λ_ i _=>n-(intOf i).toNat)
 case atStart=>exact⟨0,_,ω,rfl,hh.ext (λj hj=>by(have h3:j<3:=by simpa using hj);rcases(ω:j=0\/j=1\/j=2) with rfl|rfl|rfl<;>rfl),hr4,ω,ae.refl _ _⟩
 case round=>
  obtain⟨k,f,hk,rfl,hH,hR,hf,hu⟩:=hrel;rename World=>wr
  by_cases hkn:k<n
  ·have c0:=hH.cellAt 1 ω rfl;have d0:=hR.cell (k*3) ω;have d1:=hR.cell (k*3+1) ω;have d2:=hR.cell (k*3+2) ω;have e0:=hR.free (k*3);have e1:=hR.free (k*3+1);have e2:=hR.free (k*3+2);have HF:=χ (ψ hf (ψ hH (ψ hR hu)));clear hf hH hR hu hh hr4;go_wp2
   go_roundw
   case rel=>
    obtain⟨hf,hH,hR,hu⟩:=HF.out;refine⟨k+1,_,ω,by go_num,((hH.far _ _ ζ).far _ _ ζ).far _ _ ζ,((hR.set _ _).set _ _).set _ _,λj hj=>?_,((hu.setCell (Α σ) _).setCell (Α σ) _).setCell (Α σ) _⟩
    show(if j=k*3+2 then _ else if j=k*3+1 then _ else if j=k*3 then _ else f j)=_
    split
    ·rfl
    ·split
     ·rfl
     ·split
      ·rfl
      ·exact hf j ω
   case measure=>simp[intOf];omega
  ·obtain rfl:k=n:=ω;have HF:=χ (ψ hf (ψ hH (ψ hR hu)));clear hf hH hR hu hh hr4;go_wp2;go_ret2;obtain⟨hf,hH,hR,hu⟩:=HF.out;obtain⟨TH,hi,u4,hF,hF',hnF⟩:=H4.out;have hcs:=HCS.out;refine⟨⟨w3.heap.size+1,c,w1.heap.size⟩,F,w3.heap.size,rfl,⟨TS.none,[-1],⟨by rw[hcs];exact hH,TH.upd hu (λx hx=>by simp at hx;rw[hx];exact hnF _ (Θ _)),?_,hi.upd hu ζ,rfl,⟨hnF _ (by simp only;omega),hnF _ (by simp only;omega),hnF _ ω⟩,⟨by simp only;omega,by simp only;omega,by simp only;omega⟩⟩,Pb _,λ_=>trivial⟩,u4.joined hu (λx hx=>Β (by simp at hx;omega)),λx hx=>?_⟩
   ·rw[hcs];exact hR.ext (λj hj=>by rw[hf j hj];unfold eB TS.none;simp)
   ·simp only[PB.blk,ρ] at hx;rcases hx with rfl|rfl|rfl|hx
    ·omega
    ·omega
    ·omega
    ·exact hF x hx
theorem vN.Za{A:NS}{S:TS}{ai:List Int}{tr:Nat->BT}(h:vN Lb A S ai tr)(hL:∀h,Lone (tr h)){g:Nat}(hg:0<dD A g):∃m:Nat,(tr g).root=m/\dN A g=some m:=by
 obtain⟨x,hx,hi,h0⟩:=fM.1 hg;have hxm:x∈(tr g).nodes:=(h.mem g x).2 ⟨ω,hx,hi⟩;cases ht:tr g with
 |nil=>rw[ht] at hxm;cases hxm
 |node m l r=>
  have hm:=(h.mem g m).1 (by rw[ht];simp[BT.nodes]);have hH:eU A (tr g):=h.heap g;have hl:=hL g;rw[ht] at hH hl;have hr:r=.nil:=hl;subst hr;refine⟨m,rfl,(iY h0).2 ⟨hm.2.1,hm.2.2,λy hy hyi=>?_⟩⟩;have hym:=(h.mem g y).2 ⟨ω,hy,hyi⟩;rw[ht] at hym;exact ace hH y hym
section
variable{w:World}{B:PB}{F:List Nat}{gt ct:Nat}{A:NS}{st:Nat}{tr:Nat->BT}
theorem A7(h:lT w B F gt ct A st tr)(g:Nat)(hn:0<dD A g) :
  Calls prog 203 #[.pointer (some ⟨B.n0,0,none⟩),.int .i64 (g:Int)] w λe w'=>∃m:Nat,dN A g=some m/\(tr g).root=m/\e=.returned (.tuple #[.int .i64 (m:Int),.bool true])/\w'=w:=by
 obtain⟨S,ai,hM,hI,hL⟩:=h;obtain⟨m,hm,hf⟩:=hI.Za hL hn;obtain⟨x,hx,hi,h0⟩:=fM.1 hn;have ok:=hM.cells.ok;have hgl:g<A.hs.length:=by have:=(ok.nat x hx).2;omega
 have hAh:=ok.h1;have k:=iT hM.cells (g:Int) ω;have hh0:=hM.h0;have h3:=hM.h2;have d:=hM.iG.cell g (by rw[hM.iJ];exact hgl);rw[hI.top g hgl,hm] at d;have htl:g<ai.length:=by rw[hM.iJ];exact hgl
 generalize hl:dD A (g:Int)=n at *;have hb:((n:Int) == 0)=false:=ζ;have HF:=χ (ψ hf hm);clear hM hI hm hf hx hi h0 ok hl
 go_enter func203,ntmps203
 go_wp2_with (first|(go_at_call 126;(with_reducible refine aT (k) ?_)))
 go_ret2;exact⟨m,HF.out.1,HF.out.2,rfl,rfl⟩
theorem Mi(h:lT w B F gt ct A st tr)(x:Int)(hx:-9223372036854775808<=x/\x<=9223372036854775807)(hn:dD A x=0) :
  Calls prog 203 #[.pointer (some ⟨B.n0,0,none⟩),.int .i64 x] w λe w'=>e=.returned (.tuple #[.int .i64 0,.bool false])/\w'=w:=by
 obtain⟨S,ai,hM, -⟩:=h;have k:=iT hM.cells x hx;rw[hn] at k;have h0:=hM.h0;clear hM hn
 go_enter func203,ntmps203
 go_wp2_with (first|(go_at_call 126;(with_reducible refine aT (k) ?_)))
 go_ret2;exact⟨rfl,rfl⟩
theorem Pp(h:lT w B F gt ct A st tr)(hl:65536<A.hs.length) :
  Calls prog 201 #[.pointer (some ⟨B.n0,0,none⟩)] w λe w'=>e=.returned (.int .i64 0)/\Goes (B.blk F gt) w w' (λF'=>∃F1,F'=B.blk F1 gt/\lT w' B F1 gt ct A st tr):=by
 obtain⟨S,ai,hM,hI⟩:=h;have k:=iP hM.cells;have e1:dJ A=0:=by unfold dJ;rw[Δ hl]
 have e2:aU A=A:=by unfold aU;rw[Δ hl]
 rw[e1,e2] at k;have h0:=hM.h0;have HM:=χ hM;have HI:=χ hI;clear hM hI e1 e2
 go_enter func201,ntmps201
 go_wp2_with (first|((go_at_call 140;(with_reducible refine(k).mono ?_));rintro e w1 ⟨rfl,F1,hC,hu,hF⟩))
 go_ret
 exact ⟨rfl,B.blk F1 gt,⟨F1,rfl,S,ai,HM.out.cB hu hC hF rfl rfl,HI.out⟩,hu.mono (λy hy=>by simp [PB.blk,hy]),λx hx=>by
  simp only[PB.blk,ρ] at hx ⊢;rcases hx with rfl|rfl|rfl|hx
  ·simp
  ·simp
  ·simp
  ·rcases hF x hx with h|h
   ·simp[h]
   ·exact Β h⟩
theorem LG(h:lT w B F gt ct A st tr)(hl:¬65536<A.hs.length) :
  Calls prog 201 #[.pointer (some ⟨B.n0,0,none⟩)] w λe w'=>e=.returned (.int .i64 (A.hs.length:Int))/\Goes (B.blk F gt) w w' (λF'=>∃F1 pX H8,F'=B.blk F1 pX/\lT w' B F1 pX H8 (aU A) st tr):=by
 obtain⟨S,ai,hM,hI,hL⟩:=h;have k:=iP hM.cells;have e1:dJ A=A.hs.length:=by unfold dJ;rw[Γ hl]
 rw[e1] at k;have hcs:(aU A).cs.length=A.cs.length:=by unfold aU;rw[Γ hl]
 have jd:(aU A).hs.length=A.hs.length+1:=by unfold aU;rw[Γ hl];simp
 have hI2:=hI.make hM.cells.ok hM.iJ hl;have h0:=hM.h0;have hh0:=hM.cells.ok.h0;have HTN:=χ hM.iJ;have htb:ai.length<=65536:=by rw[hM.iJ];omega
 have HM:=χ hM;have HI:=χ (ψ hI2 hL);clear hM hI hL e1 hI2
 go_enter func201,ntmps201
 go_wp2_with (first
  |((go_at_call 140;(with_reducible refine(k).mono ?_));rintro e w1 ⟨rfl,F1,hC,hu,hF⟩;(have d3:=hu.kept HM.out.h2 HM.out.bS.1);(have f3:=hu.aM HM.out.h2 HM.out.bS.1 (HM.out.head.free 2));(have ho1:=(HM.out.iG.upd hu HM.out.bS.2.2).own);(have g0:B.n0≠gt:=HM.out.sep.2.1);(have gl:=(HM.out.iG.upd hu HM.out.bS.2.2).lt))
  | ((at_builtin;refine bI rfl _ _ 77 rfl 0 3 (.int .i64 0) 1 8 underlying77 gI rfl δ _ _ _ rfl (ho1) [.int .i64 (-1)] rfl (by simp [Value.oneCell']) (by first|rfl|(rw [Κ];rfl)) μ ω (ω) ?_;intro v2 w2 ho2 hu2 nC);(have hu2:ae [gt] w1 w2:=hu2);obtain ⟨pX,H8,ev,hI2, -⟩:=IZ.iA (l:=ai++[-1]) (by rw [dO,υ];exact ho2) σ;rw [υ,List.length_singleton] at ev;subst ev;(have d4:=hu2.kept d3 ζ);(have f4:=hu2.aM d3 ζ f3)))
 go_ret;have hM:=HM.out;have hlt:=hM.lt;have f:=hM.bS;have q:=hM.sep;have hw3:ae [B.n0] w2 (w2.setCell ⟨B.n0,2,none⟩ (.slice (some ⟨pX,0,none⟩) (ai.length+1) H8)):=β;have hg1:pX=gt\/w1.heap.size<pX:=by
  rcases nC with h|h
  ·exact Α (Option.some.inj h)
  ·exact Β (h pX rfl)
 have hws:=hu.size;have gG:=hC.lt;have l0:=hlt B.n0 (by simp[PB.blk]);have l1:=hlt B.ba (by simp[PB.blk]);have l4:=hlt gt (by simp[PB.blk]);have hnF:∀y,y<w.heap.size->y∉F->y∉F1:=λy hy hn hm=>by rcases hF y hm with h'|h';exact hn h';omega
 have wy:pX∉F1:=by
  rcases hg1 with e|e
  ·rw[e];exact hnF gt l4 f.2.2
  ·exact λhm=>by have:=gG pX hm;omega
 have hb:w.heap.size<=pX\/pX=gt:=ω;have hhd:=((hM.head.upd hu f.1).upd hu2 ζ).set 2 (.slice (some ⟨pX,0,none⟩) (ai.length+1) H8);refine⟨rfl,B.blk F1 pX,⟨F1,pX,H8,rfl,S,ai++[-1],⟨?_,?_,?_,hI2.upd hw3 ζ,?_,⟨hnF _ l0 f.1,hnF _ l1 f.2.1,wy⟩,⟨q.1,ω,ω⟩⟩,HI.out⟩,?_,λy hy=>?_⟩
 ·rw[hcs,υ,List.length_singleton];refine hhd.ext (λj hj=>?_);rcases(ω:j=0\/j=1\/j=2) with rfl|rfl|rfl<;>rfl
 ·exact(hC.upd hu2 (λy hy=>by simp at hy;rw[hy];exact hnF gt l4 f.2.2)).upd hw3 (λy hy=>by simp at hy;rw[hy];exact hnF _ l0 f.1)
 ·rw[hcs];exact((hM.ties.upd hu f.2.1).upd hu2 ζ).upd hw3 ζ
 ·rw[υ,List.length_singleton,jd,HTN.out]
 ·have u1:ae (B.blk F gt) w w1:=hu.mono (λy hy=>by simp[PB.blk,hy]);exact(u1.trans (hu2.mono (λy hy=>by simp at hy;simp[PB.blk,hy]))).trans (hw3.mono (λy hy=>by simp at hy;simp[PB.blk,hy]))
 ·simp only[PB.blk,ρ] at hy ⊢;rcases hy with rfl|rfl|rfl|hy
  ·simp
  ·simp
  ·rcases hb with h|h
   ·exact Β h
   ·exact Α (by simp[h])
  ·rcases hF y hy with h|h
   ·simp[h]
   ·exact Β h
end
section
variable{w:World}{B:PB}{F:List Nat}{gt ct:Nat}{A:NS}{st:Nat}{S:TS}{ai:List Int}
theorem Oo(h:gX w B F gt ct A st S ai)(x:Nat)(hin:bY A (x:Int)=true)(l:BT)(hl:dL S (x:Int) (S.l x) l)(hlt:∀z,z∈l.nodes->z<A.cs.length)(hsz:l.size<=65536) :
  Calls prog 207 #[.pointer (some ⟨B.n0,0,none⟩),.int .i64 (x:Int)] w λe w'=>∃ao co,e=.returned (.slice ao (bR l).length co)/\w'.ownsRow w.heap.size 3 1 (.slice ao (bR l).length co) (bR l).length (bz (dV (bR l)))/\gX w' B F gt ct A st S ai/\ae F w w':=by
 have kh:=bV h.cells x hin;have hx:=(aj _ _).1 hin;have c0:=h.h0;have hM1:∀w1,aF w1 B.c F A st->ae F w w1->gX w1 B F gt ct A st S ai:=λw1 hC hu=>h.cB hu hC (λz hz=>Α hz) rfl rfl;have CE:(x:Int)<(A.cs.length:Int):=ω;have HL:=χ (ψ hl hlt);clear h hl hlt
 go_enter func207,ntmps207
 go_upto_region 5 with (first
  |((go_at_call 124;(with_reducible refine(kh).mono ?_));rintro e w1 ⟨rfl,hC,hu1⟩)
  | fail)
 have hM:=hM1 w1 hC hu1;have c1:=hM.h1;have dl:=hM.l x hx.1;have hs1:=hu1.size;have HM:=χ (ψ hM hu1);have hlr:=HL.out.1.root;rw[hlr] at dl;clear hM hM1 hC hu1 kh;go_wp2
 go_loopg [7,8] l.size (λfu ov zv wr=>∃(t:BT) (p:Int) (o:List Int) (k:Nat) (ao:Option Addr) (co:Nat),zv=.int .i64 t.root/\ov=.slice ao k co/\dL S p t.root t/\(∀z,z∈t.nodes->z<A.cs.length)/\wr.ownsRow w1.heap.size 3 1 (.slice ao k co) k (bz o)/\o++dV (bR t)=dV (bR l)/\t.size<=fu/\k+t.size<=65536/\ae [] w1 wr)
 case atStart=>exact⟨l,x,[],0,none,0,rfl,rfl,by rw[←hlr];exact HL.out.1,HL.out.2,⟨rfl,Α ⟨rfl,rfl⟩⟩,rfl,Θ _,ω,ae.refl _ _⟩
 case round=>
  rename Nat=>fu;obtain⟨t,p,o,k,ao,co,rfl,rfl,hT,hlt,ho,Gf,hfu,hk,hu⟩:=hrel;rename World=>wr;cases t with
  |nil=>
   have hk2:k=(bR l).length:=by
    have h1:=ho.1;rw[gQ] at h1;have h2:=congrArg List.length Gf;simp[dV,bR] at h2;omega
   have hr2:(BT.nil).root=-1:=rfl;rw[hr2] at *;have HO:=χ (ψ ho (ψ Gf (ψ hu hk2)));clear ho Gf hT hlt;go_wp2;go_ret;obtain⟨ho,Gf,hu,hk2⟩:=HO.out;subst hk2;have e:o=dV (bR l):=by simpa[dV,bR] using Gf
   rw[e] at ho;exact⟨ao,co,rfl,nN ho hs1,HM.out.1.ag hu,HM.out.2.then hu⟩
  |node y a b=>
   have hyl:y<A.cs.length:=hlt y (by simp[BT.nodes]);have hy2:(BT.node y a b).root=(y:Int):=rfl;rw[hy2] at *;have hyb:((y:Int) != -1)=true:=σ;have hyI:(y:Int)<(A.cs.length:Int):=ω;have hMw:=HM.out.1.ag hu;have e1:=hMw.h1;have e2:=hMw.r y hyl;rw[hT.2.2.2.root] at e2;have hos:=hu.size;simp only[BT.size] at hfu hk;obtain⟨fv,rfl⟩:∃fv,fu=fv+1:=⟨fu-1,ω⟩;have HO:=χ (ψ hT (ψ hlt (ψ Gf hu)));clear hT hlt Gf hMw;have hb2:w1.heap.size<=wr.heap.size:=hos;have hnba:B.n0<w1.heap.size/\B.ba<w1.heap.size:=⟨HM.out.1.lt _ (by simp[PB.blk]),HM.out.1.lt _ (by simp[PB.blk])⟩
   go_wp2_with (first|((at_builtin;refine bI rfl _ _ 77 rfl w1.heap.size 3 (.int .i64 0) 1 8 underlying77 gI rfl δ _ _ _ rfl (ho) [.int .i64 (y:Int)] rfl (by simp[Value.oneCell']) (by first|rfl|(rw[Κ];rfl)) μ ω (ω) ?_;intro v2 w2 ho2 hu2 nC);obtain⟨a2,c2,rfl,hc2⟩:=aV ho2;(have hv2:ae [] w1 w2:=HO.out.2.2.2.own ho (Θ _) hu2);(have hn2:B.n0∉(Value.slice ao k co).ownBlock.toList:=λhm=>by(have h9:=(ho.lt B.n0 (Option.mem_toList.1 hm)).1);omega);(have MN:B.ba∉(Value.slice ao k co).ownBlock.toList:=λhm=>by(have h9:=(ho.lt B.ba (Option.mem_toList.1 hm)).1);omega);(have e3:=hu2.kept e1 hn2);(have e4:=hu2.kept e2 MN))|fail)
   go_roundg fv
   case rel=>
    obtain⟨hT,hlt,Gf,hu⟩:=HO.out;refine⟨b,y,o++[(y:Int)],k+1,a2,c2,rfl,rfl,?_,λz hz=>hlt z (by simp[BT.nodes,hz]),by rw[dO];exact ho2,?_,ω,ω,hv2⟩
    ·have h4:=hT.2.2.2;rw[h4.root] at h4;exact h4
    ·rw[←Gf];simp[dV,bR,BT.root]
   all_goals omega
end
end Go.Proofs.YtnpdakpagnpanaaGreat
namespace Go.Proofs.YtnpdakpagnpanaaGreat
open Tryz
structure Wz(A:NS)(S:TS)(l:List BT):Prop where
 ok:∀t,t∈l->dL S (-1) t.root t/\Lone t
 nd:(gM l).Nodup
 inn:∀z,z∈gM l->bY A (z:Int)=true
theorem Wz.link{A:NS}{S S':TS}{D r:List BT}{a b:BT}(h:Wz A S (D++a::b::r))(hT:dL S' (-1) (dH A a b).root (dH A a b))(hs:∀z,z∉a.nodes++b.nodes->S.at S' z):Wz A S' (D++dH A a b::r):=by
 have la:=(h.ok a σ).2;have lb:=(h.ok b σ).2;have hp:(gM (D++dH A a b::r)).Perm (gM (D++a::b::r)):=by
  rw[gB,gB,cu,cu,cu,←ϋ a.nodes];exact((j4 A la lb).append_right _).append_left _
 have hnd:=h.nd;rw[gB,cu,cu] at hnd;rw[θ] at hnd;obtain⟨_,n2,n3⟩:=hnd;rw[←ϋ,θ] at n2;obtain⟨_,_,n4⟩:=n2;refine⟨λt ht=>?_,hp.nodup_iff.2 h.nd,λz hz=>h.inn z (hp.mem_iff.1 hz)⟩;rcases τ.1 ht with e|e
 ·have h1:=h.ok t (by simp[e]);refine⟨h1.1.frame (λz hz=>hs z (λhm=>?_)),h1.2⟩;refine n3 z (List.mem_flatMap.2 ⟨t,e,hz⟩) z ?_ rfl;rcases τ.1 hm with e2|e2
  ·exact τ.2 (Α e2)
  ·exact τ.2 (Β (τ.2 (Α e2)))
 ·rcases ρ.1 e with e|e
  ·rw[e];exact⟨hT,lV A la lb⟩
  ·have h1:=h.ok t (by simp[e]);exact⟨h1.1.frame (λz hz=>hs z (λhm=>n4 z hm z (List.mem_flatMap.2 ⟨t,e,hz⟩) rfl)),h1.2⟩
theorem Wz.two{A:NS}{S:TS}{D r:List BT}{a b:BT}(h:Wz A S (D++a::b::r)):dL S (-1) a.root a/\dL S (-1) b.root b/\Lone a/\Lone b/\(a.nodes++b.nodes).Nodup/\∀z,z∈a.nodes++b.nodes->bY A (z:Int)=true:=by
 have hnd:=h.nd;rw[gB,cu,cu,θ] at hnd;have n2:=hnd.2.1;rw[←ϋ,θ] at n2;refine⟨(h.ok a σ).1,(h.ok b σ).1,(h.ok a σ).2,(h.ok b σ).2,n2.1,λz hz=>h.inn z ?_⟩;rw[gB,cu,cu,←ϋ];simp only[τ] at hz ⊢;rcases hz with e|e
 ·simp[e]
 ·simp[e]
theorem Oj(S:TS)(x:Nat):∀z,(gK S x []).l z=(S.aK x false (-1)).l z/\(gK S x []).r z=(S.aK x false (-1)).r z/\(gK S x []).u z=(S.aK x false (-1)).u z:=λz=>by
 unfold gK TS.aK;simp
theorem LF(S:TS)(x k j:Nat)(ks:List Int)(h:ks[j]?=some (k:Int)):∀z,(gK S x (ks.take (j+1))).l z=(((gK S x (ks.take j)).aK k true (-1)).dC k (-1)).l z/\(gK S x (ks.take (j+1))).r z=(((gK S x (ks.take j)).aK k true (-1)).dC k (-1)).r z/\(gK S x (ks.take (j+1))).u z=(((gK S x (ks.take j)).aK k true (-1)).dC k (-1)).u z:=λz=>by
 have e:ks.take (j+1)=ks.take j++[(k:Int)]:=by rw[ϐ,h];rfl
 rw[e];unfold gK TS.aK TS.dC;have hz:((z:Int)=(k:Int))=(z=k):=propext ⟨λh=>ω,λh=>ω⟩;simp only[τ,ϓ,hz];refine⟨σ,?_,?_⟩
 ·by_cases h1:z=k
  ·simp[h1]
  ·simp[h1]
 ·by_cases h1:z=k
  ·simp[h1]
  ·simp[h1]
theorem Qw(A:NS){l:List BT}{j:Nat}(h:2*j+1<l.length):∃a b r,l.drop (2*j)=a::b::r/\l[2*j]?=some a/\l[2*j+1]?=some b/\r=l.drop (2*(j+1))/\(dE A l).take (j+1)=(dE A l).take j++[dH A a b]:=by
 have h1:l.drop (2*j)=l[2*j]::l[2*j+1]::l.drop (2*j+2):=by
  rw[Ϟ ω,Ϟ ω]
 refine⟨l[2*j],l[2*j+1],l.drop (2*j+2),h1,ε _,ε _,by rw[show 2*(j+1)=2*j+2 by omega],?_⟩;have h2:=wI A j l ω;rw[h1] at h2;have hl:((dE A l).take j).length=j:=by rw[ϑ,uz];omega
 have h3:(dE A l)[j]?=some (dH A l[2*j] l[2*j+1]):=by
  rw[h2,ϊ ω,hl,Nat.sub_self];rfl
 rw[ϐ,h3];rfl
theorem Ox(A:NS){l:List BT}{j:Nat}(h:2*j+1=l.length):∃a,l.drop (2*j)=[a]/\l[2*j]?=some a/\(dE A l).take (j+1)=(dE A l).take j++[a]/\l.drop (2*(j+1))=[]:=by
 have h1:l.drop (2*j)=[l[2*j]]:=by
  rw[Ϟ ω,List.drop_eq_nil_of_le ω]
 refine⟨l[2*j],h1,ε _,?_,List.drop_eq_nil_of_le ω⟩;have h2:=wI A j l ω;rw[h1] at h2;have hl:((dE A l).take j).length=j:=by rw[ϑ,uz];omega
 have h3:(dE A l)[j]?=some l[2*j]:=by
  rw[h2,ϊ ω,hl,Nat.sub_self];rfl
 rw[ϐ,h3];rfl
theorem Tj(A:NS){l:List BT}{j:Nat}(h:l.length<=2*j):(dE A l).take j=dE A l:=List.take_of_length_le (by rw[uz];omega)
theorem rest_step(A:NS){l:List BT}{j:Nat}(h:j<l.length):gF A (l.drop j)=dH A l[j] (gF A (l.drop (j+1))):=by
 rw[Ϟ h];rfl
theorem Wz.start{A:NS}{S:TS}{x:Nat}{l:BT}(hl:dL S (x:Int) (S.l x) l)(hn:(x::l.nodes).Nodup)(hin:∀z,z∈l.nodes->bY A (z:Int)=true):Wz A (gK S x (dV (bR l))) (bR l):=by
 obtain⟨n1,n2⟩:=Ζ.1 hn;have e:=hl.root;rw[e] at hl;have adB:∀(t:BT) u,u∈bR t->Lone u:=by
  intro t
  induction t with
  |nil=>intro u hu;cases hu
  |node y a b _ ih=>
   intro u hu;simp only[bR,ρ] at hu;rcases hu with e|e
   ·subst e;rfl
   ·exact ih u e
 exact⟨λt ht=>⟨IC hl n2 n1 (λz hz=>Iff.rfl) t ht,adB l t ht⟩,(jE l).nodup_iff.2 n2,λz hz=>hin z ((jE l).mem_iff.1 hz)⟩
structure Oa(A:NS)(S0 S:TS)(l:BT)(L:List BT):Prop where
 fo:Wz A S L
 sub:∀z,z∈gM L->z∈l.nodes
 fr:∀z,z∉l.nodes->S0.at S z
theorem Oa.link{A:NS}{S0 S S':TS}{l:BT}{D r:List BT}{a b:BT}(h:Oa A S0 S l (D++a::b::r))(hT:dL S' (-1) (dH A a b).root (dH A a b))(hs:∀z,z∉a.nodes++b.nodes->S.at S' z):Oa A S0 S' l (D++dH A a b::r):=by
 have la:=(h.fo.ok a σ).2;have lb:=(h.fo.ok b σ).2;have hp:(gM (D++dH A a b::r)).Perm (gM (D++a::b::r)):=by
  rw[gB,gB,cu,cu,cu,←ϋ a.nodes];exact((j4 A la lb).append_right _).append_left _
 refine⟨h.fo.link hT hs,λz hz=>h.sub z (hp.mem_iff.1 hz),λz hz=>?_⟩;have h1:=h.fr z hz
 have h2:=hs z (λhm=>hz (h.sub z (by
  rw[gB,cu,cu,←ϋ];simp only[τ] at hm ⊢;rcases hm with e|e
  ·simp[e]
  ·simp [e])))
 exact⟨h2.1.trans h1.1,h2.2.1.trans h1.2.1,h2.2.2.trans h1.2.2⟩
theorem Oa.start{A:NS}{S:TS}{x:Nat}{l:BT}(hl:dL S (x:Int) (S.l x) l)(hn:(x::l.nodes).Nodup)(hin:∀z,z∈l.nodes->bY A (z:Int)=true):Oa A (gK S x (dV (bR l))) (gK S x (dV (bR l))) l (bR l):=
 ⟨Wz.start hl hn hin,λz hz=>(jE l).mem_iff.1 hz,λz _=>⟨rfl,rfl,rfl⟩⟩
theorem Oa.nil{A:NS}{S0 S:TS}{l:BT}{L:List BT}(h:Oa A S0 S l L):Oa A S0 S l (L++[BT.nil]):=by
 have e:gM (L++[BT.nil])=gM L:=by rw[gB];simp[gM,BT.nodes]
 refine⟨⟨λt ht=>?_,by rw[e];exact h.fo.nd,by rw[e];exact h.fo.inn⟩,by rw[e];exact h.sub,h.fr⟩;rcases τ.1 ht with e|e
 ·exact h.fo.ok t e
 ·have e2:t=.nil:=by simpa using e
  subst e2;exact⟨rfl,trivial⟩
theorem Oa.done{A:NS}{S S':TS}{x:Nat}{l t:BT}(h:Oa A (gK S x (dV (bR l))) S' l [t])(hx:x∉l.nodes):dL S' (-1) t.root t/\S'.l x=-1/\S'.r x=S.r x/\S'.u x=S.u x/\∀z,z∉x::l.nodes->S.at S' z:=by
 have h1:=h.fr x hx;have hk:∀z:Nat,z∉l.nodes->(z:Int)∉dV (bR l):=λz hz hm=>hz (NP hm);have hs:∀z:Nat,z∉l.nodes->z≠x->S.at (gK S x (dV (bR l))) z:=λz hz hzx=>UK hzx (hk z hz);refine⟨(h.fo.ok t σ).1,?_,?_,?_,λz hz=>?_⟩
 ·rw[h1.1];simp[gK]
 ·rw[h1.2.1];simp[gK,hk x hx]
 ·rw[h1.2.2];simp[gK,hk x hx]
 ·simp only[ρ,not_or] at hz;have h2:=h.fr z hz.2;have h3:=hs z hz.2 hz.1;exact⟨h2.1.trans h3.1,h2.2.1.trans h3.2.1,h2.2.2.trans h3.2.2⟩
theorem ou{l:List BT}{j:Nat}{t:BT}(h:l[j]?=some t):(dV l).getD j 0=t.root/\(dV l)[j]?=some t.root:=by
 unfold dV;simp[φ,h]
theorem Le(l:List BT):(dV l).length=l.length:=by unfold dV;simp
theorem vL(a b:List BT):dV (a++b)=dV a++dV b:=by unfold dV;rw[List.map_append]
theorem GG:∀(t:BT),(bR t).length<=t.nodes.length
 | .nil=>Θ _
 | .node x l r=>by
  have:=GG r;simp only[bR,Ω,BT.nodes,υ];omega
theorem Ph(A:NS){tw:List BT}{i:Nat}(h:i<tw.length):tw.take (i+1)=tw.take i++[tw[i]]/\gF A (tw.drop i)=dH A tw[i] (gF A (tw.drop (i+1))):=by
 refine⟨?_,rest_step A h⟩;rw[ϐ,ε h];rfl
end Go.Proofs.YtnpdakpagnpanaaGreat
namespace Go.Proofs.YtnpdakpagnpanaaGreat
open Tryz
open Go Go.RowKit
section
variable{w:World}{B:PB}{F:List Nat}{gt ct:Nat}{A:NS}{st:Nat}{S:TS}{ai:List Int}
def QH(w:World)(base:Nat)(v:Value)(xs:List Int):Prop:=w.ownsRow base 3 1 v xs.length (bz xs)
theorem QH.cell{W:World}{base:Nat}{a:Option Addr}{n c:Nat}{xs:List Int}(h:W.ownsRow base 3 1 (.slice a n c) n (bz xs)){j:Nat}{y:Int}(hj:xs[j]?=some y):∃g,a=some ⟨g,0,none⟩/\base<=g/\g<W.heap.size/\∀W',ae [] W W'->W'.cell? ⟨g,j,none⟩=some (.int .i64 y):=by
 have hl:=h.1;rw[gQ] at hl;have hjl:j<xs.length:=(List.getElem?_eq_some_iff.1 hj).1;obtain⟨g,cap,e,hb,_⟩:=fQ h ω
 injection e with e1 e2 e3
 subst e1;have hlt:=h.lt g rfl;refine⟨g,rfl,hb,hlt.2,λW' hW=>hW.was ?_⟩;rw[h.cellAt j ω,lY hjl,φ,hj];rfl
theorem BP(h:gX w B F gt ct A st S ai)(x:Nat)(hin:bY A (x:Int)=true)(l:BT)(hl:dL S (x:Int) (S.l x) l)(hnd:(x::l.nodes).Nodup)(hinl:∀z,z∈l.nodes->bY A (z:Int)=true)(hsz:l.size<=65536) :
    Calls prog 206 #[.pointer (some ⟨B.n0,0,none⟩),.int .i64 (x:Int)] w λe w'=>e=.returned (.int .i64 (gF A (dE A (bR l))).root)/\ae (B.ba::F) w w'/\∃st' S',gX w' B F gt ct A st' S' ai/\dL S' (-1) (gF A (dE A (bR l))).root (gF A (dE A (bR l)))/\S'.l x=-1/\S'.r x=S.r x/\S'.u x=S.u x/\∀z,z∉x::l.nodes->S.at S' z:=by
  have hx:=(aj _ _).1 hin;have hlt:∀z,z∈l.nodes->z<A.cs.length:=λz hz=>((aj _ _).1 (hinl z hz)).1;have kk:=Oo h x hin l hl hlt hsz;have hlen:(bR l).length<=65536:=by have:=GG l;rw[BT.lW] at this;omega
  have HS:=χ (Oa.start hl hnd hinl);have hxl:x∉l.nodes:=(Ζ.1 hnd).1;have hkr:∀(j:Nat) (k:BT),(bR l)[j]?=some k->∃y:Nat,k.root=(y:Int)/\y<A.cs.length:=λj k hk=>by
    have h1:=G6 (Η hk);exact⟨_,h1.2.1,hlt _ ((jE l).mem_iff.1 (List.mem_flatMap.2 ⟨k,Η hk,h1.1⟩))⟩
  have HK:=χ (ψ hkr (ψ hxl hlen));have hbl:=h.lt;have hn0:B.n0<w.heap.size/\B.ba<w.heap.size/\∀z,z∈F->z<w.heap.size:=⟨hbl _ (by simp[PB.blk]),hbl _ (by simp[PB.blk]),λz hz=>hbl z (by simp[PB.blk,hz])⟩;clear hlt hl hnd hinl hkr hxl hbl;generalize hks:bR l=ks at *
  go_enter func206,ntmps206
  go_upto_region 2 with (first
    |((go_at_call 207;(with_reducible refine(kk).mono ?_));rintro e w1 ⟨ao,co,rfl,ho,hM1,hu1⟩)
    | fail)
  clear h kk;have c1:=hM1.h1;have dl:=hM1.l x hx.1;have ff:=hM1.f (x*3);have CE:(x:Int)<(A.cs.length:Int):=ω;have HO:=χ (ψ ho (ψ hM1 hu1));clear ho hM1 hu1;obtain⟨hkr,hxl,hlen⟩:=HK.out;clear hkr hxl
  go_upto_region 3 with(fail)
  refine bG (λW=>gX W B F gt ct A st (S.aK x false (-1)) ai/\ae [B.ba] w1 W) ⟨(HO.out.2.1.LC x (-1)).ag (by first|exact⟨rfl,rfl,rfl,Θ _,λ_ _ _=>rfl⟩|exact ν),β⟩ ?_;rintro W ⟨jq,hu2⟩;have HW:=χ (ψ jq hu2);clear jq hu2 c1 dl ff;go_wp2
  go_loopw [7,24] (λv7 v24 wr=>∃(j:Nat),j<=ks.length/\v24=.int .i64 (j:Int)/\gX wr B F gt ct A st (gK S x ((dV ks).take j)) ai/\ae [B.ba] w1 wr) (λ_ v24 _=>ks.length-(intOf v24).toNat)
  case atStart=>exact⟨0,Nat.zero_le _,rfl,by rw[List.take_zero];exact HW.out.1.ext (Oj S x),HW.out.2⟩
  case round=>
    obtain⟨j,hj,rfl,hM,hu⟩:=hrel;rename World=>wr
    by_cases hjn:j<ks.length
    · obtain⟨t,ht⟩:∃t,ks[j]?=some t:=⟨ks[j],ε hjn⟩
      obtain⟨y,hy,hyl⟩:=HK.out.1 j t ht;have hro:=(ou ht).2;rw[hy] at hro;obtain⟨g,rfl,hg1,hg2,hgc⟩:=QH.cell HO.out.1 hro;have hgr:wr.cell? ⟨g,j,none⟩=some (.int .i64 (y:Int)):=hu.kept (hgc w1 (ae.refl _ _)) ζ;have c1:=hM.h1;have dr:=hM.r y hyl;have du:=hM.u y hyl;have Yv:=hM.f (y*3+1);have ff2:=hM.f (y*3+2);have hyI:(y:Int)<(A.cs.length:Int):=ω;have HM:=χ (ψ hM (ψ hu hro));clear hM hu hro hy ht hgc;go_wp2
      go_region_law (fail)
      all_goals
        go_wp2
        go_roundw
        case rel=>
          refine⟨j+1,ω,by go_num,?_,HM.out.2.1.trans β⟩;exact(((HM.out.1.cO y (-1)).uf y (-1)).ag (by first|exact⟨rfl,rfl,rfl,Θ _,λ_ _ _=>rfl⟩|exact ν)).ext (LF S x y j (dV ks) HM.out.2.2)
        case measure=>simp[intOf];omega
    · obtain rfl:j=ks.length:=ω
      have e:(dV ks).take ks.length=dV ks:=List.take_of_length_le (by rw[Le];exact Θ _);rw[e] at hM;have HM:=χ (ψ hM hu);clear hM hu e;go_wp2;refine bG (λW=>ae [] wr W) (by first|exact⟨rfl,rfl,rfl,Θ _,λ_ _ _=>rfl⟩|exact ν) ?_;intro W2 hW2;have oQ:=χ (ψ (HM.out.1.ag hW2) (HM.out.2.trans (hW2.mono σ)));clear HM hW2
      go_loopw [8,9] (λv8 v9 wr=>∃(j m:Nat) (a2:Option Addr) (c2:Nat) (st':Nat) (S':TS),m=2*j/\j<=(dE A ks).length/\v9=.int .i64 (m:Int)/\v8=.slice a2 j c2/\wr.ownsRow W2.heap.size 3 1 (.slice a2 j c2) j (bz (dV ((dE A ks).take j)))/\gX wr B F gt ct A st' S' ai/\Oa A (gK S x (dV ks)) S' l ((dE A ks).take j++ks.drop m)/\ae [B.ba,B.c] W2 wr) (λ_ v9 _=>ks.length+2-(intOf v9).toNat)
      case atStart=>exact⟨0,0,none,0,st,_,rfl,Nat.zero_le _,rfl,rfl,⟨rfl,Α ⟨rfl,rfl⟩⟩,oQ.out.1,by simpa using HS.out,ae.refl _ _⟩
      case round=>
        obtain⟨j,m,a2,c2,st',S',hm,hj,rfl,rfl,ho2,hM,hF,hu⟩:=hrel;rename World=>wr;have htl:=uz A ks;have hos:=hu.size;have hbl:∀z,z∈B.blk F gt->z<W2.heap.size:=oQ.out.1.lt;have hgb:∀g,g∈(Value.slice a2 j c2).ownBlock.toList->W2.heap.size<=g:=λg hg=>(ho2.lt g (Option.mem_toList.1 hg)).1;have Ra:B.ba<W2.heap.size/\B.c<W2.heap.size:=⟨hbl _ (by simp[PB.blk]),hbl _ (by simp[PB.blk,hM.cF])⟩;have HG:=χ (ψ hbl hgb);have hw1:ae [B.ba,B.c] w1 wr:=(oQ.out.2.mono σ).trans hu
        by_cases PM:m<ks.length
        · have hmI:decide ((m:Int)<(ks.length:Int))=true:=ζ
          have hjb:j<=65536:=ω;have hwr:IntKind.i64.wrap ((m:Int)+1)=(m:Int)+1:=Μ _ ω
          by_cases hlast:m+1=ks.length
          · obtain⟨t,l1,l2,l3,l4⟩:=Ox A (l:=ks) (j:=j) ω
            rw[←hm] at l1 l2;have hro:=(ou l2).2;obtain⟨g,rfl,hg1,hg2,hgc⟩:=QH.cell HO.out.1 hro;have hgr:wr.cell? ⟨g,m,none⟩=some (.int .i64 t.root):=hw1.kept (hgc w1 (ae.refl _ _)) (by simp;have:=hn0.2.2 _ hM.cF;omega);have hqI:((m:Int)+1 == (ks.length:Int))=true:=ζ;have HL:=χ (ψ hM (ψ hF (ψ hu (ψ l1 (ψ l3 (ψ l4 (ψ hm htl)))))));clear hM hF hu hw1 l1 l2 l3 l4 hro hgc hm htl hlast hbl hgb Ra
            go_wp2_with (first
              |((at_builtin;refine bI rfl _ _ 77 rfl W2.heap.size 3 (.int .i64 0) 1 8 underlying77 gI rfl δ _ _ _ rfl (ho2) [.int .i64 t.root] rfl (by simp[Value.oneCell']) (by first|rfl|(rw[Κ];rfl)) μ ω (ω) ?_;intro v2 w2 ho3 hu3 nC);obtain⟨a3,c3,rfl,hc3⟩:=aV ho3)
              | fail)
            go_roundw
            case rel=>
              obtain⟨hM,hF,hu,l1,l3,l4,hm,htl⟩:=HL.out;refine⟨j+1,m+2,a3,c3,st',S',ω,ω,by go_num,rfl,?_,hM.upd hu3 (λg hg hb=>by have:=HG.out.1 g hb;have:=HG.out.2 g hg;omega),?_,hu.joined hu3 (λg hg=>Β (HG.out.2 g hg))⟩
              · rw[l3,vL,dO];exact ho3
              · rw[show m+2=2*(j+1) by omega,l4,l3,Υ,←l1];exact hF
            case measure=>simp[intOf];omega
          · obtain⟨ta,tb,r,l1,l2,l2b,l3,l4⟩:=Qw A (l:=ks) (j:=j) ω
            rw[←hm] at l1 l2 l2b;have hroa:=(ou l2).2;have hrob:=(ou l2b).2;obtain⟨g,rfl,hg1,hg2,hgc⟩:=QH.cell HO.out.1 hroa;obtain⟨g',e', -, -,hgc'⟩:=QH.cell HO.out.1 hrob;cases e';have aaW:g∉[B.ba,B.c]:=by simp;have:=hn0.2.2 _ hM.cF;omega
            have hgr:wr.cell? ⟨g,m,none⟩=some (.int .i64 ta.root):=hw1.kept (hgc w1 (ae.refl _ _)) aaW;have hgr':wr.cell? ⟨g,m+1,none⟩=some (.int .i64 tb.root):=hw1.kept (hgc' w1 (ae.refl _ _)) aaW;have hqI:((m:Int)+1 == (ks.length:Int))=false:=ζ;have hm1:m+1<ks.length:=ω;have hm1I:(m:Int)+1<(ks.length:Int):=ω;have hm0I:(0:Int)<=(m:Int)+1:=ω;rw[l1] at hF;obtain⟨t1,t2,t3,t4,t5,t6⟩:=hF.fo.two;have kl:=λW (hW:ae [] wr W)=>vg (hM.ag hW) ta tb t1 t2 t3 t4 t5 t6;have HL:=χ (ψ hF (ψ hu (ψ l3 (ψ l4 (ψ hm htl)))))
            clear hM hF hu hw1 l1 l2 l2b l3 l4 hroa hrob hgc hgc' hm htl hlast hbl hgb t1 t2 t3 t4 t5 t6 aaW;have hcb:∀k,(Value.slice a2 j c2).ownBlock=some k->k∉[B.ba,B.c]:=λk hk=>by have:=HG.out.2 k (Option.mem_toList.2 hk);simp;omega
            have HC:=χ hcb;clear hcb
            go_upto_region 14 with(fail)
            go_region_law (first
              |(go_simp;go_at_call 205;(with_reducible refine(kl _ β).mono ?_);rintro e w3 ⟨rfl,Wq,st3,S3,jo,Cg,hf3⟩;(have hu3:ae [B.ba,B.c] wr w3:=ae.trans β Wq);(have ho3:=ak ho2 hu3 HC.out);(have hos3:=hu3.size))
              | (refine ny rfl _ _ 77 rfl W2.heap.size 3 (.int .i64 0) 1 8 underlying77 gI rfl δ (.slice a2 j c2) j (bz (dV ((dE A ks).take j))) rfl (ho3.alloc _) w3.heap.size [.int .i64 (dH A ta tb).root] rfl rfl (λi u hi=>oK w3 [.int .i64 (dH A ta tb).root] 3 i u hi) (by simp [Value.oneCell']) μ ω ζ ?_
                 intro v2 w2 ho4 hu4a hv2;have fU:ae (Value.slice a2 j c2).ownBlock.toList w3 w2:=ae.trans ((ae.refl _ _).alloc _) hu4a
                 obtain ⟨a3,c3,rfl,hc3⟩:=aV ho4)
              | fail)
            all_goals
              go_wp2
              go_roundw
              case rel=>
                obtain⟨hF,hu,l3,l4,hm,htl⟩:=HL.out;refine⟨j+1,m+2,a3,c3,st3,S3,ω,ω,by go_num,rfl,?_,jo.upd fU (λg hg hb=>by have:=HG.out.1 g hb;have:=HG.out.2 g hg;omega),?_,(hu.trans hu3).joined fU (λg hg=>Β (HG.out.2 g hg))⟩
                · rw[l4,vL,dO];exact ho4
                · rw[show m+2=2*(j+1) by omega,←l3,l4,ϋ];exact hF.link Cg hf3
              case measure=>simp[intOf];omega
        · have hmI:decide ((m:Int)<(ks.length:Int))=false:=ζ
          have hjl:j=(dE A ks).length:=ω;have hdr:ks.drop m=[]:=List.drop_eq_nil_of_le ω;rw[Tj A ω] at ho2 hF;rw[hdr,Υ] at hF;have htn:(dE A ks).length<=65536:=ω;generalize htw:dE A ks=tw at *;subst hjl;have hF2:=hF.nil;have HL:=χ (ψ hM (ψ hF2 (ψ hw1 htw)));have HO2:=χ ho2;clear hM hF hu hw1 hF2 ho2 hdr hm hj htl hbl hgb htw;go_wp2;refine bG (λW=>ae [] wr W) (by first|exact⟨rfl,rfl,rfl,Θ _,λ_ _ _=>rfl⟩|exact ν) ?_;intro W3 hW3;have HW3:=χ hW3;clear hW3
          go_loopw [10,11] (λv10 v11 wr3=>∃(i st3:Nat) (S3:TS),i<=tw.length/\v11=.int .i64 ((i:Int)-1)/\v10=.int .i64 (gF A (tw.drop i)).root/\gX wr3 B F gt ct A st3 S3 ai/\Oa A (gK S x (dV ks)) S3 l (tw.take i++[gF A (tw.drop i)])/\ae [B.ba,B.c] W3 wr3) (λ_ v11 _=>((intOf v11)+1).toNat)
          case atStart=>
            have e1:tw.drop tw.length=[]:=List.drop_length;have e2:tw.take tw.length=tw:=List.take_length;refine⟨tw.length,st',S',Θ _,by go_num,by rw[e1];rfl,HL.out.1.ag HW3.out,?_,ae.refl _ _⟩;rw[e1,e2];exact HL.out.2.1
          case round=>
            obtain⟨i,st3,S3,hi,hz,rfl,hM,hF,hu⟩:=hrel;rename World=>wr3;cases i with
            |zero=>
              have hz2:((0:Nat):Int)-1=-1:=rfl;rw[hz2] at hz;subst hz;rw[List.drop_zero,List.take_zero,ϛ] at hF;simp only[List.drop_zero];have HR:=χ (ψ hM (ψ hF hu));clear hM hF hu;go_wp2;go_ret;obtain⟨hM,hF,hu⟩:=HR.out;have htw:=HL.out.2.2.2;subst htw;have hc:=hM.cF;have v1:ae [B.ba,B.c] w1 wr3:=(HL.out.2.2.1.trans (HW3.out.mono σ)).trans hu;exact⟨rfl,(HO.out.2.2.mono (by simp +contextual)).trans (v1.mono (by simp[hc])),st3,S3,hM,(show Oa A (gK S x (dV (bR l))) _ l [gF A (dE A ks)] by rw[hks];exact hF).done HK.out.2.1⟩
            |succ i0=>
              have hz2:((i0+1:Nat):Int)-1=(i0:Int):=ω;rw[hz2] at hz;subst hz;have hil:i0<tw.length:=ω;obtain⟨q1,q2⟩:=Ph A hil;have hro:=(ou (ε hil)).2;obtain⟨g,rfl,hg1,hg2,hgc⟩:=QH.cell HO2.out hro;have hgr:wr3.cell? ⟨g,i0,none⟩=some (.int .i64 (tw[i0]).root):=hu.kept (hgc W3 HW3.out) ζ;rw[q1,ϋ] at hF;obtain⟨t1,t2,t3,t4,t5,t6⟩:=hF.fo.two;have kl:=vg hM tw[i0] (gF A (tw.drop (i0+1))) t1 t2 t3 t4 t5 t6;rw[←q2] at kl;have HR:=χ (ψ hF (ψ hu q2));clear hM hF hu hgc hro q1 q2 t1 t2 t3 t4 t5 t6;generalize Cf:tw[i0]=ta at *;generalize htb:gF A (tw.drop (i0+1))=tb at *
              go_wp2_with (first
                |(go_at_call 205;(with_reducible refine(kl).mono ?_);rintro e w3 ⟨rfl,hu3,YE,S4,sM,Q0,hf4⟩)
                | fail)
              go_roundw
              case rel=>
                obtain⟨hF,hu,q2⟩:=HR.out;refine⟨i0,YE,S4,ω,by go_num,rfl,sM,?_,hu.trans hu3⟩;rw[q2] at Q0 ⊢;exact hF.link Q0 hf4
              case measure=>first|(simp[intOf];done)|(simp[intOf];omega)
end
theorem IL(S:TS)(p x:Nat)(s:Bool)(hpx:p≠x)(h:S.r x=-1):∀z,(jW S p s x).l z=(((S.aK p s (-1)).aK x true (-1)).dC x (-1)).l z/\(jW S p s x).r z=(((S.aK p s (-1)).aK x true (-1)).dC x (-1)).r z/\(jW S p s x).u z=(((S.aK p s (-1)).aK x true (-1)).dC x (-1)).u z:=λz=>by
 unfold jW TS.aK TS.dC;rw[h];have:¬(z:Int)=-1:=ω;cases s<;>simp[this]
theorem Ii(S:TS)(p x o:Nat)(s:Bool)(hpx:p≠x)(h:S.r x=o):∀z,(jW S p s x).l z=((((S.aK p s o).dC o p).aK x true (-1)).dC x (-1)).l z/\(jW S p s x).r z=((((S.aK p s o).dC o p).aK x true (-1)).dC x (-1)).r z/\(jW S p s x).u z=((((S.aK p s o).dC o p).aK x true (-1)).dC x (-1)).u z:=λz=>by
 unfold jW TS.aK TS.dC;rw[h];have:((z:Int)=(o:Int))=(z=o):=propext ⟨λh=>ω,λh=>ω⟩;simp only[this];cases s<;>simp
section
variable{w:World}{B:PB}{F:List Nat}{gt ct:Nat}{A:NS}{st:Nat}{S:TS}{ai:List Int}
theorem XD(h:gX w B F gt ct A st S ai)(p x:Nat)(hp:p<A.cs.length)(hx:x<A.cs.length)(hpx:p≠x)(hkl:S.l p=x)(hu:S.u x=p)(ho:S.r x=-1) :
  Calls prog 204 #[.pointer (some ⟨B.n0,0,none⟩),.int .i64 (x:Int)] w λe w'=>e=.returned (.tuple #[])/\gX w' B F gt ct A st (jW S p false x) ai/\ae [B.ba] w w':=by
 have c1:=h.h1;have dl:=h.l p hp;have dr:=h.r x hx;have du:=h.u x hx;rw[hu] at du;have ff:=h.f;have Yv:=ff (p*3);have CE:(x:Int)<(A.cs.length:Int):=ω;have hpI:(p:Int)<(A.cs.length:Int):=ω;have HM:=χ h;clear h ff;rw[hkl] at dl;have HE:=χ (IL S p x false hpx ho);rw[ho] at dr;have HQ:=χ (show(S.aK p false (-1)).r x=-1/\S.u x=p from⟨by unfold TS.aK;(have hxp:¬x=p:=λe=>hpx e.symm);simpa[hxp] using ho,hu⟩);clear ho hu hkl;generalize S.l p=slp at *
 go_enter func204,ntmps204
 go_upto_region 1 with(fail)
 go_quiet (fail)
 go_upto_region 2 with(fail)
 go_cut [] (λW=>ae [] (w.setCell ⟨B.ba,p*3,none⟩ (.int .i64 (-1))) W)
 case first=>
  go_region_law (fail)
  all_goals
   go_wp2
   go_meet
   first|exact⟨rfl,rfl,rfl,Θ _,λ_ _ _=>rfl⟩|exact ν
 case rest=>
  have hW:=hcut;clear hcut;rename World=>W;have jq:=(HM.out.LC p (-1)).ag hW;have e2:=jq.r x hx;rw[HQ.out.1] at e2;have e3:=jq.u x hx;rw[Ej,HQ.out.2] at e3;have e6:=jq.f (x*3+1);have e7:=jq.f (x*3+2);have eu:ae [B.ba] w W:=ae.trans β (hW.mono σ);have HW:=χ (ψ jq eu);clear jq hW eu c1 dl dr du Yv;go_wp2;go_end0;refine⟨rfl,gX.ext (((HW.out.1.cO x (-1)).uf x (-1)).ag ?_) HE.out,HW.out.2.trans ?_⟩
  ·first|exact⟨rfl,rfl,rfl,Θ _,λ_ _ _=>rfl⟩|exact ν
  ·exact β
end
section
variable{w:World}{B:PB}{F:List Nat}{gt ct:Nat}{A:NS}{st:Nat}{S:TS}{ai:List Int}
theorem Ye(h:gX w B F gt ct A st S ai)(p x:Nat)(hp:p<A.cs.length)(hx:x<A.cs.length)(hpx:p≠x)(hkl:S.l p=x)(hu:S.u x=p)(o:Nat)(xk:S.r x=o)(hol:o<A.cs.length)(hop:o≠p)(hox:o≠x) :
  Calls prog 204 #[.pointer (some ⟨B.n0,0,none⟩),.int .i64 (x:Int)] w λe w'=>e=.returned (.tuple #[])/\gX w' B F gt ct A st (jW S p false x) ai/\ae [B.ba] w w':=by
 have c1:=h.h1;have dl:=h.l p hp;have dr:=h.r x hx;have du:=h.u x hx;rw[hu] at du;have ff:=h.f;have Yv:=ff (p*3);have hsep:=h.sep;have hn1:¬B.n0=B.ba:=hsep.1;have hn2:¬B.ba=B.n0:=λe=>hsep.1 e.symm;have CE:(x:Int)<(A.cs.length:Int):=ω;have hpI:(p:Int)<(A.cs.length:Int):=ω;have m1:¬x*3+1=p*3:=ω;have m2:¬x*3+1=p*3+1:=ω;have m3:¬x*3+2=p*3:=ω;have m4:¬x*3+2=p*3+1:=ω;have m5:¬p*3=x*3+1:=ω;have m6:¬p*3=x*3+2:=ω;have m7:¬p*3+1=x*3+1:=ω;have m8:¬p*3+1=x*3+2:=ω;have HM:=χ h;clear h ff hsep;rw[hkl] at dl;have HE:=χ (Ii S p x o false hpx xk);rw[xk] at dr;have I6:((o:Int) != -1)=true:=σ
 have hoI:(o:Int)<(A.cs.length:Int):=ω;have k1:¬o*3+2=p*3:=ω;have k2:¬o*3+2=p*3+1:=ω;have k3:¬x*3+1=o*3+2:=ω;have k4:¬x*3+2=o*3+2:=ω;have k5:¬o*3+2=x*3+1:=ω;have k6:¬o*3+2=x*3+2:=ω;have HQ:=χ (show(S.aK p false (o:Int)).r x=o/\S.u x=p from⟨by unfold TS.aK;(have hxp:¬x=p:=λe=>hpx e.symm);simpa[hxp] using xk,hu⟩);clear xk hu hkl;generalize S.l p=slp at *
 go_enter func204,ntmps204
 go_upto_region 1 with(fail)
 go_quiet (fail)
 go_upto_region 2 with(fail)
 go_cut [] (λW=>ae [] (w.setCell ⟨B.ba,p*3,none⟩ (.int .i64 (o:Int))) W)
 case first=>
  go_region_law (fail)
  all_goals
   go_wp2
   go_meet
   first|exact⟨rfl,rfl,rfl,Θ _,λ_ _ _=>rfl⟩|exact ν
 case rest=>
  have hW:=hcut;clear hcut;rename World=>W;have jq:=(HM.out.LC p (o:Int)).ag hW;have e1:=jq.h1;have e2:=jq.r x hx;rw[HQ.out.1] at e2;have e3:=jq.u x hx;rw[Ej,HQ.out.2] at e3;have e4:=jq.u o hol;have e5:=jq.f (o*3+2);have e6:=jq.f (x*3+1);have e7:=jq.f (x*3+2);have eu:ae [B.ba] w W:=ae.trans β (hW.mono σ);have HW:=χ (ψ jq eu);clear jq hW eu c1 dl dr du Yv
  go_upto_region 5 with(fail)
  go_region_law (fail)
  all_goals
   go_wp2;go_end0;refine⟨rfl,gX.ext ((((HW.out.1.uf o p).cO x (-1)).uf x (-1)).ag ?_) HE.out,HW.out.2.trans ?_⟩
   ·first|exact⟨rfl,rfl,rfl,Θ _,λ_ _ _=>rfl⟩|exact ν
   ·exact β
end
section
variable{w:World}{B:PB}{F:List Nat}{gt ct:Nat}{A:NS}{st:Nat}{S:TS}{ai:List Int}
theorem XG(h:gX w B F gt ct A st S ai)(p x:Nat)(hp:p<A.cs.length)(hx:x<A.cs.length)(hpx:p≠x)(hkr:S.r p=x)(hkl:S.l p≠x)(hu:S.u x=p)(ho:S.r x=-1) :
  Calls prog 204 #[.pointer (some ⟨B.n0,0,none⟩),.int .i64 (x:Int)] w λe w'=>e=.returned (.tuple #[])/\gX w' B F gt ct A st (jW S p true x) ai/\ae [B.ba] w w':=by
 have c1:=h.h1;have dl:=h.l p hp;have dr:=h.r x hx;have du:=h.u x hx;rw[hu] at du;have ff:=h.f;have ff2:=ff (p*3+1);have cpr:=h.r p hp;have CE:(x:Int)<(A.cs.length:Int):=ω;have hpI:(p:Int)<(A.cs.length:Int):=ω;have HM:=χ h;clear h ff;have hq:(S.l p == (x:Int))=false:=by simpa using hkl
 have HE:=χ (IL S p x true hpx ho);rw[ho] at dr;have HQ:=χ (show(S.aK p true (-1)).r x=-1/\S.u x=p from⟨by unfold TS.aK;(have hxp:¬x=p:=λe=>hpx e.symm);simpa[hxp] using ho,hu⟩);clear ho hu hkl hkr;generalize S.l p=slp at *
 go_enter func204,ntmps204
 go_upto_region 1 with(fail)
 go_quiet (fail)
 go_upto_region 3 with(fail)
 go_cut [] (λW=>ae [] (w.setCell ⟨B.ba,p*3+1,none⟩ (.int .i64 (-1))) W)
 case first=>
  go_region_law (fail)
  all_goals
   go_wp2
   go_meet
   first|exact⟨rfl,rfl,rfl,Θ _,λ_ _ _=>rfl⟩|exact ν
 case rest=>
  have hW:=hcut;clear hcut;rename World=>W;have jq:=(HM.out.cO p (-1)).ag hW;have e2:=jq.r x hx;rw[HQ.out.1] at e2;have e3:=jq.u x hx;rw[Ej,HQ.out.2] at e3;have e6:=jq.f (x*3+1);have e7:=jq.f (x*3+2);have eu:ae [B.ba] w W:=ae.trans β (hW.mono σ);have HW:=χ (ψ jq eu);clear jq hW eu c1 dl dr du ff2 cpr;go_wp2;go_end0;refine⟨rfl,gX.ext (((HW.out.1.cO x (-1)).uf x (-1)).ag ?_) HE.out,HW.out.2.trans ?_⟩
  ·first|exact⟨rfl,rfl,rfl,Θ _,λ_ _ _=>rfl⟩|exact ν
  ·exact β
end
section
variable{w:World}{B:PB}{F:List Nat}{gt ct:Nat}{A:NS}{st:Nat}{S:TS}{ai:List Int}
theorem Xd(h:gX w B F gt ct A st S ai)(p x:Nat)(hp:p<A.cs.length)(hx:x<A.cs.length)(hpx:p≠x)(hkr:S.r p=x)(hkl:S.l p≠x)(hu:S.u x=p)(o:Nat)(xk:S.r x=o)(hol:o<A.cs.length)(hop:o≠p)(hox:o≠x) :
  Calls prog 204 #[.pointer (some ⟨B.n0,0,none⟩),.int .i64 (x:Int)] w λe w'=>e=.returned (.tuple #[])/\gX w' B F gt ct A st (jW S p true x) ai/\ae [B.ba] w w':=by
 have c1:=h.h1;have dl:=h.l p hp;have dr:=h.r x hx;have du:=h.u x hx;rw[hu] at du;have ff:=h.f;have ff2:=ff (p*3+1);have cpr:=h.r p hp;have hsep:=h.sep;have hn1:¬B.n0=B.ba:=hsep.1;have hn2:¬B.ba=B.n0:=λe=>hsep.1 e.symm;have CE:(x:Int)<(A.cs.length:Int):=ω;have hpI:(p:Int)<(A.cs.length:Int):=ω;have m1:¬x*3+1=p*3:=ω;have m2:¬x*3+1=p*3+1:=ω;have m3:¬x*3+2=p*3:=ω;have m4:¬x*3+2=p*3+1:=ω;have m5:¬p*3=x*3+1:=ω;have m6:¬p*3=x*3+2:=ω;have m7:¬p*3+1=x*3+1:=ω;have m8:¬p*3+1=x*3+2:=ω;have HM:=χ h;clear h ff hsep;have hq:(S.l p == (x:Int))=false:=by simpa using hkl
 have HE:=χ (Ii S p x o true hpx xk);rw[xk] at dr;have I6:((o:Int) != -1)=true:=σ;have hoI:(o:Int)<(A.cs.length:Int):=ω;have k1:¬o*3+2=p*3:=ω;have k2:¬o*3+2=p*3+1:=ω;have k3:¬x*3+1=o*3+2:=ω;have k4:¬x*3+2=o*3+2:=ω;have k5:¬o*3+2=x*3+1:=ω;have k6:¬o*3+2=x*3+2:=ω;have HQ:=χ (show(S.aK p true (o:Int)).r x=o/\S.u x=p from⟨by unfold TS.aK;(have hxp:¬x=p:=λe=>hpx e.symm);simpa[hxp] using xk,hu⟩);clear xk hu hkl hkr;generalize S.l p=slp at *
 go_enter func204,ntmps204
 go_upto_region 1 with(fail)
 go_quiet (fail)
 go_upto_region 3 with(fail)
 go_cut [] (λW=>ae [] (w.setCell ⟨B.ba,p*3+1,none⟩ (.int .i64 (o:Int))) W)
 case first=>
  go_region_law (fail)
  all_goals
   go_wp2
   go_meet
   first|exact⟨rfl,rfl,rfl,Θ _,λ_ _ _=>rfl⟩|exact ν
 case rest=>
  have hW:=hcut;clear hcut;rename World=>W;have jq:=(HM.out.cO p (o:Int)).ag hW;have e1:=jq.h1;have e2:=jq.r x hx;rw[HQ.out.1] at e2;have e3:=jq.u x hx;rw[Ej,HQ.out.2] at e3;have e4:=jq.u o hol;have e5:=jq.f (o*3+2);have e6:=jq.f (x*3+1);have e7:=jq.f (x*3+2);have eu:ae [B.ba] w W:=ae.trans β (hW.mono σ);have HW:=χ (ψ jq eu);clear jq hW eu c1 dl dr du ff2 cpr
  go_upto_region 5 with(fail)
  go_region_law (fail)
  all_goals
   go_wp2;go_end0;refine⟨rfl,gX.ext ((((HW.out.1.uf o p).cO x (-1)).uf x (-1)).ag ?_) HE.out,HW.out.2.trans ?_⟩
   ·first|exact⟨rfl,rfl,rfl,Θ _,λ_ _ _=>rfl⟩|exact ν
   ·exact β
end
section
variable{w:World}{B:PB}{F:List Nat}{gt ct:Nat}{A:NS}{st:Nat}{S:TS}{ai:List Int}
theorem Oi(h:gX w B F gt ct A st S ai)(p x:Nat)(s:Bool)(hp:p<A.cs.length)(hx:x<A.cs.length)(hpx:p≠x)(hk:S.kid s p=x)(hs:s=true->S.l p≠x)(hu:S.u x=p)(hr:S.r x=-1\/(0<=S.r x/\S.r x<A.cs.length))(hrp:S.r x≠p)(hrx:S.r x≠x) :
  Calls prog 204 #[.pointer (some ⟨B.n0,0,none⟩),.int .i64 (x:Int)] w λe w'=>e=.returned (.tuple #[])/\gX w' B F gt ct A st (jW S p s x) ai/\ae [B.ba] w w':=by
 cases s with
 |false=>
  by_cases ho:S.r x=-1
  ·exact XD h p x hp hx hpx hk hu ho
  ·obtain⟨o,xk⟩:∃o:Nat,S.r x=o:=⟨(S.r x).toNat,ω⟩;exact Ye h p x hp hx hpx hk hu o xk ω (λe=>hrp (by rw[xk,e])) (λe=>hrx (by rw[xk,e]))
 |true=>
  by_cases ho:S.r x=-1
  ·exact XG h p x hp hx hpx hk (hs rfl) hu ho
  ·obtain⟨o,xk⟩:∃o:Nat,S.r x=o:=⟨(S.r x).toNat,ω⟩;exact Xd h p x hp hx hpx hk (hs rfl) hu o xk ω (λe=>hrp (by rw[xk,e])) (λe=>hrx (by rw[xk,e]))
end
section
variable{w:World}{B:PB}{F:List Nat}{gt ct:Nat}{A:NS}{st:Nat}{tr:Nat->BT}
theorem gX.aa4{S:TS}{ai:List Int}(h:gX w B F gt ct A st S ai):B.n0∉[B.ba,B.c,gt]/\gt∉[B.ba,B.c]:=by
 have a1:=h.sep;have a2:B.n0≠B.c:=λe=>h.bS.1 (by rw[e];exact h.cF);have a3:gt≠B.c:=λe=>h.bS.2.2 (by rw[e];exact h.cF);constructor<;>simp<;>omega
theorem EX(h:lT w B F gt ct A st tr)(hh x:Nat)(k s:Int)(hk:-9223372036854775808<=k/\k<=9223372036854775807/\0<=s/\s<=18446744073709551615)(hB:rG A hh x=true) :
  Calls prog 200 #[.pointer (some ⟨B.n0,0,none⟩),.int .i64 (hh:Int),.int .i64 (x:Int),.agg #[.int .i64 k,.int .u64 s]] w λe w'=>e=.returned (.bool true)/\ae (B.blk F gt) w w'/\
   ∃st',lT w' B F gt ct (aO A hh x k s) st' (λq=>if q=hh then dH (aO A hh x k s) (tr hh) (single x) else tr q):=by
 obtain⟨S,ai,hM,hI,hL⟩:=h;have hlt:=hM.lt;have ok:=hM.cells.ok;obtain⟨b1,b2,b3⟩:=(fP _ _ _).1 hB;have b4:=(aC _ _).1 b1;have hx:x<A.cs.length:=by have:=(ic _ _).1 b2;omega
 have QX:(A.c x).i=0:=by
  have:=(ok.nat x hx).1;have h3:¬(0<(A.c x).i):=λh'=>by rw[(aj A x).2 ⟨hx,h'⟩] at b3;cases b3
  omega
 have hcs:(aO A hh x k s).cs.length=A.cs.length:=by unfold aO;rw[Δ hB,fO]
 have jd:(aO A hh x k s).hs.length=A.hs.length:=by unfold aO;rw[Δ hB];rfl
 have hcx:∀y,(aO A hh x k s).c y=if y=x then⟨hh,k,s⟩ else A.c y:=λy=>by
  unfold aO;rw[Δ hB,π,lg]
  by_cases e:y=x
  ·rw[Δ ⟨e,hx⟩,Δ e]
  ·rw[Γ (λh=>e h.1),Γ e]
 have wM:x∉(tr hh).nodes:=hI.out QX;have hX:((tr hh).nodes++(single x).nodes).Nodup:=by
  rw[θ];refine⟨hI.nd hh,by simp[single,BT.nodes],λa ha b hb e=>?_⟩;simp only[single,BT.nodes,Υ,ϓ] at hb;exact wM (by rw[←hb,←e];exact ha)
 have hin:∀y,y∈(tr hh).nodes++(single x).nodes->bY (aO A hh x k s) (y:Int)=true:=λy hy=>by
  rw[aj,hcs,hcx];simp only[single,BT.nodes,Υ,τ,ϓ] at hy
  by_cases e:y=x
  ·rw[Δ e,e];exact⟨hx,by show(0:Int)<(hh:Int);omega⟩
  ·rw[Γ e];have:=(hI.mem hh y).1 (hy.resolve_right e);exact⟨this.2.1,ω⟩
 have Yy:eU (aO A hh x k s) (tr hh):=eU.frame (hI.heap hh) (λy hy=>by rw[hcx,Γ (λe=>wM (by rw[←e];exact hy))]);have mp:=j4 (aO A hh x k s) (hL hh) (show Lone (single x) from rfl);have ml:=lV (aO A hh x k s) (hL hh) (show Lone (single x) from rfl);have mh:=nR (hL hh) (show Lone (single x) from rfl) Yy (show eU (aO A hh x k s) (single x) from⟨by simp[BT.nodes],trivial,trivial⟩) hX;have hfr:=hI.free x hx QX;have hLh:=hL hh
 have FI:Hid (∀ (W:World) (S':TS) (st':Nat),gX W B F gt ct (aO A hh x k s) st' S' (ai.set hh (dH (aO A hh x k s) (tr hh) (single x)).root)->dL S' (-1) (dH (aO A hh x k s) (tr hh) (single x)).root (dH (aO A hh x k s) (tr hh) (single x))->
   (∀y,y∉(tr hh).nodes++(single x).nodes->S.at S' y)->lT W B F gt ct (aO A hh x k s) st' (λq=>if q=hh then dH (aO A hh x k s) (tr hh) (single x) else tr q)):=λW S' st' a1 a2 a4=>by
  refine⟨S',_,a1,hI.put ok hM.iJ hB a2 mp mh a4,λq=>?_⟩
  show Lone (if q=hh then _ else _)
  split
  ·exact ml
  ·exact hL q
 have YF:=hI.zG hh;have htop:=hI.top hh ω;have hgn:hh<ai.length:=by rw[hM.iJ];omega
 have u1:ae [] w (w.alloc (.cells #[.int .i64 k,.int .u64 s] 97)):=(ae.refl _ _).alloc _;have kp:=λW (hW:ae [] (w.alloc (.cells #[.int .i64 k,.int .u64 s] 97)) W)=>og (hM.cells.ag (u1.trans hW)) hh x k s hk hB;have h0:=hM.h0;have wN:B.n0∉F:=hM.bS.1;have hsz:w.heap.size∉F:=λhm=>by have:=hlt w.heap.size (by simp[PB.blk,hm]);omega
 have r0:∀W,ae F (w.alloc (.cells #[.int .i64 k,.int .u64 s] 97)) W->W.cell? ⟨B.n0,0,none⟩=some (.pointer (some ⟨B.c,0,none⟩)):=λW hW=>hW.kept (u1.was h0) wN;have r1:∀W,ae F (w.alloc (.cells #[.int .i64 k,.int .u64 s] 97)) W->W.cell? ⟨w.heap.size,0,none⟩=some (.int .i64 k):=λW h=>h.kept σ hsz;have r2:∀W,ae F (w.alloc (.cells #[.int .i64 k,.int .u64 s] 97)) W->W.cell? ⟨w.heap.size,1,none⟩=some (.int .u64 s):=λW h=>h.kept σ hsz;have HM:=χ hM;have HH:=χ (ψ hX (ψ hin (ψ YF (ψ hLh hfr))));clear hM hI hL ok b1 b2 b3 QX hcx wM hX hin Yy mp mh ml hfr h0 hlt YF hLh
 generalize hA':aO A hh x k s=A' at *;generalize htr:tr hh=th at *
 go_enter func200,ntmps200
 go_wp2
 go_region_held3 (ae F (w.alloc (.cells #[.int .i64 k,.int .u64 s] 97))) (exact ν)
  ((go_at_call 138;(with_reducible refine(kp _ β).mono ?_);rintro e w1 ⟨rfl,gG,hu1⟩;(have hu2:ae F (w.alloc (.cells #[.int .i64 k,.int .u64 s] 97)) w1:=ν)))
 have uF:ae F w (w.alloc (.cells #[.int .i64 k,.int .u64 s] 97)):=u1.mono σ;have hM1:=HM.out.cB (uF.trans hu2) gG (λy hy=>Α hy) hcs jd;have hw1:ae F w w1:=uF.trans hu2;clear r0 r1 r2 kp hu1 hu2 gG uF;have km:=λW (hW:ae [] w1 W)=>vg (hM1.ag hW) th (single x) HH.out.2.2.1 (wH HH.out.2.2.2.2) HH.out.2.2.2.1 rfl HH.out.1 HH.out.2.1;rw[show(single x).root=(x:Int) from rfl] at km;have d4:=hM1.iG.cell hh hgn;rw[htop] at d4;have f4:=hM1.iG.free hh;have h3:=hM1.h2;obtain⟨wJ,hgc⟩:=hM1.aa4
 have r3:∀W,ae [B.ba,B.c] w1 W->W.cell? ⟨B.n0,2,none⟩=some (.slice (some ⟨gt,0,none⟩) ai.length ct):=λW hW=>hW.kept h3 (λhm=>wJ (by simp at hm ⊢;omega));have r4:∀W,ae [B.ba,B.c] w1 W->W.cell? ⟨gt,hh,none⟩=some (.int .i64 th.root)/\W.frozen? ⟨gt,hh,none⟩=false:=λW hW=>⟨hW.kept d4 hgc,hW.aM d4 hgc f4⟩
 have BF:(0:Int)<=(hh:Int):=ω;have CB:(hh:Int)<(ai.length:Int):=ω;generalize hmt:dH A' th (single x)=mt at *;clear hM1 f4 h3 wJ hgc;have q3:=r3 _ (ae.refl _ _);go_wp2
 go_region_law
  (first
   | (go_simp;go_at_call 205;(with_reducible refine (km _ β).mono ?_);rintro e w5 ⟨rfl,pW,U5,S5,vQ,CZ,hs5⟩;(have bW:ae [B.ba,B.c] w1 w5:=ae.trans β pW);obtain ⟨d5,f5⟩:=r4 _ bW))
 all_goals
  go_wp2;go_ret;have oC:=HM.out.cF;have v1:ae (B.blk F gt) w w1:=hw1.mono (λy hy=>by simp only[PB.blk,ρ];simp[hy])
  have v3:ae (B.blk F gt) w w5:=v1.trans (bW.mono (λy hy=>by
   simp only[ρ,ς,or_false] at hy;simp only[PB.blk,ρ];rcases hy with rfl|rfl
   ·simp
   ·simp [oC]))
  subst hmt;exact⟨rfl,v3.setCell (Α (by simp[PB.blk])) _,U5,FI.out _ S5 U5 (vQ.mg hh _) CZ hs5⟩
end
theorem qz{P:List Fr}{t:BT}{y:Nat}:y∈(au P t).nodes↔y∈t.nodes\/y∈eH P:=by
 rw[(aW P t).mem_iff,τ]
theorem Sj{S S' S'':TS}{x:Nat}(h:S.at S' x)(h':S'.at S'' x):S.at S'' x:=⟨h'.1.trans h.1,h'.2.1.trans h.2.1,h'.2.2.trans h.2.2⟩
theorem D7{A:NS}{x:Nat}{k s:Int}(hB:jf A x k s=true)(hx:x<A.cs.length){l:BT}(h:eU A (.node x l .nil))(hn:(BT.node x l .nil).nodes.Nodup):eU (aA A x k s) (.node x l .nil):=by
 simp only[BT.nodes,Υ,Ζ] at hn;have hle:=uJ hB;rw[π] at hle;have hc:=uo hB hx;have hy:∀y,y≠x->(aA A x k s).c y=A.c y:=λy e=>by rw[hc,Γ e]
 have Gm:(aA A x k s).c x=⟨(A.c x).i,k,s⟩:=by rw[hc,Δ rfl]
 refine⟨λy m=>mD (h.1 y m) (hy y (λe=>hn.1 (by rw[←e];exact m))) ?_,eU.frame h.2.1 (λy m=>hy y (λe=>hn.1 (by rw[←e];exact m))),trivial⟩;rw[Gm];exact hle
section
variable{w:World}{B:PB}{F:List Nat}{gt ct:Nat}{A:NS}{st:Nat}{S:TS}{ai:List Int}
theorem Yp(h:gX w B F gt ct A st S ai){f:Fr}{P:List Fr}{x:Nat}{l r:BT}(hT:dL S (-1) (au (f::P) (.node x l r)).root (au (f::P) (.node x l r)))(hn:(au (f::P) (.node x l r)).nodes.Nodup)(hlt:∀y,y∈(au (f::P) (.node x l r)).nodes->y<A.cs.length) :
  Calls prog 204 #[.pointer (some ⟨B.n0,0,none⟩),.int .i64 (x:Int)] w λe w'=>e=.returned (.tuple #[])/\gX w' B F gt ct A st (jW S f.1 f.2.1 x) ai/\ae [B.ba] w w':=by
 obtain⟨-, -, -,k1,k2,k3⟩:=Bb hT hn;have h1:=((fq _ _).1 hT).1;have hpn:=(aW (f::P) (.node x l r)).nodup_iff.1 hn;rw[θ] at hpn;obtain⟨n1,n2,n3⟩:=hpn;simp only[BT.nodes,Ζ,τ,not_or] at n1;have hfp:f.1∈eH (f::P):=by simp[eH]
 have hfx:f.1≠x:=λe=>n3 x (by simp[BT.nodes]) f.1 hfp e.symm;have hrn:∀z:Nat,S.r x=(z:Int)->z∈r.nodes:=λz hz=>by
  have h4:S.r x=r.root:=h1.2.2.2.root;rw[h4] at hz;have h6:r≠.nil:=λe'=>by rw[e'] at hz;simp[BT.root] at hz
  have h7:=(cz h6).1;rw[hz,π] at h7;exact h7
 have hr:=wz (n:=A.cs.length) h1.2.2.2 (λz hz=>hlt z (qz.2 (Α (by simp[BT.nodes,hz]))));exact Oi h f.1 x f.2.1 (hlt _ (qz.2 (Β hfp))) (hlt _ (qz.2 (Α (by simp[BT.nodes])))) hfx k1 k2 k3 hr (λe=>n3 f.1 (by simp[BT.nodes,hrn _ e]) f.1 hfp rfl) (λe=>n1.1.2 (hrn _ e))
theorem OM(hM:gX w B F gt ct A st S ai){g x:Nat}{k s:Int}(hk:-9223372036854775808<=k/\k<=9223372036854775807/\0<=s/\s<=18446744073709551615)(hB:jf A x k s=true)
  (hg:(A.c x).i=g) (hg0:0<g) (hgt:g<ai.length) (htop:ai.getD g 0=x) (hxl:x<A.cs.length) :
  Calls prog 197 #[.pointer (some ⟨B.n0,0,none⟩),.int .i64 (x:Int),.agg #[.int .i64 k,.int .u64 s]] w λe w'=>e=.returned (.bool true)/\ae (B.blk F gt) w w'/\gX w' B F gt ct (aA A x k s) st S ai:=by
 have hcs:=gD A x k s;have jd:=lQ A x k s;have hin':bY (aA A x k s) (x:Int)=true:=(aj _ x).2 ⟨by rw[hcs];exact hxl,by rw[iH hB hxl,hg];omega⟩;have hi':((aA A x k s).c x).i=g:=by rw[iH hB hxl,hg]
 have u1:ae [] w (w.alloc (.cells #[.int .i64 k,.int .u64 s] 97)):=(ae.refl _ _).alloc _;have kp:=λW (hW:ae [] (w.alloc (.cells #[.int .i64 k,.int .u64 s] 97)) W)=>iD (hM.cells.ag (u1.trans hW)) x k s hk hB;have h0:=hM.h0;have wN:B.n0∉F:=hM.bS.1;have hlt:=hM.lt;have hsz:w.heap.size∉F:=λhm=>by have:=hlt w.heap.size (by simp[PB.blk,hm]);omega
 have r0:∀W,ae F (w.alloc (.cells #[.int .i64 k,.int .u64 s] 97)) W->W.cell? ⟨B.n0,0,none⟩=some (.pointer (some ⟨B.c,0,none⟩)):=λW hW=>hW.kept (u1.was h0) wN;have r1:∀W,ae F (w.alloc (.cells #[.int .i64 k,.int .u64 s] 97)) W->W.cell? ⟨w.heap.size,0,none⟩=some (.int .i64 k):=λW h=>h.kept σ hsz;have r2:∀W,ae F (w.alloc (.cells #[.int .i64 k,.int .u64 s] 97)) W->W.cell? ⟨w.heap.size,1,none⟩=some (.int .u64 s):=λW h=>h.kept σ hsz;have HM:=χ hM;have HG:=χ htop;have htn:ai.length=A.hs.length:=hM.iJ;clear hM htop hlt h0 hg;generalize hA':aA A x k s=A' at *
 go_enter func197,ntmps197
 go_wp2
 go_region_held3 (ae F (w.alloc (.cells #[.int .i64 k,.int .u64 s] 97))) (exact ν)
  ((go_at_call 131;(with_reducible refine(kp _ β).mono ?_);rintro e w1 ⟨rfl,gG,hu1⟩;(have hu2:ae F (w.alloc (.cells #[.int .i64 k,.int .u64 s] 97)) w1:=ν)))
 have uF:ae F w (w.alloc (.cells #[.int .i64 k,.int .u64 s] 97)):=u1.mono σ;have hM1:=HM.out.cB (uF.trans hu2) gG (λy hy=>Α hy) hcs (by rw[jd]);have kh:=bV hM1.cells x hin';rw[hi'] at kh;have g10:=hM1.h0;have jJ:=χ hM1;have u01:=χ (uF.trans hu2);have Yo:(g:Int)<(ai.length:Int):=ω;clear r0 r1 r2 kp hu1 hu2 gG hM1 uF htn
 go_wp2_with (first
  |((go_at_call 124;(with_reducible refine(kh).mono ?_));rintro e w2 ⟨rfl,hC2,hu2⟩;(have hM2:=jJ.out.cB hu2 hC2 (λy hy=>Α hy) rfl rfl);(have g21:=hM2.h2);(have g22:=hM2.iG.cell g hgt);rw[HG.out] at g22)
  | fail)
 go_ret;exact⟨rfl,(u01.out.trans hu2).mono (λy hy=>by simp only[PB.blk,ρ];simp[hy]),hM2⟩
theorem TN(hM:gX w B F gt ct A st S ai){g x:Nat}{f:Fr}{P:List Fr}{l r:BT}{k s:Int}(hk:-9223372036854775808<=k/\k<=9223372036854775807/\0<=s/\s<=18446744073709551615)(hB:jf A x k s=true)
  (hg:(A.c x).i=g) (hg0:0<g) (hgt:g<ai.length) (htop:ai.getD g 0=(au (f::P) (.node x l r)).root) (hT:dL S (-1) (au (f::P) (.node x l r)).root (au (f::P) (.node x l r))) (hn:(au (f::P) (.node x l r)).nodes.Nodup)
  (hL:Lone (au (f::P) (.node x l r))) (hall:∀y,y∈(au (f::P) (.node x l r)).nodes->bY A (y:Int)=true) :
  Calls prog 197 #[.pointer (some ⟨B.n0,0,none⟩),.int .i64 (x:Int),.agg #[.int .i64 k,.int .u64 s]] w λe w'=>e=.returned (.bool true)/\ae (B.blk F gt) w w'/\
   ∃st' S',gX w' B F gt ct (aA A x k s) st' S' (ai.set g (dH (aA A x k s) (au (f::P) r) (.node x l .nil)).root)/\dL S' (-1) (dH (aA A x k s) (au (f::P) r) (.node x l .nil)).root (dH (aA A x k s) (au (f::P) r) (.node x l .nil))/\∀y,y∉(au (f::P) (.node x l r)).nodes->S.at S' y:=by
 have hcs:=gD A x k s;have jd:=lQ A x k s;have hxl:x<A.cs.length:=by
  have:=hall x (qz.2 (Α (by simp[BT.nodes])));exact((aj A x).1 this).1
 have hin':bY (aA A x k s) (x:Int)=true:=(aj _ x).2 ⟨by rw[hcs];exact hxl,by rw[iH hB hxl,hg];omega⟩;have hi':((aA A x k s).c x).i=g:=by rw[iH hB hxl,hg]
 have sU:∀y,y∈(au (f::P) (.node x l r)).nodes->bY (aA A x k s) (y:Int)=true:=λy hy=>by
  have:=(aj A y).1 (hall y hy);exact(aj _ y).2 ⟨by rw[hcs];exact this.1,by rw[iH hB hxl];exact this.2⟩
 have hlt':∀y,y∈(au (f::P) (.node x l r)).nodes->y<(aA A x k s).cs.length:=λy hy=>((aj _ y).1 (sU y hy)).1;obtain⟨o1,o2,o3, -⟩:=Bb hT hn;have hpm:=xq (f::P) x l r;have tC:((au (f::P) r).nodes++(BT.node x l .nil).nodes).Nodup:=yM (hpm.nodup_iff.1 hn);have Nu:∀y,y∈(au (f::P) r).nodes++(BT.node x l .nil).nodes->y∈(au (f::P) (.node x l r)).nodes:=λy hy=>by
  rw[hpm.mem_iff,τ];rw[τ] at hy;exact hy.symm
 have QN:Lone (au (f::P) r):=qC (t:=.node x l r) σ hL;have hrt:(au (f::P) (.node x l r)).root=(au (f::P) r).root:=jU _ _ _ _;have hroot:(au (f::P) r).root≠(x:Int):=λe=>by
  have h6:au (f::P) r≠.nil:=λe'=>by rw[e'] at e;simp[BT.root] at e
  have h7:=(cz h6).1;rw[e,π] at h7;rw[θ] at tC;exact tC.2.2 x h7 x (by simp[BT.nodes]) rfl
 rw[hrt] at htop;have u1:ae [] w (w.alloc (.cells #[.int .i64 k,.int .u64 s] 97)):=(ae.refl _ _).alloc _;have kp:=λW (hW:ae [] (w.alloc (.cells #[.int .i64 k,.int .u64 s] 97)) W)=>iD (hM.cells.ag (u1.trans hW)) x k s hk hB;have h0:=hM.h0;have wN:B.n0∉F:=hM.bS.1;have hlt:=hM.lt;have hsz:w.heap.size∉F:=λhm=>by have:=hlt w.heap.size (by simp[PB.blk,hm]);omega
 have r0:∀W,ae F (w.alloc (.cells #[.int .i64 k,.int .u64 s] 97)) W->W.cell? ⟨B.n0,0,none⟩=some (.pointer (some ⟨B.c,0,none⟩)):=λW hW=>hW.kept (u1.was h0) wN;have r1:∀W,ae F (w.alloc (.cells #[.int .i64 k,.int .u64 s] 97)) W->W.cell? ⟨w.heap.size,0,none⟩=some (.int .i64 k):=λW h=>h.kept σ hsz;have r2:∀W,ae F (w.alloc (.cells #[.int .i64 k,.int .u64 s] 97)) W->W.cell? ⟨w.heap.size,1,none⟩=some (.int .u64 s):=λW h=>h.kept σ hsz;have HM:=χ hM;have HG:=χ (ψ hT (ψ hn (ψ sU hlt')));have HX:=χ (ψ tC (ψ Nu (ψ QN (ψ o1 (ψ o2 o3)))));have HT:=χ htop;have htn:ai.length=A.hs.length:=hM.iJ
 clear hM hT hn hall sU hlt' hlt h0 hg tC Nu wN hsz hL QN hrt hpm o1 o2 o3 htop;generalize hA':aA A x k s=A' at *;generalize Cf:au (f::P) r=ta at *
 go_enter func197,ntmps197
 go_wp2
 go_region_held3 (ae F (w.alloc (.cells #[.int .i64 k,.int .u64 s] 97))) (exact ν)
  ((go_at_call 131;(with_reducible refine(kp _ β).mono ?_);rintro e w1 ⟨rfl,gG,hu1⟩;(have hu2:ae F (w.alloc (.cells #[.int .i64 k,.int .u64 s] 97)) w1:=ν)))
 have uF:ae F w (w.alloc (.cells #[.int .i64 k,.int .u64 s] 97)):=u1.mono σ;have hM1:=HM.out.cB (uF.trans hu2) gG (λy hy=>Α hy) hcs (by rw[jd]);have kh:=bV hM1.cells x hin';rw[hi'] at kh;have g10:=hM1.h0;have jJ:=χ hM1;have u01:=χ (uF.trans hu2);have Gm:(ta.root != (x:Int))=true:=by simpa using hroot
 have Yo:(g:Int)<(ai.length:Int):=ω;clear r0 r1 r2 kp hu1 hu2 gG hM1 uF htn
 go_wp2_with (first
  |((go_at_call 124;(with_reducible refine(kh).mono ?_));rintro e w2 ⟨rfl,hC2,hu2⟩;(have hM2:=jJ.out.cB hu2 hC2 (λy hy=>Α hy) rfl rfl);(have g21:=hM2.h2);(have g22:=hM2.iG.cell g hgt);rw[HT.out] at g22;(have ko:=Yp hM2 HG.out.1 HG.out.2.1 HG.out.2.2.2))
  |((go_at_call 204;(with_reducible refine(ko).mono ?_));rintro e w3 ⟨rfl,jo,hu3⟩)
  | fail)
 have hw3:ae (B.blk F gt) w w3:=((u01.out.trans hu2).mono (λy hy=>by simp only[PB.blk,ρ];simp[hy])).trans (hu3.mono (λy hy=>by simp at hy;simp[PB.blk,hy]));have km:=λW (hW:ae [] w3 W)=>vg (jo.ag hW) ta (.node x l .nil) HX.out.2.2.2.2.1 HX.out.2.2.2.1 HX.out.2.2.1 rfl HX.out.1 (λy hy=>HG.out.2.2.1 y (HX.out.2.1 y hy));rw[show(BT.node x l .nil).root=(x:Int) from rfl] at km;have d4:=jo.iG.cell g hgt;rw[HT.out] at d4;have f4:=jo.iG.free g;have h3:=jo.h2;obtain⟨wJ,hgc⟩:=jo.aa4;have oC:=jo.cF
 have r3:∀W,ae [B.ba,B.c] w3 W->W.cell? ⟨B.n0,2,none⟩=some (.slice (some ⟨gt,0,none⟩) ai.length ct):=λW hW=>hW.kept h3 (λhm=>wJ (by simp at hm ⊢;omega));have r4:∀W,ae [B.ba,B.c] w3 W->W.cell? ⟨gt,g,none⟩=some (.int .i64 ta.root)/\W.frozen? ⟨gt,g,none⟩=false:=λW hW=>⟨hW.kept d4 hgc,hW.aM d4 hgc f4⟩
 have BF:(0:Int)<=(g:Int):=ω;generalize hmt:dH A' ta (.node x l .nil)=mt at *;clear jo f4 h3 wJ hgc g21 g22 hM2 ko hC2 hu2 hu3 kh g10;have q3:=r3 _ (ae.refl _ _);go_wp2
 go_region_law
  (first
   | (go_simp;go_at_call 205;(with_reducible refine (km _ β).mono ?_);rintro e w5 ⟨rfl,pW,U5,S5,vQ,CZ,hs5⟩;(have bW:ae [B.ba,B.c] w3 w5:=ae.trans β pW);obtain ⟨d5,f5⟩:=r4 _ bW))
 all_goals
  go_wp2;go_ret
  have v3:ae (B.blk F gt) w w5:=hw3.trans (bW.mono (λy hy=>by
   simp only[ρ,ς,or_false] at hy;simp only[PB.blk,ρ];rcases hy with rfl|rfl
   ·simp
   ·simp [oC]))
  subst hmt;exact⟨rfl,v3.setCell (Α (by simp[PB.blk])) _,U5,S5,vQ.mg g _,CZ,λy hy=>Sj (HX.out.2.2.2.2.2 y hy) (hs5 y (λhm=>hy (HX.out.2.1 y hm)))⟩
end
end Go.Proofs.YtnpdakpagnpanaaGreat
namespace Go.Proofs.YtnpdakpagnpanaaGreat
open Tryz
theorem Eh(A:NS):∀(l:List BT),(∀t,t∈l->eU A t/\Lone t)->(gM l).Nodup->∀t,t∈dE A l->eU A t/\Lone t
 | [],_,_,t,ht=>by cases ht
 | [a],h,_,t,ht=>h t ht
 |a::b::l,h,hn,t,ht=>by
  rw[cu,cu,←ϋ,θ] at hn;have ha:=h a σ;have hb:=h b σ;rcases ρ.1 (show t∈dH A a b::dE A l from ht) with e|e
  ·subst e;exact⟨nR ha.2 hb.2 ha.1 hb.1 hn.1,lV A ha.2 hb.2⟩
  ·exact Eh A l (λu hu=>h u (by simp[hu])) hn.2.1 t e
theorem DN(A:NS):∀(l:List BT),(∀t,t∈l->eU A t/\Lone t)->(gM l).Nodup->eU A (gF A l)
 | [],_,_=>trivial
 |a::l,h,hn=>by
  have ha:=h a σ;have hp:=yI A l (λt ht=>(h t (by simp[ht])).2);have ih:=DN A l (λu hu=>h u (by simp[hu])) (by rw[cu,θ] at hn;exact hn.2.1);exact nR ha.2 hp.2 ha.1 ih ((hp.1.append_left a.nodes).nodup_iff.2 hn)
theorem yQ{A:NS}{l:BT}(h:eU A l)(hn:l.nodes.Nodup):(gF A (dE A (bR l))).nodes.Perm l.nodes/\Lone (gF A (dE A (bR l)))/\eU A (gF A (dE A (bR l))):=by
 have hk:=Ea h;have hkn:=(jE l).nodup_iff.2 hn;have h2:=Eh A _ hk hkn;have p2:=DC A (bR l) (λt ht=>(hk t ht).2);have p3:=yI A (dE A (bR l)) (λt ht=>(h2 t ht).2);exact⟨(p3.1.trans p2).trans (jE l),p3.2,DN A _ h2 (p2.nodup_iff.2 hkn)⟩
theorem DF{n:Nat}{l:List Nat}(hn:l.Nodup)(h:∀x,x∈l->x<n):l.length<=n:=by
 induction n generalizing l with
 |zero=>
  cases l with
  |nil=>simp
  |cons a l=>exact absurd (h a σ) ω
 |succ n ih=>
  by_cases hm:n∈l
  ·have h1:=ih (l:=l.erase n) (hn.erase n) (λx hx=>by
    have h2:=(hn.mem_erase_iff).1 hx;have:=h x h2.2
    omega)
   rw[List.length_erase_of_mem hm] at h1;omega
  ·have:=ih hn (λx hx=>by
    have h1:=h x hx;have h2:x≠n:=λe=>hm (by rw[←e];exact hx)
    omega)
   omega
end Go.Proofs.YtnpdakpagnpanaaGreat
namespace Go.Proofs.YtnpdakpagnpanaaGreat
open Tryz
open Go Go.RowKit
section
variable{w:World}{B:PB}{F:List Nat}{gt ct:Nat}{A:NS}{st:Nat}{S:TS}{ai:List Int}
theorem Qa(hM:gX w B F gt ct A st S ai){g x:Nat}{l:BT}(hg:(A.c x).i=g)(hg0:0<g)(hgt:g<ai.length)(htop:ai.getD g 0=x)(hT:dL S (-1) x (.node x l .nil))(hn:(BT.node x l .nil).nodes.Nodup)(hall:∀y,y∈(BT.node x l .nil).nodes->bY A (y:Int)=true) :
  Calls prog 198 #[.pointer (some ⟨B.n0,0,none⟩),.int .i64 (x:Int)] w λe w'=>e=.returned (.bool true)/\ae (B.blk F gt) w w'/\∃st' S',gX w' B F gt ct (bg A x) st' S' (ai.set g (gF A (dE A (bR l))).root)/\dL S' (-1) (gF A (dE A (bR l))).root (gF A (dE A (bR l)))/\(S'.l x=-1/\S'.r x=-1/\S'.u x=-1)/\∀y,y∉(BT.node x l .nil).nodes->S.at S' y:=by
 have hin:bY A (x:Int)=true:=hall x (by simp[BT.nodes]);have hn':(x::l.nodes).Nodup:=by simpa[BT.nodes] using hn
 have hl':∀z,z∈l.nodes->bY A (z:Int)=true:=λz hz=>hall z (by simp[BT.nodes,hz]);have hsz:l.size<=65536:=by
  rw[←BT.lW];have:=DF (n:=A.cs.length) (Ζ.1 hn').2 (λy hy=>((aj _ _).1 (hl' y hy)).1);have:=hM.cells.ok.c1;omega
 have kh:=bV hM.cells x hin;rw[hg] at kh;have h0:=hM.h0;have HM:=χ hM;have HT:=χ (ψ hT (ψ hn' (ψ hl' (ψ hsz hin))));have WI:=χ htop;have htn:ai.length=A.hs.length:=hM.iJ;have Yo:(g:Int)<(ai.length:Int):=ω;clear hM hT hn hn' hl' hsz hin hall htop htn hg;generalize hR:gF A (dE A (bR l))=R at *
 go_enter func198,ntmps198
 go_wp2_with (first
  |((go_at_call 124;(with_reducible refine(kh).mono ?_));rintro e w1 ⟨rfl,gG,hu1⟩;(have hM1:=HM.out.cB hu1 gG (λy hy=>Α hy) rfl rfl);(have g21:=hM1.h2);(have g22:=hM1.iG.cell g hgt);rw[WI.out] at g22)
  | fail)
 have ks:=λW (hW:ae [] w1 W)=>BP (hM1.ag hW) x HT.out.2.2.2.2 l HT.out.1.2.2.1 HT.out.2.1 HT.out.2.2.1 HT.out.2.2.2.1;rw[hR] at ks;have f4:=hM1.iG.free g;have hnn:B.n0∉B.ba::F/\gt∉B.ba::F:=by
  have a1:=hM1.sep;have a2:=hM1.bS;exact⟨by simp only[ρ,not_or];exact⟨a1.1,a2.1⟩,by simp only[ρ,not_or];exact⟨λe=>a1.2.2 e.symm,a2.2.2⟩⟩
 obtain⟨Uf,yM⟩:=hnn;have h3:=hM1.h2;have r3:∀W,ae (B.ba::F) w1 W->W.cell? ⟨B.n0,2,none⟩=some (.slice (some ⟨gt,0,none⟩) ai.length ct):=λW hW=>hW.kept h3 Uf;have r4:∀W,ae (B.ba::F) w1 W->W.cell? ⟨gt,g,none⟩=some (.int .i64 (x:Int))/\W.frozen? ⟨gt,g,none⟩=false:=λW hW=>⟨hW.kept g22 yM,hW.aM g22 yM f4⟩
 have BF:(0:Int)<=(g:Int):=ω;have u01:ae (B.blk F gt) w w1:=hu1.mono (λy hy=>by simp only[PB.blk,ρ];simp[hy]);have HU:=χ u01;clear hM1 f4 h3 Uf yM gG hu1 kh u01
 go_upto_region 5 with(fail)
 go_region_law
  (first
   | (go_simp;go_at_call 206;(with_reducible refine (ks _ β).mono ?_);rintro e w5 ⟨rfl,pW,U5,S5,vQ,CZ,hl5,LA,VD,hs5⟩;(have bW:ae (B.ba::F) w1 w5:=ae.trans β pW);obtain ⟨d5,f5⟩:=r4 _ bW))
 all_goals
  have vE:=vQ.mg g R.root;have kd:=gT vE.cells x HT.out.2.2.2.2;have h06:=vE.h0
  go_wp2_with (first
   |((go_at_call 134;(with_reducible refine(kd).mono ?_));rintro e w7 ⟨rfl,hC7,kS⟩)
   | fail)
  go_ret;have hbn:∀y,y∉(BT.node x l .nil).nodes->y∉x::l.nodes:=λy hy hm=>hy (by simpa[BT.nodes] using hm);have v5:ae (B.blk F gt) w w5:=HU.out.trans (bW.mono (λy hy=>by simp only[PB.blk,ρ] at hy ⊢;rcases hy with h|h<;>simp[h]));refine⟨rfl,(v5.setCell (Α (by simp[PB.blk])) _).trans (kS.mono (λy hy=>by simp only[PB.blk,ρ];simp[hy])),U5,S5,vE.cB kS hC7 (λy hy=>Α hy) (fD _ _) (by rw[iV]),CZ,⟨hl5,?_,?_⟩,λy hy=>hs5 y (hbn y hy)⟩
  ·rw[LA];exact HT.out.1.2.2.2
  ·rw[VD];exact HT.out.1.2.1
theorem Vp(hM:gX w B F gt ct A st S ai){g x:Nat}{f:Fr}{P:List Fr}{l r:BT}(hg:(A.c x).i=g)(hg0:0<g)(hgt:g<ai.length)(htop:ai.getD g 0=(au (f::P) (.node x l r)).root)(hT:dL S (-1) (au (f::P) (.node x l r)).root (au (f::P) (.node x l r)))(hn:(au (f::P) (.node x l r)).nodes.Nodup)
  (hL:Lone (au (f::P) (.node x l r))) (hH:eU A (au (f::P) (.node x l r))) (hall:∀y,y∈(au (f::P) (.node x l r)).nodes->bY A (y:Int)=true) :
  Calls prog 198 #[.pointer (some ⟨B.n0,0,none⟩),.int .i64 (x:Int)] w λe w'=>e=.returned (.bool true)/\ae (B.blk F gt) w w'/\∃st' S',gX w' B F gt ct (bg A x) st' S' (ai.set g (dH A (au (f::P) r) (gF A (dE A (bR l)))).root)/\dL S' (-1) (dH A (au (f::P) r) (gF A (dE A (bR l)))).root (dH A (au (f::P) r) (gF A (dE A (bR l))))/\(S'.l x=-1/\S'.r x=-1/\S'.u x=-1)/\∀y,y∉(au (f::P) (.node x l r)).nodes->S.at S' y:=by
 have hin:bY A (x:Int)=true:=hall x (qz.2 (Α (by simp[BT.nodes])));obtain⟨o1,o2,o3, -⟩:=Bb hT hn;obtain⟨oh1, -⟩:=BZ (P:=f::P) hH;have hpm:=xq (f::P) x l r;have tC:((au (f::P) r).nodes++(BT.node x l .nil).nodes).Nodup:=yM (hpm.nodup_iff.1 hn);have Nu:∀y,y∈(au (f::P) r).nodes++(BT.node x l .nil).nodes->y∈(au (f::P) (.node x l r)).nodes:=λy hy=>by
  rw[hpm.mem_iff,τ];rw[τ] at hy;exact hy.symm
 have QN:Lone (au (f::P) r):=qC (t:=.node x l r) σ hL;have hrt:(au (f::P) (.node x l r)).root=(au (f::P) r).root:=jU _ _ _ _;have hroot:(au (f::P) r).root≠(x:Int):=λe=>by
  have h6:au (f::P) r≠.nil:=λe'=>by rw[e'] at e;simp[BT.root] at e
  have h7:=(cz h6).1;rw[e,π] at h7;rw[θ] at tC;exact tC.2.2 x h7 x (by simp[BT.nodes]) rfl
 rw[hrt] at htop;have hn':(x::l.nodes).Nodup:=by
  rw[θ] at tC;simpa[BT.nodes] using tC.2.1
 have hl':∀z,z∈l.nodes->bY A (z:Int)=true:=λz hz=>hall z (Nu z (by simp[BT.nodes,hz]));have hsz:l.size<=65536:=by
  rw[←BT.lW];have:=DF (n:=A.cs.length) (Ζ.1 hn').2 (λy hy=>((aj _ _).1 (hl' y hy)).1);have:=hM.cells.ok.c1;omega
 obtain⟨t1,t2,t3⟩:=yQ oh1.2.1 (Ζ.1 hn').2;have hXR:((au (f::P) r).nodes++(gF A (dE A (bR l))).nodes).Nodup:=by
  have h1:((au (f::P) r).nodes++l.nodes).Nodup:=by
   rw[θ] at tC ⊢;exact⟨tC.1,(Ζ.1 hn').2,λa ha b hb=>tC.2.2 a ha b (by simp[BT.nodes,hb])⟩
  exact(t1.append_left _).nodup_iff.2 h1
 have hXRm:∀y,y∈(au (f::P) r).nodes++(gF A (dE A (bR l))).nodes->y∈(au (f::P) (.node x l r)).nodes/\y≠x:=λy hy=>by
  rw[τ,t1.mem_iff] at hy;refine⟨Nu y (by simp only[τ,BT.nodes,Υ,ρ];rcases hy with h|h<;>simp[h]),λe=>?_⟩;subst e;rw[θ] at tC;rcases hy with h|h
  ·exact tC.2.2 y h y (by simp[BT.nodes]) rfl
  ·exact(Ζ.1 hn').1 h
 have hra:∀y,y∈(au (f::P) r).nodes->y∉x::l.nodes:=λy hy hm=>by
  rw[θ] at tC;exact tC.2.2 y hy y (by simpa[BT.nodes] using hm) rfl
 have hsub:∀y,y∈x::l.nodes->y∈(au (f::P) (.node x l r)).nodes:=λy hy=>Nu y (by rw[τ];right;simpa[BT.nodes] using hy);have ko:=λ(w1:World) (hM1:gX w1 B F gt ct A st S ai)=>Yp hM1 hT hn (λy hy=>((aj _ _).1 (hall y hy)).1);have kh:=bV hM.cells x hin;rw[hg] at kh;have h0:=hM.h0;have HM:=χ hM;have HT:=χ (ψ o1 (ψ o2 (ψ o3 (ψ hn' (ψ hl' (ψ hsz hin))))));have HX:=χ (ψ hXR (ψ hXRm (ψ QN (ψ t2 (ψ hra (ψ hsub hall))))));have WI:=χ htop;have htn:ai.length=A.hs.length:=hM.iJ;have Yo:(g:Int)<(ai.length:Int):=ω
 clear hM hT hn hn' hl' hsz hin hall htop htn hg o1 o2 o3 oh1 hpm tC Nu QN hrt t1 t2 t3 hXR hXRm hra hsub hL hH;generalize hR:gF A (dE A (bR l))=R at *;generalize Cf:au (f::P) r=ta at *;have Gm:(ta.root == (x:Int))=false:=by simpa using hroot
 go_enter func198,ntmps198
 go_wp2_with (first
  |((go_at_call 124;(with_reducible refine(kh).mono ?_));rintro e w1 ⟨rfl,gG,hu1⟩;(have hM1:=HM.out.cB hu1 gG (λy hy=>Α hy) rfl rfl);(have g21:=hM1.h2);(have g22:=hM1.iG.cell g hgt);rw[WI.out] at g22;(have TJ:=ko w1 hM1))
  |((go_at_call 204;(with_reducible refine(TJ).mono ?_));rintro e w3 ⟨rfl,jo,hu3⟩)
  | fail)
 have ks:=λW (hW:ae [] w3 W)=>BP (jo.ag hW) x HT.out.2.2.2.2.2.2 l HT.out.1.2.2.1 HT.out.2.2.2.1 HT.out.2.2.2.2.1 HT.out.2.2.2.2.2.1;rw[hR] at ks;have kl:Hid (∀W YE S4,gX W B F gt ct A YE S4 ai->dL S4 (-1) R.root R->(∀z,z∉x::l.nodes->(jW S f.1 f.2.1 x).at S4 z)->_):=λW YE S4 sM Q0 hs4=>vg sM ta R (HT.out.2.1.frame (λy hy=>hs4 y (HX.out.2.2.2.2.1 y hy))) Q0 HX.out.2.2.1 HX.out.2.2.2.1 HX.out.1 (λy hy=>HX.out.2.2.2.2.2.2 y (HX.out.2.1 y hy).1);have d4:=jo.iG.cell g hgt;rw[WI.out] at d4;have f4:=jo.iG.free g;have hnn:B.n0∉B.ba::F/\gt∉B.ba::F:=by
  have a1:=jo.sep;have a2:=jo.bS;exact⟨by simp only[ρ,not_or];exact⟨a1.1,a2.1⟩,by simp only[ρ,not_or];exact⟨λe=>a1.2.2 e.symm,a2.2.2⟩⟩
 obtain⟨Uf,yM⟩:=hnn;have oC:=jo.cF;have h3:=jo.h2;have r3:∀W,ae (B.ba::F) w3 W->W.cell? ⟨B.n0,2,none⟩=some (.slice (some ⟨gt,0,none⟩) ai.length ct):=λW hW=>hW.kept h3 Uf;have r4:∀W,ae (B.ba::F) w3 W->W.cell? ⟨gt,g,none⟩=some (.int .i64 ta.root)/\W.frozen? ⟨gt,g,none⟩=false:=λW hW=>⟨hW.kept d4 yM,hW.aM d4 yM f4⟩
 have BF:(0:Int)<=(g:Int):=ω;have u01:ae (B.blk F gt) w w1:=hu1.mono (λy hy=>by simp only[PB.blk,ρ];simp[hy]);have HU:=χ (u01.trans (hu3.mono (λy hy=>by simp at hy;simp[PB.blk,hy])));clear hM1 jo f4 h3 Uf yM gG hu1 kh u01 hu3 ko TJ g21 g22;have q3:=r3 _ (ae.refl _ _);generalize hmt:dH A ta R=mt at *
 go_upto_region 8 with(fail)
 go_region_law
  (first
   |(go_simp;go_at_call 206;(with_reducible refine(ks _ β).mono ?_);rintro e w5 ⟨rfl,pW,U5,S5,vQ,CZ,hl5,LA,VD,hs5⟩;(have bW:ae (B.ba::F) w3 w5:=ae.trans β pW);obtain⟨d5,f5⟩:=r4 _ bW;(have km:=λW (hW:ae [] w5 W)=>kl W U5 S5 (vQ.ag hW) CZ hs5))
   | (go_simp;go_at_call 205;(with_reducible refine (km _ β).mono ?_);rintro e w6 ⟨rfl,hu6a,st6,S6,vE,Qj,hs6⟩;(have hu6b:ae [B.ba,B.c] w5 w6:=ae.trans β hu6a);(have iX:ae (B.ba::F) w3 w6:=bW.trans (hu6b.mono (λy hy=>by simp at hy;rcases hy with h|h<;>simp [h,oC])));obtain ⟨d6,f6⟩:=r4 _ iX))
 all_goals
  subst hmt;have JR:=vE.mg g (dH A ta R).root;have kd:=gT JR.cells x HT.out.2.2.2.2.2.2;have h06:=JR.h0
  go_wp2_with (first
   |((go_at_call 134;(with_reducible refine(kd).mono ?_));rintro e w8 ⟨rfl,hC8,wD⟩)
   | fail)
  go_ret;have hxa:x∉ta.nodes++R.nodes:=λhm=>(HX.out.2.1 x hm).2 rfl;have a6:=hs6 x hxa;have v5:ae (B.blk F gt) w w6:=HU.out.trans (iX.mono (λy hy=>by simp only[PB.blk,ρ] at hy ⊢;rcases hy with h|h<;>simp[h]));refine⟨rfl,(v5.setCell (Α (by simp[PB.blk])) _).trans (wD.mono (λy hy=>by simp only[PB.blk,ρ];simp[hy])),st6,S6,JR.cB wD hC8 (λy hy=>Α hy) (fD _ _) (by rw[iV]),Qj,⟨?_,?_,?_⟩,λy hy=>?_⟩
  ·rw[a6.1];exact hl5
  ·rw[a6.2.1,LA];exact HT.out.1.2.2.2
  ·rw[a6.2.2,VD];exact HT.out.1.2.1
  ·exact Sj (Sj (HT.out.2.2.1 y hy) (hs5 y (λhm=>hy (HX.out.2.2.2.2.2.1 y hm)))) (hs6 y (λhm=>hy (HX.out.2.1 y hm).1))
end
section
variable{w:World}{B:PB}{F:List Nat}{gt ct:Nat}{A:NS}{st:Nat}{tr:Nat->BT}
theorem Ff{ai:List Int}{g:Nat}{v:Int}(hgt:g<ai.length):∀q,(ai.set g v).getD q 0=if q=g then v else ai.getD q 0:=λq=>by
 by_cases e:q=g
 ·rw[Δ e,e,φ,ύ,Δ rfl,Δ hgt];rfl
 ·rw[Γ e,φ,ύ,Γ (λh=>e h.symm),←φ]
theorem Oy(h:lT w B F gt ct A st tr)(g x:Nat)(hx:x∈(tr g).nodes)(k s:Int)(hk:-9223372036854775808<=k/\k<=9223372036854775807/\0<=s/\s<=18446744073709551615)(hB:jf A x k s=true) :
  Calls prog 197 #[.pointer (some ⟨B.n0,0,none⟩),.int .i64 (x:Int),.agg #[.int .i64 k,.int .u64 s]] w λe w'=>e=.returned (.bool true)/\ae (B.blk F gt) w w'/\∃st' JE,lT w' B F gt ct (aA A x k s) st' JE:=by
 obtain⟨S,ai,hM,hI,hL⟩:=h;have hm:=(hI.mem g x).1 hx;have e:=nP hx;generalize (pathOf (tr g) x).1=P at *;generalize (pathOf (tr g) x).2.1=l at *;generalize (pathOf (tr g) x).2.2=r at *;have hgt:g<ai.length:=by rw[hM.iJ];have:=(hM.cells.ok.nat x hm.2.1);omega
 have hgh:g<A.hs.length:=by rw[←hM.iJ];exact hgt
 have hT:=hI.zG g;have hn:=hI.nd g;have hH:eU A (tr g):=hI.heap g;have J2:=hL g;have htp:=hI.top g hgh;have hall:∀y,y∈(tr g).nodes->bY A (y:Int)=true:=λy hy=>by
  have:=(hI.mem g y).1 hy;exact(aj A y).2 ⟨this.2.1,ω⟩
 rw[e] at hT hn hH J2 htp hall;cases P with
 |nil=>
  have hr:r=.nil:=J2;subst hr;refine(OM hM hk hB hm.2.2 hm.1 hgt htp hm.2.1).mono ?_;rintro e' w' ⟨rfl,hu,hE⟩;have e2:tr g=.node x l .nil:=e
  have h2:=hI.low hB hx (t':=tr g) (iI:=ai) (hI.zG g) (ό _) (by rw [e2];exact D7 hB hm.2.1 hH hn) (λy _=>⟨rfl,rfl,rfl⟩) (λq hq=>by
   split
   ·rename_i e3;rw[e3];exact hI.top g hgh
   ·rfl)
  refine⟨rfl,hu,st,_,S,ai,hE,h2,λq=>?_⟩
  show Lone (if q=g then tr g else tr q)
  split<;>exact hL _
 |cons f P2=>
  refine(TN hM hk hB hm.2.2 hm.1 hgt htp hT hn J2 hall).mono ?_;rintro e' w' ⟨rfl,hu,st',S',q1,q2,q3⟩;have hpm:=xq (f::P2) x l r;obtain⟨oh1,oh2⟩:=BZ (P:=f::P2) hH;have tC:((au (f::P2) r).nodes++(BT.node x l .nil).nodes).Nodup:=yM (hpm.nodup_iff.1 hn);have QN:Lone (au (f::P2) r):=qC (t:=.node x l r) σ J2;have Ce:x∉(au (f::P2) r).nodes:=λhm'=>by
   rw[θ] at tC;exact tC.2.2 x hm' x (by simp[BT.nodes]) rfl
  have hc:=uo hB hm.2.1;have hH2:eU (aA A x k s) (au (f::P2) r):=eU.frame oh2 (λy hy=>by rw[hc,Γ (λe=>Ce (by rw[←e];exact hy))]);have hH1:=D7 hB hm.2.1 oh1 (by rw[θ] at tC;exact tC.2.1);have hLx:Lone (BT.node x l .nil):=rfl;have hp:(dH (aA A x k s) (au (f::P2) r) (.node x l .nil)).nodes.Perm (tr g).nodes:=by
   rw[e];exact(j4 _ QN hLx).trans (List.perm_append_comm.trans hpm.symm)
  have h2:=hI.low hB hx (t':=dH (aA A x k s) (au (f::P2) r) (.node x l .nil)) (iI:=ai.set g (dH (aA A x k s) (au (f::P2) r) (.node x l .nil)).root) q2 hp (nR QN hLx hH2 hH1 tC) (λy hy=>q3 y (by rw[←e];exact hy)) (λq _=>Ff hgt q);refine⟨rfl,hu,st',_,S',_,q1,h2,λq=>?_⟩
  show Lone (if q=g then _ else tr q)
  split
  ·exact lV _ QN hLx
  ·exact hL q
theorem Er(h:lT w B F gt ct A st tr)(g x:Nat)(hx:x∈(tr g).nodes) :
  Calls prog 198 #[.pointer (some ⟨B.n0,0,none⟩),.int .i64 (x:Int)] w λe w'=>e=.returned (.bool true)/\ae (B.blk F gt) w w'/\∃st' JE,lT w' B F gt ct (bg A x) st' JE:=by
 obtain⟨S,ai,hM,hI,hL⟩:=h;have hm:=(hI.mem g x).1 hx;have e:=nP hx;generalize (pathOf (tr g) x).1=P at *;generalize (pathOf (tr g) x).2.1=l at *;generalize (pathOf (tr g) x).2.2=r at *;have hgt:g<ai.length:=by rw[hM.iJ];have:=(hM.cells.ok.nat x hm.2.1);omega
 have hgh:g<A.hs.length:=by rw[←hM.iJ];exact hgt
 have hT:=hI.zG g;have hn:=hI.nd g;have hH:eU A (tr g):=hI.heap g;have J2:=hL g;have htp:=hI.top g hgh;have hall:∀y,y∈(tr g).nodes->bY A (y:Int)=true:=λy hy=>by
  have:=(hI.mem g y).1 hy;exact(aj A y).2 ⟨this.2.1,ω⟩
 rw[e] at hT hn hH J2 htp hall;cases P with
 |nil=>
  have hr:r=.nil:=J2;subst hr;have e2:tr g=.node x l .nil:=e;refine(Qa hM hm.2.2 hm.1 hgt htp hT hn hall).mono ?_;rintro e' w' ⟨rfl,hu,st',S',q1,q2,q3,q4⟩;have hn':(x::l.nodes).Nodup:=by
   have h9:(BT.node x l .nil).nodes.Nodup:=hn;simpa[BT.nodes] using h9
  have hH':eU A (.node x l .nil):=hH;obtain⟨t1,t2,t3⟩:=yQ hH'.2.1 (Ζ.1 hn').2;have hp:(x::(gF A (dE A (bR l))).nodes).Perm (tr g).nodes:=by
   rw[e2];simp only[BT.nodes,Υ];exact List.Perm.cons x t1
  have h2:=hI.del hx (t':=gF A (dE A (bR l))) (iI:=ai.set g (gF A (dE A (bR l))).root) q2 hp t3 (λy hy=>q4 y (by rw[←e2];exact hy)) q3 (λq _=>Ff hgt q);refine⟨rfl,hu,st',_,S',_,q1,h2,λq=>?_⟩
  show Lone (if q=g then _ else tr q)
  split
  ·exact t2
  ·exact hL q
 |cons f P2=>
  refine(Vp hM hm.2.2 hm.1 hgt htp hT hn J2 hH hall).mono ?_;rintro e' w' ⟨rfl,hu,st',S',q1,q2,q3,q4⟩;have hpm:=xq (f::P2) x l r;obtain⟨oh1,oh2⟩:=BZ (P:=f::P2) hH;have tC:((au (f::P2) r).nodes++(BT.node x l .nil).nodes).Nodup:=yM (hpm.nodup_iff.1 hn);have QN:Lone (au (f::P2) r):=qC (t:=.node x l r) σ J2;have hn':(x::l.nodes).Nodup:=by
   rw[θ] at tC;simpa[BT.nodes] using tC.2.1
  obtain⟨t1,t2,t3⟩:=yQ oh1.2.1 (Ζ.1 hn').2;have hXR:((au (f::P2) r).nodes++(gF A (dE A (bR l))).nodes).Nodup:=by
   have h1:((au (f::P2) r).nodes++l.nodes).Nodup:=by
    rw[θ] at tC ⊢;exact⟨tC.1,(Ζ.1 hn').2,λa ha b hb=>tC.2.2 a ha b (by simp[BT.nodes,hb])⟩
   exact(t1.append_left _).nodup_iff.2 h1
  have hp:(x::(dH A (au (f::P2) r) (gF A (dE A (bR l)))).nodes).Perm (tr g).nodes:=by
   rw[e];refine((j4 A QN t2).cons x).trans ?_;refine((t1.append_left _).cons x).trans ?_;refine Ϡ ?_ hpm.symm;simp only[BT.nodes,Υ,List.cons_append];exact List.perm_append_comm.cons x
  have h2:=hI.del hx (t':=dH A (au (f::P2) r) (gF A (dE A (bR l)))) (iI:=ai.set g (dH A (au (f::P2) r) (gF A (dE A (bR l)))).root) q2 hp (nR QN t2 oh2 t3 hXR) (λy hy=>q4 y (by rw[←e];exact hy)) q3 (λq _=>Ff hgt q);refine⟨rfl,hu,st',_,S',_,q1,h2,λq=>?_⟩
  show Lone (if q=g then _ else tr q)
  split
  ·exact lV _ QN t2
  ·exact hL q
theorem AU(h:lT w B F gt ct A st tr)(g:Nat)(hn:0<dD A g) :
  Calls prog 199 #[.pointer (some ⟨B.n0,0,none⟩),.int .i64 (g:Int)] w λe w'=>∃m:Nat,dN A g=some m/\e=.returned (.tuple #[.int .i64 (m:Int),.bool true])/\ae (B.blk F gt) w w'/\∃st' JE,lT w' B F gt ct (bg A m) st' JE:=by
 have k:=A7 h g hn;have kd:=λm hm=>Er h g m hm;have hroot:∀m:Nat,(tr g).root=m->m∈(tr g).nodes:=λm hm=>by
  have hne:tr g≠.nil:=λe=>by rw[e] at hm;have:(-1:Int)=m:=hm;omega
  have:=(cz hne).1;rw[hm] at this;simpa using this
 clear h
 go_enter func199,ntmps199
 go_wp2_with (first
  |((go_at_call 203;(with_reducible refine(k).mono ?_));rintro e w1 ⟨m,hm1,hm2,rfl,rfl⟩;(have SQ:=kd m (hroot m hm2)))
  |((go_at_call 198;(with_reducible refine(SQ).mono ?_));rintro e w2 ⟨rfl,hu2,hL2⟩)
  | fail)
 go_ret2;exact⟨m,hm1,rfl,hu2,hL2⟩
end
theorem LH:VI 130 "Has" 123:=by intro p c W h;unfold method;obtain⟨m,h1,h2,h3,h4⟩:=wC Tryz.t130.methods "Has" [⟨188,0,true⟩] 123 (by kernel_rfl);exact vZ
theorem EL:VI 130 "Entry" 121:=by intro p c W h;unfold method;obtain⟨m,h1,h2,h3,h4⟩:=wC Tryz.t130.methods "Entry" [⟨188,0,true⟩] 121 (by kernel_rfl);exact vZ
theorem XL:MI 130 "Make" 201:=λ_ _=>by kernel_rfl
theorem Ou:MI 130 "Insert" 200:=λ_ _=>by kernel_rfl
theorem aaZ:MI 130 "Min" 203:=λ_ _=>by kernel_rfl
theorem Lc:MI 130 "Extract" 199:=λ_ _=>by kernel_rfl
theorem Gv:MI 130 "Decrease" 197:=λ_ _=>by kernel_rfl
def PaQ(w:World)(p:Nat)(F:List Nat)(A:NS):Prop:=∃B F1 gt ct st tr,p=B.n0/\F=B.blk F1 gt/\lT w B F1 gt ct A st tr
def xh:NestQ where
 ty:=130
 at_:=PaQ
 upd:=λh hu hS=>by
  obtain⟨B,F1,gt,ct,st,tr,rfl,rfl,hL⟩:=h;exact⟨B,F1,gt,ct,st,tr,rfl,rfl,hL.upd hu hS⟩
 lt:=λh=>by
  obtain⟨B,F1,gt,ct,st,tr,rfl,rfl,S,ai,hM, -⟩:=h;exact hM.lt
 ok:=λh=>by
  obtain⟨B,F1,gt,ct,st,tr,rfl,rfl,S,ai,hM, -⟩:=h;exact hM.cells.ok
 make:=λ{w p F A} h=>by
  obtain⟨B,F1,gt,ct,st,tr,rfl,rfl,hL⟩:=h;refine aJ 201 (λ_ _=>by kernel_rfl) (XL _) (λW hW=>?_);have jG:=hL.ag hW
  by_cases hl:65536<A.hs.length
  ·have e1:dJ A=0:=by unfold dJ;rw[Δ hl]
   have e2:aU A=A:=by unfold aU;rw[Δ hl]
   rw[e1,e2];refine(Pp jG hl).mono ?_;rintro e w' ⟨rfl,F',⟨F2,rfl,hA⟩,hu,hf⟩;exact⟨rfl,_,⟨B,F2,gt,ct,st,tr,rfl,rfl,hA⟩,hu,hf⟩
  ·have e1:dJ A=A.hs.length:=by unfold dJ;rw[Γ hl]
   rw[e1];refine(LG jG hl).mono ?_;rintro e w' ⟨rfl,F',⟨F2,gt2,ct2,rfl,hA⟩,hu,hf⟩;exact⟨rfl,_,⟨B,F2,gt2,ct2,st,tr,rfl,rfl,hA⟩,hu,hf⟩
 insert:=λ{w p F A} g y k s hk hB h=>by
  obtain⟨B,F1,gt,ct,st,tr,rfl,rfl,hL⟩:=h;refine aJ 200 (λ_ _=>by kernel_rfl) (Ou _) (λW hW=>?_);refine(EX (hL.ag hW) g y k s hk hB).mono ?_;rintro e w' ⟨rfl,hu,st',hL2⟩;exact⟨rfl,Goes.stay ⟨B,F1,gt,ct,_,_,rfl,rfl,hL2⟩ hu⟩
 min:=λ{w p F A} y hB h=>by
  obtain⟨B,F1,gt,ct,st,tr,rfl,rfl,hL⟩:=h;refine aJ 203 (λ_ _=>by kernel_rfl) (aaZ _) (λW hW=>?_);have jG:=hL.ag hW;have hok:A.Ok:=by obtain⟨S,ai,hM, -⟩:=hL;exact hM.cells.ok
  by_cases hl:dD A (y:Int)=0
  ·rw[iB.2 hl];have h4:=(aC _ _).1 hB;have h5:=hok.h1;refine(Mi jG y ω hl).mono ?_;rintro e w' ⟨rfl,rfl⟩;exact⟨rfl,Goes.stay ⟨B,F1,gt,ct,st,tr,rfl,rfl,jG⟩ (ae.refl _ _)⟩
  ·refine(A7 jG y ω).mono ?_;rintro e w' ⟨m,hm, -,rfl,rfl⟩;rw[hm];exact⟨rfl,Goes.stay ⟨B,F1,gt,ct,st,tr,rfl,rfl,jG⟩ (ae.refl _ _)⟩
 extract:=λ{w p F A} y m hm h=>by
  obtain⟨B,F1,gt,ct,st,tr,rfl,rfl,hL⟩:=h;refine aJ 199 (λ_ _=>by kernel_rfl) (Lc _) (λW hW=>?_);have hl:¬dD A (y:Int)=0:=λe=>by rw[iB.2 e] at hm;cases hm
  refine(AU (hL.ag hW) y ω).mono ?_;rintro e w' ⟨m',hm',rfl,hu,st',JE,hL2⟩;rw[hm] at hm';cases hm';exact⟨rfl,Goes.stay ⟨B,F1,gt,ct,_,_,rfl,rfl,hL2⟩ hu⟩
 mJ:=λ{w p F A} y k s hk hB h=>by
  obtain⟨B,F1,gt,ct,st,tr,rfl,rfl,hL⟩:=h;refine aJ 197 (λ_ _=>by kernel_rfl) (Gv _) (λW hW=>?_);have jG:=hL.ag hW;have hin:=ry hB;have hx:y∈(tr (A.c y).i.toNat).nodes:=by
   obtain⟨S,ai,hM,hI, -⟩:=jG;have:=(aj _ _).1 hin;exact(hI.mem _ y).2 ⟨ω,this.1,ω⟩
  refine(Oy jG _ y hx k s hk hB).mono ?_;rintro e w' ⟨rfl,hu,st',JE,hL2⟩;exact⟨rfl,Goes.stay ⟨B,F1,gt,ct,_,_,rfl,rfl,hL2⟩ hu⟩
 has:=λx h=>by
  obtain⟨B,F1,gt,ct,st,tr,rfl,rfl,S,ai,hM, -⟩:=h;exact dQ 123 (λ_ _=>by kernel_rfl) hM.h0 (LH _ _) (λW hW=>jr (hM.ag hW).cells x)
 entry:=λ{w p F A} x h=>by
  obtain⟨B,F1,gt,ct,st,tr,rfl,rfl,S,ai,hM, -⟩:=h;refine dQ 121 (λ_ _=>by kernel_rfl) hM.h0 (EL _ _) (λW hW=>?_);cases hin:bY A x with
  |false=>simpa using l9 (hM.ag hW).cells x hin
  |true=>
   obtain⟨y,rfl⟩:=rC hin;simpa using jT (hM.ag hW).cells y hin
theorem LV(p:Nat)(w:World):Calls prog 61 #[.pointer (some ⟨p,0,none⟩),.int .i64 0] w λe w'=>e=.returned (.tuple #[.iface 130 (.pointer (some ⟨p,0,none⟩)),.int .i64 0])/\w'=w:=by
 go_enter func61,ntmps61
 go_wp2;go_ret2;exact⟨rfl,rfl⟩
theorem Im(n:Nat)(hn:n<=65536):o9 xh 4 0 n:=by
 intro w;have kn:=λW=>Qu n W hn;have km:=LV;have hty:xh.ty=130:=rfl;have hat:∀w' B F gt,lT w' B F gt 1 (NS.new n) 0 (λ_=>.nil)->xh.at_ w' B.n0 (B.blk F gt) (NS.new n)/\Ih w' B.n0 n:=λw' B F gt h=>⟨⟨B,F,gt,_,_,_,rfl,rfl,h⟩,by obtain⟨S,ai,hM, -⟩:=h;exact⟨_,_,hM.h0,hM.cells⟩⟩
 generalize xh=K at *;rw[hty]
 go_enter func35,ntmps35
 go_wp2_with (first
  |((go_at_call 62;(with_reducible refine(kn _).mono ?_));rintro e w1 ⟨B,F,gt,rfl,hS,hu1,hf⟩)
  |((go_at_call 61;(with_reducible refine(km _ _).mono ?_));rintro e w2 ⟨rfl,rfl⟩)
  | fail)
 go_ret2;exact⟨B.n0,B.blk F gt,rfl,(hat _ _ _ _ hS).1,(hat _ _ _ _ hS).2,ae.trans β hu1,λx hx=>by have:=hf x hx;simp at this;omega⟩
theorem rH{A:NS}{a b:Int}(hj:gJ A a b=true):∀{t:BT},eU A t->eU (az A a b) t
 | .nil,_=>trivial
 | .node x l r,h=>⟨λy hy=>(nY hj x y).2 (h.1 y hy),rH hj h.2.1,rH hj h.2.2⟩
section
variable{w:World}{B:PB}{F:List Nat}{gt ct:Nat}{A:NS}{st:Nat}{tr:Nat->BT}
theorem Ls(h:lT w B F gt ct A st tr)(a b:Nat)(hj:gJ A a b=true) :
  Calls prog 202 #[.pointer (some ⟨B.n0,0,none⟩),.int .i64 (a:Int),.int .i64 (b:Int)] w λe w'=>e=.returned (.bool true)/\ae (B.blk F gt) w w'/\
   ∃st',lT w' B F gt ct (az A a b) st' (λq=>if q=a then dH (az A a b) (tr a) (tr b) else if q=b then .nil else tr q):=by
 obtain⟨S,ai,hM,hI,hL⟩:=h;obtain⟨j1,j2,j3⟩:=(dG _ _ _).1 hj;have a1:=(aC _ _).1 j1;have a2:=(aC _ _).1 j2;have hne:a≠b:=λe=>j3 (by rw[e]);have hcs:=eY A a b;have jd:(az A a b).hs.length=A.hs.length:=by unfold az;rw[Δ hj];simp
 have Cf:=hI.top a ω;have htb:=hI.top b ω;have hX:((tr a).nodes++(tr b).nodes).Nodup:=by
  rw[θ];refine⟨hI.nd a,hI.nd b,λx hx y hy e2=>?_⟩;have b1:=(hI.mem a x).1 hx;have b2:=(hI.mem b y).1 hy;rw[e2] at b1;omega
 have hin:∀y,y∈(tr a).nodes++(tr b).nodes->bY (az A a b) (y:Int)=true:=λy hy=>by
  rw[aj,hcs,oO hj];rw[τ] at hy;rcases hy with hy|hy
  ·have:=(hI.mem a y).1 hy;refine⟨this.2.1,?_⟩
   show 0<(if _ then _ else _:Int)
   split<;>omega
  ·have:=(hI.mem b y).1 hy;refine⟨this.2.1,?_⟩
   show 0<(if _ then _ else _:Int)
   split<;>omega
 have mp:=j4 (az A a b) (hL a) (hL b);have ml:=lV (az A a b) (hL a) (hL b);have mh:=nR (hL a) (hL b) (rH hj (hI.heap a)) (rH hj (hI.heap b)) hX;have Iw:=hI.zG a;have JH:=hI.zG b;have hla:=hL a;have hlb:=hL b
 have FI:Hid (∀ (W:World) (S':TS) (st':Nat),gX W B F gt ct (az A a b) st' S' ((ai.set a (dH (az A a b) (tr a) (tr b)).root).set b (-1))->dL S' (-1) (dH (az A a b) (tr a) (tr b)).root (dH (az A a b) (tr a) (tr b))->
   (∀y,y∉(tr a).nodes++(tr b).nodes->S.at S' y)->lT W B F gt ct (az A a b) st' (λq=>if q=a then dH (az A a b) (tr a) (tr b) else if q=b then .nil else tr q)):=λW S' st' b1 b2 b4=>by
  refine⟨S',_,b1,hI.join hj b2 mp mh b4 (λq hq=>?_),λq=>?_⟩
  ·have hl:ai.length=A.hs.length:=hM.iJ;rw[φ,ύ,Ι]
   by_cases e:q=a
   ·rw[Γ ω,ύ,Δ e.symm,Δ ω,Δ e];rfl
   ·by_cases e2:q=b
    ·rw[Δ e2.symm,Δ ω,Γ e,Δ e2];rfl
    ·rw[Γ ω,ύ,Γ ω,Γ e,Γ e2,←φ]
  ·show Lone (if q=a then _ else if q=b then _ else _)
   split
   ·exact ml
   ·split
    ·trivial
    ·exact hL q
 have hga:a<ai.length:=by rw[hM.iJ];omega
 have hgb:b<ai.length:=by rw[hM.iJ];omega
 have kj:=mf hM.cells a b hj;have h0:=hM.h0;have HM:=χ hM;have oC:=hM.cF;have HH:=χ (ψ hX (ψ hin (ψ (ψ Iw JH) (ψ hla hlb))));clear hM hI hL hX hin mp mh ml Iw JH hla hlb j1 j2 j3 a1 a2;generalize hA':az A a b=A' at *;generalize htra:tr a=ta at *;generalize htrb:tr b=tb at *
 go_enter func202,ntmps202
 go_wp2_with (first
  |((go_at_call 141;(with_reducible refine(kj).mono ?_));rintro e w1 ⟨rfl,gG,hu1⟩)
  | fail)
 have hM1:=HM.out.cB hu1 gG (λy hy=>Α hy) hcs jd;have km:=λW (hW:ae [] w1 W)=>vg (hM1.ag hW) ta tb HH.out.2.2.1.1 HH.out.2.2.1.2 HH.out.2.2.2.1 HH.out.2.2.2.2 HH.out.1 HH.out.2.1;have d4:=hM1.iG.cell a hga;rw[Cf] at d4;have Zu:=hM1.iG.cell b hgb;rw[htb] at Zu;have f4:=hM1.iG.free a;have f4b:=hM1.iG.free b;have h3:=hM1.h2;obtain⟨wJ,hgc⟩:=hM1.aa4;have r3:∀W,ae [B.ba,B.c] w1 W->W.cell? ⟨B.n0,2,none⟩=some (.slice (some ⟨gt,0,none⟩) ai.length ct):=λW hW=>hW.kept h3 (λhm=>wJ (by simp at hm ⊢;omega))
 have r4:∀W,ae [B.ba,B.c] w1 W->W.cell? ⟨gt,a,none⟩=some (.int .i64 ta.root)/\W.frozen? ⟨gt,a,none⟩=false:=λW hW=>⟨hW.kept d4 hgc,hW.aM d4 hgc f4⟩
 have r5:∀W,ae [B.ba,B.c] w1 W->W.cell? ⟨gt,b,none⟩=some (.int .i64 tb.root)/\W.frozen? ⟨gt,b,none⟩=false:=λW hW=>⟨hW.kept Zu hgc,hW.aM Zu hgc f4b⟩
 have BF:(0:Int)<=(a:Int):=ω;have CB:(a:Int)<(ai.length:Int):=ω;have hib3:(0:Int)<=(b:Int):=ω;have hib4:(b:Int)<(ai.length:Int):=ω;have s1:B.n0≠gt:=λe=>wJ (by simp[e]);generalize hmt:dH A' ta tb=mt at *;clear hM1 f4 f4b h3 wJ hgc;have q3:=r3 _ (ae.refl _ _)
 go_region_law
  (first
   | (go_simp;go_at_call 205;(with_reducible refine (km _ β).mono ?_);rintro e w5 ⟨rfl,pW,U5,S5,vQ,CZ,hs5⟩;(have bW:ae [B.ba,B.c] w1 w5:=ae.trans β pW);obtain ⟨d5,f5⟩:=r4 _ bW;obtain ⟨d5b,f5b⟩:=r5 _ bW))
 all_goals
  go_wp2;go_ret;have v1:ae (B.blk F gt) w w1:=hu1.mono (λy hy=>by simp only[PB.blk,ρ];simp[hy])
  have v3:ae (B.blk F gt) w w5:=v1.trans (bW.mono (λy hy=>by
   simp only[ρ,ς,or_false] at hy;simp only[PB.blk,ρ];rcases hy with rfl|rfl
   ·simp
   ·simp [oC]))
  subst hmt;exact⟨rfl,(v3.setCell (Α (by simp[PB.blk])) _).setCell (Α (by simp[PB.blk])) _,U5,FI.out _ S5 U5 ((vQ.mg a _).mg b (-1)) CZ hs5⟩
end
end Go.Proofs.YtnpdakpagnpanaaGreat
