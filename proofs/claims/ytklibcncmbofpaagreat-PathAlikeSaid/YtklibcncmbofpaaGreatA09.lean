/-
  Lemmas for PathAlike: PaP, Pa, Pa2, Pa3, Pa8, Pa7, Pa5, PaR, Pa6, Pa4o, Pa4a, Pa4b, Pa4c, Pa4d, Pa4, Pa9, Pa10, PaR2, Pa11, Pa12, PaQ. Conditions: those of each lemma.
-/
import Derived.Deep.LoopGhost
import Derived.Test.YtklibcncmbofpaaGreatA08
set_option linter.all false
set_option maxHeartbeats 8000000
set_option maxRecDepth 10000
namespace Go.Proofs.YtklibcncmbofpaaGreat
def dP (A:NS):BT->Prop
 | .nil=>True
 | .node x l r=>(∀y,y∈l.nodes->bX A x y)/\dP A l/\dP A r
theorem dP.frame {A A':NS}:∀ {t:BT},dP A t->(∀x,x∈t.nodes->A'.c x=A.c x)->dP A' t
 | .nil,_,_=>trivial
 | .node x l r,h,hs=>by
  have hx:=hs x (by simp [BT.nodes]);exact ⟨fun y hy=>(eZ hx (hs y (by simp [BT.nodes,hy]))).2 (h.1 y hy),h.2.1.frame (fun y hy=>hs y (by simp [BT.nodes,hy])),h.2.2.frame (fun y hy=>hs y (by simp [BT.nodes,hy]))⟩
abbrev Ju:Tv:=⟨dP,dP.frame,fun _=>trivial⟩
def Lone:BT->Prop
 | .nil=>True
 | .node _ _ r=>r=.nil
theorem xM {A:NS}:∀ {P:List Fr} {t:BT},dP A (af P t)->dP A t
 | [],_,h=>h
 | f::P,t,h=>by
  have h1:dP A (bq f t):=xM (P:=P) h;unfold bq at h1
  split at h1
  ·exact h1.2.2
  ·exact h1.2.1
theorem WQ {A:NS}:∀ {P:List Fr} {t t':BT},dP A (af P t)->dP A t'->(∀y,y∈t'.nodes->y∈t.nodes)->dP A (af P t')
 | [],_,_,_,h,_=>h
 | f::P,t,t',h,h',hs=>by
  have h1:dP A (bq f t):=xM (P:=P) h;refine WQ (P:=P) h ?_ (fun y hy=>?_)
  ·unfold bq at h1 ⊢
   split at h1
   ·rename_i e;rw [Δ e];exact ⟨h1.1,h1.2.1,h'⟩
   ·rename_i e;rw [Γ e];exact ⟨fun y hy=>h1.1 y (hs y hy),h',h1.2.2⟩
  ·have hy':=(jo f t').mem_iff.1 hy;refine (jo f t).mem_iff.2 ?_;simp only [ρ,τ] at hy' ⊢;rcases hy' with h|h|h
   ·exact Α h
   ·exact Β (Α (hs y h))
   ·exact Β (Β h)
theorem oL:∀ {P:List Fr} {f:Fr} {t t':BT},t≠.nil->Lone (af (f::P) t)->Lone (af (f::P) t')
 | [],f,t,t',ht,h=>by
  have h1:Lone (bq f t):=h
  show Lone (bq f t')
  unfold bq at h1 ⊢
  split at h1
  ·exact absurd h1 ht
  ·rename_i e;rw [Γ e];exact h1
 | g::P,f,t,t',ht,h=>oL (P:=P) (f:=g) (t:=bq f t) (t':=bq f t') (PS f t) h
/-! ### two trees become one -/
noncomputable def cO (A:NS) (a b:BT):BT:=
 match a,b with
 | .nil,t=>t
 | t,.nil=>t
 | .node x l _,.node y m _=>if bX A y x then .node y (.node x l m) .nil else .node x (.node y m l) .nil
theorem tN (A:NS) (t:BT):cO A .nil t=t:=by cases t<;>rfl
theorem qA (A:NS) (t:BT):cO A t .nil=t:=by cases t<;>rfl
theorem qd (A:NS) (x y:Nat) (l r m q:BT):cO A (.node x l r) (.node y m q)=if bX A y x then .node y (.node x l m) .nil else .node x (.node y m l) .nil:=rfl
theorem lq (A:NS) {a b:BT} (ha:Lone a) (hb:Lone b):(cO A a b).nodes.Perm (a.nodes++b.nodes):=by
 cases a with
 | nil=>rw [tN];exact ό _
 | node x l r=>
  cases b with
  | nil=>rw [qA];simp [BT.nodes]
  | node y m q=>
   have e1:r=.nil:=ha;have e2:q=.nil:=hb;subst e1 e2;rw [qd]
   split
   ·simp only [BT.nodes,Υ];exact (ϝ (a:=y) (l₁:=x::l.nodes) (l₂:=m.nodes)).symm
   ·simp only [BT.nodes,Υ];refine List.Perm.cons x ?_;exact ((Φ (l₁:=l.nodes) (l₂:=y::m.nodes))).symm
theorem mO (A:NS) {a b:BT} (ha:Lone a) (hb:Lone b):Lone (cO A a b):=by
 cases a with
 | nil=>rw [tN];exact hb
 | node x l r=>
  cases b with
  | nil=>rw [qA];exact ha
  | node y m q=>rw [qd];split<;>rfl
theorem aaO {A:NS} {x:Nat} {l:BT} (h:dP A (.node x l .nil)):∀y,y∈(BT.node x l .nil).nodes->y=x\/bX A x y:=fun y hy=>by
 simp only [BT.nodes,Υ,ρ] at hy;rcases hy with e|e
 ·exact Α e
 ·exact Β (h.1 y e)
theorem oM {A:NS} {a b:BT} (ha:Lone a) (hb:Lone b) (h1:dP A a) (h2:dP A b) (hn:(a.nodes++b.nodes).Nodup):dP A (cO A a b):=by
 cases a with
 | nil=>rw [tN];exact h2
 | node x l r=>
  cases b with
  | nil=>rw [qA];exact h1
  | node y m q=>
   have e1:r=.nil:=ha;have e2:q=.nil:=hb;subst e1 e2;have hxy:x≠y:=fun e=>by
    simp only [BT.nodes,Υ,θ] at hn;exact hn.2.2 x σ y σ e
   rw [qd]
   split
   ·rename_i h
    refine ⟨fun z hz=>?_,⟨h1.1,h1.2.1,h2.2.1⟩,trivial⟩;simp only [BT.nodes,ρ,τ] at hz;rcases hz with e|e|e
    ·rw [e];exact h
    ·exact bT h (h1.1 z e)
    ·exact h2.1 z e
   ·rename_i h
    have h':bX A x y:=(iQ hxy).resolve_right h;refine ⟨fun z hz=>?_,⟨h2.1,h2.2.1,h1.2.1⟩,trivial⟩;simp only [BT.nodes,ρ,τ] at hz;rcases hz with e|e|e
    ·rw [e];exact h'
    ·exact bT h' (h2.1 z e)
    ·exact h1.1 z e
def gU (S:TS) (x y:Nat):TS:=⟨fun z=>if z=x then y else S.l z,fun z=>if z=y then S.l x else S.r z,fun z=>if z=y then x else if (z:Int)=S.l x then y else S.u z⟩
theorem Ih {S:TS} {x y z:Nat} (h1:z≠x) (h2:z≠y) (h3:(z:Int)≠S.l x):S.at (gU S x y) z:=by
 unfold gU TS.at;simp [h1,h2,h3]
theorem CU {S:TS} {x y:Nat} {l m:BT} (ha:bV S (-1) x (.node x l .nil)) (hb:bV S (-1) y (.node y m .nil)) (hn:((BT.node x l .nil).nodes++(BT.node y m .nil).nodes).Nodup) :
  bV (gU S x y) (-1) x (.node x (.node y m l) .nil)/\∀z,z∉(BT.node x l .nil).nodes++(BT.node y m .nil).nodes->S.at (gU S x y) z:=by
 simp only [BT.nodes,Υ] at hn ⊢;rw [θ,Ζ,Ζ] at hn;obtain ⟨⟨n1,n2⟩,⟨n3,n4⟩,n5⟩:=hn;obtain ⟨_,a2,a3,a4⟩:=ha;obtain ⟨_,b2,b3,b4⟩:=hb;have hxy:x≠y:=fun e=>n5 x σ y σ e;have hlx:S.l x=l.root:=a3.root;have hlr:∀z:Nat,(z:Int)=S.l x->z∈l.nodes:=fun z hz=>by
  rw [hlx] at hz
  by_cases e:l=.nil
  ·rw [e] at hz;simp [BT.root] at hz
  ·have h1:=bH e;have:l.root.toNat=z:=ω;rw [←this];exact h1.1
 have e0:(gU S x y).l x=y:=by unfold gU;simp
 have e1:(gU S x y).r x=S.r x:=by unfold gU;simp [hxy]
 have e2:(gU S x y).u x=S.u x:=by
  have h3:(x:Int)≠S.l x:=fun e=>n1 (hlr x e);unfold gU;simp [hxy,h3]
 have e3:(gU S x y).l y=S.l y:=by have hyx:¬y=x:=fun e=>hxy e.symm;unfold gU;simp [hyx]
 have e4:(gU S x y).r y=S.l x:=by unfold gU;simp
 have e5:(gU S x y).u y=x:=by unfold gU;simp
 refine ⟨⟨rfl,by rw [e2];exact a2,?_,by rw [e1];exact a4⟩,fun z hz=>?_⟩
 ·rw [e0];refine ⟨rfl,e5,?_,?_⟩
  ·rw [e3];refine b3.frame (fun z hz=>Ih (fun e=>n5 x σ z (by simp [hz]) e.symm) (fun e=>n3 (by rw [←e];exact hz)) (fun e=>n5 z (by simp [hlr z e]) z (by simp [hz]) rfl))
  ·rw [e4];refine a3.Nh n2 (fun z hz=>?_) (fun hl=>?_)
   ·have z1:z≠x:=fun e=>n1 (by rw [←e];exact hz);have z2:z≠y:=fun e=>n5 z (by simp [hz]) y σ e;refine ⟨by unfold gU;simp [z1],by unfold gU;simp [z2],fun hr=>?_⟩;have z3:(z:Int)≠S.l x:=fun e=>hr (by rw [←hlx,←e];simp);unfold gU;simp [z2,z3]
   ·have h1:=bH hl;have z2:l.root.toNat≠y:=fun e=>n5 _ (Λ _ h1.1) y σ e
    show (if l.root.toNat=y then (x:Int) else if ((l.root.toNat:Nat):Int)=S.l x then (y:Int) else S.u l.root.toNat)=y
    rw [Γ z2,Δ (by rw [hlx];exact h1.2.symm)]
 ·simp only [τ,ρ,not_or] at hz;exact Ih hz.1.1 hz.2.1 (fun e=>hz.1.2 (hlr z e))
/-! ### a tree comes off -/
def jU (S:TS) (p:Nat) (s:Bool) (x:Nat):TS:=
 ⟨fun z=>if s=false/\z=p then S.r x else S.l z,fun z=>if z=x then -1 else if s=true/\z=p then S.r x else S.r z,fun z=>if z=x then -1 else if (z:Int)=S.r x then p else S.u z⟩
theorem Al {S:TS} {f:Fr} {P:List Fr} {x:Nat} {l r:BT} (h:bV S (-1) (af (f::P) (.node x l r)).root (af (f::P) (.node x l r))) (hn:(af (f::P) (.node x l r)).nodes.Nodup) :
  bV (jU S f.1 f.2.1 x) (-1) x (.node x l .nil)/\bV (jU S f.1 f.2.1 x) (-1) (af (f::P) r).root (af (f::P) r)/\(∀y,y∉(af (f::P) (.node x l r)).nodes->S.at (jU S f.1 f.2.1 x) y)/\
   S.kid f.2.1 f.1=x/\(f.2.1=true->S.l f.1≠x)/\S.u x=f.1:=by
 obtain ⟨h1,h2⟩:=(dL _ _).1 h;have X0:=(aM (f::P) (.node x l r)).nodup_iff.1 hn;have hmem:∀y,y∈(af (f::P) (.node x l r)).nodes↔y∈(BT.node x l r).nodes\/y∈dE (f::P):=fun y=>by rw [(aM (f::P) (.node x l r)).mem_iff,τ]
 rw [θ] at X0;obtain ⟨n1,n2,n3⟩:=X0;obtain ⟨_,g2,g3,g4⟩:=h1;obtain ⟨k1,k2,k3,k4⟩:=h2;simp only [BT.nodes,Ζ,τ,not_or,θ] at n1;obtain ⟨⟨m1,m2⟩,m3,m4,m5⟩:=n1;have hfx:f.1≠x:=fun e=>n3 x (by simp [BT.nodes]) f.1 (by simp [dE]) e.symm;have hrx:S.r x=r.root:=g4.root;have hrr:∀z:Nat,(z:Int)=S.r x->z∈r.nodes:=fun z hz=>by
  rw [hrx] at hz
  by_cases e:r=.nil
  ·rw [e] at hz;simp [BT.root] at hz
  ·have h1:=bH e;have:r.root.toNat=z:=ω;rw [←this];exact h1.1
 have hat:∀z,z≠f.1->z≠x->(z:Int)≠S.r x->S.at (jU S f.1 f.2.1 x) z:=fun z z1 z2 z3=>by
  unfold jU TS.at;simp [z1,z2,z3]
 have hnot:f.2.1=true->S.l f.1≠x:=fun e hl=>by
  rw [e] at k2;have h4:=k2.root;have h5:f.2.2.root=(x:Int):=by rw [←h4];simpa [TS.kid] using hl
  have h6:f.2.2≠.nil:=fun e=>by rw [e] at h5;simp [BT.root] at h5
  have h7:=(bH h6).1;rw [h5,π] at h7;exact n3 x (by simp [BT.nodes]) x (by simp [dE,h7]) rfl
 have Yr:∀z,z∈dE (f::P)->z≠x/\(z:Int)≠S.r x:=fun z hz=>⟨fun e=>n3 x (by simp [BT.nodes]) z hz e.symm,fun e=>n3 z (by simp [BT.nodes,hrr z e]) z hz rfl⟩
 refine ⟨⟨rfl,by unfold jU;simp,?_,?_⟩,(dL _ _).2 ⟨?_,?_⟩,fun y hy=>?_,k1,hnot,g2⟩
 ·have e:(jU S f.1 f.2.1 x).l x=S.l x:=by have hyx:¬x=f.1:=fun e=>hfx e.symm;unfold jU;simp [hyx]
  rw [e];refine g3.frame (fun z hz=>hat z (fun e=>n3 z (by simp [BT.nodes,hz]) f.1 (by simp [dE]) e) (fun e=>m1 (by rw [←e];exact hz)) (fun e=>m5 z hz z (hrr z e) rfl))
 ·show (jU S f.1 f.2.1 x).r x=-1
  unfold jU;simp
 ·rw [←hrx];refine g4.Nh m4 (fun z hz=>?_) (fun hr=>?_)
  ·have z1:z≠f.1:=fun e=>n3 z (by simp [BT.nodes,hz]) f.1 (by simp [dE]) e;have z2:z≠x:=fun e=>m2 (by rw [←e];exact hz);refine ⟨by unfold jU;simp [z1],by unfold jU;simp [z1,z2],fun hr=>?_⟩;have z3:(z:Int)≠S.r x:=fun e=>hr (by rw [←hrx,←e];simp);unfold jU;simp [z2,z3]
  ·have h1:=bH hr;have z2:r.root.toNat≠x:=fun e=>m2 (by rw [←e];exact h1.1)
   show (if r.root.toNat=x then (-1:Int) else if ((r.root.toNat:Nat):Int)=S.r x then (f.1:Int) else S.u r.root.toNat)=f.1
   rw [Γ z2,Δ (by rw [hrx];exact h1.2.symm)]
 ·have hf:=Yr f.1 (by simp [dE]);refine Sa.other (S:=S) (z:=x) ⟨k1,k2,k3,k4⟩ n2 ?_ ?_ ?_ (fun z z1 z2=>hat z z1 (Yr z z2).1 (Yr z z2).2)
  ·unfold TS.kid jU;cases f.2.1<;>simp [hfx,hrx]
  ·unfold TS.kid jU;cases f.2.1<;>simp [hfx]
  ·unfold jU;simp [hf.1,hf.2]
 ·rw [hmem,not_or] at hy;exact hat y (fun e=>hy.2 (by simp [dE,e])) (fun e=>hy.1 (by simp [BT.nodes,e])) (fun e=>hy.1 (by simp [BT.nodes,hrr y e]))
theorem vI (P:List Fr) (x:Nat) (l r:BT):(af P (.node x l r)).nodes.Perm ((BT.node x l .nil).nodes++(af P r).nodes):=by
 refine (aM P _).trans ?_;refine Ϝ ?_ ((aM P r).symm.append_left _);simp [BT.nodes,ϋ]
theorem zH {A:NS} {P:List Fr} {x:Nat} {l r:BT} (h:dP A (af P (.node x l r))):dP A (.node x l .nil)/\dP A (af P r):=by
 have h1:=xM h;exact ⟨⟨h1.1,h1.2.1,trivial⟩,WQ h h1.2.2 (fun y hy=>by simp [BT.nodes,hy])⟩
/-! ### what is below a thing comes off it -/
def bu:BT->List BT
 | .nil=>[]
 | .node x l r=>.node x l .nil::bu r
def fV (l:List BT):List Nat:=l.flatMap BT.nodes
theorem ji:∀ (t:BT),(fV (bu t)).Perm t.nodes
 | .nil=>ό _
 | .node x l r=>by
  unfold fV;simp only [bu,List.flatMap_cons,BT.nodes,Υ,List.cons_append];exact List.Perm.cons x ((ji r).append_left _)
theorem Ci {A:NS}:∀ {t:BT},dP A t->∀u,u∈bu t->dP A u/\Lone u
 | .nil,_,u,hu=>by cases hu
 | .node x l r,h,u,hu=>by
  simp only [bu,ρ] at hu;rcases hu with e|e
  ·subst e;exact ⟨⟨h.1,h.2.1,trivial⟩,rfl⟩
  ·exact Ci h.2.2 u e
def cK (l:List BT):List Int:=l.map BT.root
def fU (S:TS) (x:Nat) (ks:List Int):TS:=⟨fun z=>if z=x then -1 else S.l z,fun z=>if (z:Int)∈ks then -1 else S.r z,fun z=>if (z:Int)∈ks then -1 else S.u z⟩
theorem G8 {t u:BT} (hu:u∈bu t):u.root.toNat∈u.nodes/\u.root=(u.root.toNat:Int)/\u.root∈cK (bu t):=by
 refine ⟨?_,?_,List.mem_map.2 ⟨u,hu,rfl⟩⟩
 all_goals
  induction t with
  | nil=>cases hu
  | node x l r _ ih=>
   simp only [bu,ρ] at hu;rcases hu with e|e
   ·subst e;simp [BT.root,BT.nodes]
   ·exact ih e
theorem KX {t:BT} {z:Nat} (h:(z:Int)∈cK (bu t)):z∈t.nodes:=by
 obtain ⟨u,hu,e⟩:=List.mem_map.1 h;have h1:=G8 hu;refine (ji t).mem_iff.1 (List.mem_flatMap.2 ⟨u,hu,?_⟩);rw [←show u.root.toNat=z by omega];exact h1.1
theorem FD {S:TS} {x:Nat} {ks:List Int}:∀ {t:BT} {p:Int},bV S p t.root t->t.nodes.Nodup->x∉t.nodes->(∀z:Nat,z∈t.nodes->((z:Int)∈ks↔(z:Int)∈cK (bu t)))->
  ∀u,u∈bu t->bV (fU S x ks) (-1) u.root u
 | .nil,_,_,_,_,_,u,hu=>by cases hu
 | .node y l r,p,h,hn,hx,hk,u,hu=>by
  simp only [BT.nodes,ρ,τ,not_or] at hx;simp only [BT.nodes,Ζ,τ,not_or,θ] at hn;obtain ⟨⟨m1,m2⟩,m3,m4,m5⟩:=hn;obtain ⟨_,h2,h3,h4⟩:=h;have hl:∀z:Nat,z∈l.nodes->(z:Int)∉ks:=fun z hz hm=>by
   have:=(hk z (by simp [BT.nodes,hz])).1 hm;simp only [cK,bu,List.map_cons,ρ,BT.root] at this;rcases this with e|e
   ·have:z=y:=ω;exact m1 (by rw [←this];exact hz)
   ·exact m5 z hz z (KX e) rfl
  simp only [bu,ρ] at hu;rcases hu with e|e
  ·subst e;have hyk:(y:Int)∈ks:=(hk y (by simp [BT.nodes])).2 (by simp [cK,bu,BT.root]);refine ⟨rfl,by simp [fU,hyk],?_,by simp [fU,hyk,bV]⟩;have e1:(fU S x ks).l y=S.l y:=by have hyx:¬y=x:=fun e=>hx.1 e.symm;simp [fU,hyx]
   rw [e1];exact h3.frame (fun z hz=>⟨by simp [fU,show z≠x from fun e=>hx.2.1 (by rw [←e];exact hz)],by simp [fU,hl z hz],by simp [fU,hl z hz]⟩)
  ·have e4:=h4.root;rw [e4] at h4;refine FD h4 m4 hx.2.2 (fun z hz=>?_) u e;rw [hk z (by simp [BT.nodes,hz])];simp only [cK,bu,List.map_cons,ρ,BT.root];constructor
   ·rintro (e|e)
    ·have:z=y:=ω;exact absurd (by rw [←this];exact hz) m2
    ·exact e
   ·exact Β
theorem Q4 {S:TS} {x z:Nat} {ks:List Int} (h1:z≠x) (h2:(z:Int)∉ks):S.at (fU S x ks) z:=by unfold fU TS.at;simp [h1,h2]
noncomputable def bS (A:NS):List BT->List BT
 | []=>[]
 | [a]=>[a]
 | a::b::l=>cO A a b::bS A l
noncomputable def fJ (A:NS) (l:List BT):BT:=l.foldr (cO A) .nil
theorem bG (t:BT) (l:List BT):fV (t::l)=t.nodes++fV l:=rfl
theorem fG (l m:List BT):fV (l++m)=fV l++fV m:=by unfold fV;rw [List.flatMap_append]
theorem rD (A:NS):∀ (l:List BT),(bS A l).length=(l.length+1) / 2
 | []=>rfl
 | [_]=>by simp [bS]
 | a::b::l=>by
  show (bS A l).length+1=_
  rw [rD A l];simp;omega
theorem CJ (A:NS):∀ (l:List BT),(∀t,t∈l->Lone t)->(fV (bS A l)).Perm (fV l)
 | [],_=>ό _
 | [_],_=>ό _
 | a::b::l,h=>by
  show (fV (cO A a b::bS A l)).Perm _
  rw [bG,bG,bG,←ϋ];exact (lq A (h a σ) (h b σ)).append (CJ A l (fun t ht=>h t (by simp [ht])))
theorem xh (A:NS):∀ (l:List BT),(∀t,t∈l->Lone t)->(fJ A l).nodes.Perm (fV l)/\Lone (fJ A l)
 | [],_=>⟨ό _,trivial⟩
 | a::l,h=>by
  have ih:=xh A l (fun t ht=>h t (by simp [ht]));exact ⟨(lq A (h a σ) ih.2).trans (ih.1.append_left _),mO A (h a σ) ih.2⟩
theorem uM (A:NS):∀ (k:Nat) (l:List BT),2*k<=l.length->bS A l=(bS A l).take k++bS A (l.drop (2*k))
 | 0,l,_=>σ
 | k+1,[],h=>by simp at h
 | k+1,[_],h=>by simp at h;omega
 | k+1,a::b::l,h=>by
  have h1:=uM A k l (by simp at h;omega)
  show cO A a b::bS A l=_
  rw [show 2*(k+1)=2*k+2 by omega];simp only [bS,List.take_succ_cons,List.cons_append,List.drop_succ_cons];rw [←h1]
end Go.Proofs.YtklibcncmbofpaaGreat
namespace Go.Proofs.YtklibcncmbofpaaGreat
open Go Go.RowKit
structure PB where
 n0:Nat
 c:Nat
 ba:Nat
structure gL (w:World) (B:PB) (F:List Nat) (gt ct:Nat) (A:NS) (st:Nat) (S:TS) (ah:List Int):Prop where
 head:aK w B.n0 215 3 (fun j=>[Value.pointer (some ⟨B.c,0,none⟩),.slice (some ⟨B.ba,0,none⟩) A.cs.length A.cs.length,.slice (some ⟨gt,0,none⟩) ah.length ct].getD j undef)
 cells:aC w B.c F A st
 ties:aK w B.ba 217 (A.cs.length*3) (dC S)
 jv:IZ w gt ct ah
 jc:ah.length=A.hs.length
 bz:B.n0∉F/\B.ba∉F/\gt∉F
 sep:B.n0≠B.ba/\B.n0≠gt/\B.ba≠gt
section
variable {w:World} {B:PB} {F:List Nat} {gt ct:Nat} {A:NS} {st:Nat} {S:TS} {ah:List Int}
def PB.blk (B:PB) (F:List Nat) (gt:Nat):List Nat:=B.n0::B.ba::gt::F
theorem gL.upd {w':World} {G:List Nat} (h:gL w B F gt ct A st S ah) (hu:aa G w w') (hG:∀x,x∈G->x∉B.blk F gt):gL w' B F gt ct A st S ah:=by
 have h1:∀x,x∈B.blk F gt->x∉G:=fun x hx hg=>hG x hg hx;exact ⟨h.head.upd hu (h1 _ (by simp [PB.blk])),h.cells.upd hu (fun x hx=>fun hm=>hG x hx (by simp [PB.blk,hm])),h.ties.upd hu (h1 _ (by simp [PB.blk])),h.jv.upd hu (h1 _ (by simp [PB.blk])),h.jc,h.bz,h.sep⟩
theorem gL.aj {w':World} (h:gL w B F gt ct A st S ah) (hu:aa [] w w'):gL w' B F gt ct A st S ah:=h.upd hu σ
theorem gL.lt (h:gL w B F gt ct A st S ah):∀x,x∈B.blk F gt->x<w.heap.size:=by
 intro x hx;have:=h.head.lt;have:=h.ties.lt;have:=h.jv.lt;simp only [PB.blk,ρ] at hx;rcases hx with rfl|rfl|rfl|hx
 ·assumption
 ·assumption
 ·assumption
 ·exact h.cells.lt x hx
theorem gL.cF (h:gL w B F gt ct A st S ah):B.c∈F:=h.cells.mem
theorem gL.h0 (h:gL w B F gt ct A st S ah):w.cell? ⟨B.n0,0,none⟩=some (.pointer (some ⟨B.c,0,none⟩)):=h.head.cellAt 0 ω rfl
theorem gL.h1 (h:gL w B F gt ct A st S ah):w.cell? ⟨B.n0,1,none⟩=some (.slice (some ⟨B.ba,0,none⟩) A.cs.length A.cs.length):=h.head.cellAt 1 ω rfl
theorem gL.h2 (h:gL w B F gt ct A st S ah):w.cell? ⟨B.n0,2,none⟩=some (.slice (some ⟨gt,0,none⟩) ah.length ct):=h.head.cellAt 2 ω rfl
theorem gL.l (h:gL w B F gt ct A st S ah) (x:Nat) (hx:x<A.cs.length):w.cell? ⟨B.ba,x*3,none⟩=some (.int .i64 (S.l x)):=h.ties.cellAt _ ω (oW S x)
theorem gL.r (h:gL w B F gt ct A st S ah) (x:Nat) (hx:x<A.cs.length):w.cell? ⟨B.ba,x*3+1,none⟩=some (.int .i64 (S.r x)):=h.ties.cellAt _ ω (pV S x)
theorem gL.u (h:gL w B F gt ct A st S ah) (x:Nat) (hx:x<A.cs.length):w.cell? ⟨B.ba,x*3+2,none⟩=some (.int .i64 (S.u x)):=h.ties.cellAt _ ω (tY S x)
theorem gL.f (h:gL w B F gt ct A st S ah) (j:Nat):w.frozen? ⟨B.ba,j,none⟩=false:=h.ties.free j
theorem gL.iE {w':World} {S':TS} (h:gL w B F gt ct A st S ah) (hu:aa [B.ba] w w') (hT:aK w' B.ba 217 (A.cs.length*3) (dC S')):gL w' B F gt ct A st S' ah:=by
 have s:=h.sep;have f:=h.bz;exact ⟨h.head.upd hu ζ,h.cells.upd hu (fun x hx=>by simp at hx;rw [hx];exact f.2.1),hT,h.jv.upd hu ζ,h.jc,f,s⟩
theorem gL.ext {S':TS} (h:gL w B F gt ct A st S ah) (hS:∀x,S'.l x=S.l x/\S'.r x=S.r x/\S'.u x=S.u x):gL w B F gt ct A st S' ah:=by
 have e:S'=S:=by
  cases S;cases S';simp only [TS.mk.injEq];exact ⟨funext fun x=>(hS x).1,funext fun x=>(hS x).2.1,funext fun x=>(hS x).2.2⟩
 rw [e];exact h
theorem UI (S:TS) (p:Nat) (v:Int) (j:Nat):(if j=p*3 then Value.int .i64 v else dC S j)=dC (S.aF p false v) j:=by
 unfold dC TS.aF
 by_cases hj2:j=p*3
 ·subst hj2;simp
 ·by_cases h0:j % 3=0
  ·simp [hj2,h0];intro hh;exfalso;omega
  ·simp [hj2,h0]
theorem VF (S:TS) (p:Nat) (v:Int) (j:Nat):(if j=p*3+1 then Value.int .i64 v else dC S j)=dC (S.aF p true v) j:=by
 unfold dC TS.aF
 by_cases hj2:j=p*3+1
 ·subst hj2;simp;intro hh;exfalso;omega
 ·by_cases h0:j % 3=1
  ·simp [hj2,h0];intro hh;exfalso;omega
  ·simp [hj2,h0]
theorem UD (S:TS) (p:Nat) (v:Int) (j:Nat):(if j=p*3+2 then Value.int .i64 v else dC S j)=dC (S.bO p v) j:=by
 unfold dC TS.bO
 by_cases hj2:j=p*3+2
 ·subst hj2;simp;intro hh;exfalso;omega
 ·by_cases h0:j % 3=0
  ·simp [hj2,h0]
  ·by_cases h1:j % 3=1
   ·simp [hj2,h1]
   ·simp [hj2,h0,h1];intro hh;exfalso;omega
theorem gL.IQ (h:gL w B F gt ct A st S ah) (p:Nat) (v:Int):gL (w.setCell ⟨B.ba,p*3,none⟩ (.int .i64 v)) B F gt ct A st (S.aF p false v) ah:=
 h.iE β ((h.ties.set _ _).ext (fun j _=>UI S p v j))
theorem gL.cz (h:gL w B F gt ct A st S ah) (p:Nat) (v:Int):gL (w.setCell ⟨B.ba,p*3+1,none⟩ (.int .i64 v)) B F gt ct A st (S.aF p true v) ah:=
 h.iE β ((h.ties.set _ _).ext (fun j _=>VF S p v j))
theorem gL.rG (h:gL w B F gt ct A st S ah) (p:Nat) (v:Int):gL (w.setCell ⟨B.ba,p*3+2,none⟩ (.int .i64 v)) B F gt ct A st (S.bO p v) ah:=
 h.iE β ((h.ties.set _ _).ext (fun j _=>UD S p v j))
theorem gL.qz (h:gL w B F gt ct A st S ah) (x:Nat) (k:Int):gL (w.setCell ⟨gt,x,none⟩ (.int .i64 k)) B F gt ct A st S (ah.set x k):=by
 have s:=h.sep;have f:=h.bz;have hu:aa [gt] w (w.setCell ⟨gt,x,none⟩ (.int .i64 k)):=β;exact ⟨by rw [Ι];exact h.head.upd hu ζ,h.cells.upd hu (fun x hx=>by simp at hx;rw [hx];exact f.2.2),h.ties.upd hu ζ,h.jv.set x k,by rw [Ι];exact h.jc,f,s⟩
theorem gL.bY {w':World} {F':List Nat} {A':NS} {st':Nat} (h:gL w B F gt ct A st S ah) (hu:aa F w w') (hC:aC w' B.c F' A' st') (hF:∀x,x∈F'->x∈F\/w.heap.size<=x) (h1:A'.cs.length=A.cs.length) (h2:A'.hs.length=A.hs.length):gL w' B F' gt ct A' st' S ah:=by
 have f:=h.bz;have g:=h.lt;have hf:∀x,x<w.heap.size->x∉F->x∉F':=fun x hx hn hm=>by rcases hF x hm with h'|h';exact hn h';omega
 have l0:=g B.n0 (by simp [PB.blk]);have l1:=g B.ba (by simp [PB.blk]);have l4:=g gt (by simp [PB.blk]);exact ⟨by rw [h1];exact h.head.upd hu f.1,hC,by rw [h1];exact h.ties.upd hu f.2.1,h.jv.upd hu f.2.2,by rw [h2];exact h.jc,⟨hf _ l0 f.1,hf _ l1 f.2.1,hf _ l4 f.2.2⟩,h.sep⟩
end
def mJ (w:World) (B:PB) (F:List Nat) (gt ct:Nat) (A:NS) (st:Nat) (tr:Nat->BT):Prop:=∃S ah,gL w B F gt ct A st S ah/\vT Ju A S ah tr/\∀h,Lone (tr h)
theorem mJ.upd {w w':World} {B:PB} {F G:List Nat} {gt ct st:Nat} {A:NS} {tr:Nat->BT} (h:mJ w B F gt ct A st tr) (hu:aa G w w') (hG:∀x,x∈G->x∉B.blk F gt):mJ w' B F gt ct A st tr:=by
 obtain ⟨S,ah,hM,hI⟩:=h;exact ⟨S,ah,hM.upd hu hG,hI⟩
theorem mJ.aj {w w':World} {B:PB} {F:List Nat} {gt ct st:Nat} {A:NS} {tr:Nat->BT} (h:mJ w B F gt ct A st tr) (hu:aa [] w w'):mJ w' B F gt ct A st tr:=h.upd hu σ
section
variable {w:World} {B:PB} {F:List Nat} {gt ct:Nat} {A:NS} {st:Nat} {S:TS} {ah:List Int}
theorem BR (S:TS) (x y:Nat) (h:S.l x=-1):∀z,(gU S x y).l z=((((S.aF y true (S.l x)).bO y x).aF x false y)).l z/\(gU S x y).r z=((((S.aF y true (S.l x)).bO y x).aF x false y)).r z/\(gU S x y).u z=((((S.aF y true (S.l x)).bO y x).aF x false y)).u z:=fun z=>by
 unfold gU TS.aF TS.bO;rw [h];refine ⟨σ,σ,?_⟩;have:¬ (z:Int)=-1:=ω;simp [this]
theorem BO (S:TS) (x y o:Nat) (h:S.l x=o) (hoy:o≠y):∀z,(gU S x y).l z=(((((S.aF y true (S.l x)).bO y x).bO o y).aF x false y)).l z/\(gU S x y).r z=(((((S.aF y true (S.l x)).bO y x).bO o y).aF x false y)).r z/\(gU S x y).u z=(((((S.aF y true (S.l x)).bO y x).bO o y).aF x false y)).u z:=fun z=>by
 unfold gU TS.aF TS.bO;rw [h];refine ⟨σ,σ,?_⟩;simp only [Ϟ,if_false,if_true]
 by_cases h1:z=y
 ·subst h1;rw [Δ rfl,Γ (fun e=>hoy e.symm),Δ rfl]
 ·rw [Γ h1]
  by_cases h2:z=o
  ·subst h2;simp
  ·rw [Γ (show ¬ (z:Int)=(o:Int) by omega),Γ h2,Γ h1]
theorem wB (b:Int) (w:World) (n0:Nat):Calls Tryz.prog 215 #[.pointer (some ⟨n0,0,none⟩),.int .i64 (-1),.int .i64 b] w fun e w'=>e=.returned (.int .i64 b)/\w'=w:=by
 go_enter Tryz.func215,Tryz.ntmps215
 go_wp2;go_ret;exact ⟨rfl,rfl⟩
theorem DC (a:Int) (w:World) (n0:Nat):Calls Tryz.prog 215 #[.pointer (some ⟨n0,0,none⟩),.int .i64 a,.int .i64 (-1)] w fun e w'=>e=.returned (.int .i64 a)/\w'=w:=by
 by_cases h:a=-1
 ·subst h;exact wB (-1) w n0
 ·have hb:(a == -1)=false:=by simpa using h
  go_enter Tryz.func215,Tryz.ntmps215
  go_wp2;go_ret;exact ⟨rfl,rfl⟩
theorem FK (h:gL w B F gt ct A st S ah) (x y:Nat) (hx:bQ A (x:Int)=true) (hy:bQ A (y:Int)=true) (hxy:x≠y) (hkx:S.l x=-1\/(0<=S.l x/\S.l x<A.cs.length)) (hky:S.l y=-1\/(0<=S.l y/\S.l y<A.cs.length)) (hnx:S.l x≠y) (hny:S.l y≠x) :
  Calls Tryz.prog 215 #[.pointer (some ⟨B.n0,0,none⟩),.int .i64 (x:Int),.int .i64 (y:Int)] w fun e w'=>e=.returned (.int .i64 ((if bX A y x then y else x:Nat):Int))/\(∃st',gL w' B F gt ct A st' (if bX A y x then gU S y x else gU S x y) ah)/\aa [B.ba,B.c] w w':=by
 have ka:=dX h.cells y x hy hx;have hx2:=(ae _ _).1 hx;have hy2:=(ae _ _).1 hy;have hA:=h.cells.ok.c1;have c0:=h.h0;have hM1:∀w1,aC w1 B.c F A (bR st 1)->aa [B.c] w w1->gL w1 B F gt ct A (bR st 1) S ah:=fun w1 hC hu=>h.bY (hu.mono (fun z hz=>by simp at hz;rw [hz];exact h.cF)) hC (fun z hz=>Α hz) rfl rfl;have hb1:((x:Int) == -1)=false:=σ;have hb2:((y:Int) == -1)=false:=σ;have HX:=χ (ψ hM1 h.sep);have Bl:(x:Int)<(A.cs.length:Int):=ω;have ZC:(y:Int)<(A.cs.length:Int):=ω;clear h hx hy hM1
 by_cases hlt:bX A y x
 ·rw [Ν hlt] at ka;rw [Δ hlt,Δ hlt];clear hlt hkx
  go_enter Tryz.func215,Tryz.ntmps215
  go_upto_region 7 with (first
   | ((go_at_call 174;(with_reducible refine (ka).mono ?_));rintro e w1 ⟨rfl,hC,hu1⟩)
   | fail)
  obtain ⟨hM1,hsep⟩:=HX.out;have hM:=hM1 w1 hC hu1;have c1:=hM.h1;have dl:=hM.l y hy2.1;have dr:=hM.r x hx2.1;have du:=hM.u x hx2.1;have ff:=hM.f;have TM:=ff (x*3+1);have TP:=ff (x*3+2);have Un:=ff (y*3);have hn1:¬B.n0=B.ba:=hsep.1;have hn2:¬B.ba=B.n0:=fun e=>hsep.1 e.symm;have HM:=χ (ψ hM hu1);have nb1:¬y*3=x*3+1:=ω;have nb2:¬y*3=x*3+2:=ω;have nbl:y*3<A.cs.length*3:=ω;clear hM hu1 hC hM1 hsep ka
  by_cases ho:S.l y=-1
  ·have HO:=χ ho;have he:=BR S y x ho;rw [ho] at dl he;have HE:=χ he;have hlr:((-1:Int) != -1)=false:=σ;clear ho he hky hny
   go_upto_region 8 with (fail)
   go_region_law (fail)
   all_goals
    go_wp2;go_ret;refine ⟨rfl,⟨_,gL.ext ((((HM.out.1.cz x (-1)).rG x y).IQ y x).aj ?_) HE.out⟩,(HM.out.2.mono σ).trans ?_⟩
    ·exact ν
    ·exact β
  ·obtain ⟨o,vR⟩:∃o:Nat,S.l y=o:=⟨(S.l y).toNat,ω⟩;have hol:o<A.cs.length:=ω;have hoy:o≠x:=fun e=>hny (by rw [vR,e]);have he:=BO S y x o vR hoy;rw [vR] at dl he;have HE:=χ he;have Bb:((o:Int) != -1)=true:=σ;have hoI:(o:Int)<(A.cs.length:Int):=ω;have do_:=HM.out.1.u o hol;have U5:=ff (o*3+2);have no1:¬o*3+2=x*3+1:=ω;have no2:¬o*3+2=x*3+2:=ω;have no3:¬y*3=o*3+2:=ω;clear ho he vR hky hny
   go_upto_region 8 with (fail)
   go_region_law (fail)
   all_goals
    go_wp2;go_ret;refine ⟨rfl,⟨_,gL.ext (((((HM.out.1.cz x (o:Int)).rG x y).rG o x).IQ y x).aj ?_) HE.out⟩,(HM.out.2.mono σ).trans ?_⟩
    ·exact ν
    ·exact β
 ·rw [Ξ hlt] at ka;rw [Γ hlt,Γ hlt];clear hlt hky
  go_enter Tryz.func215,Tryz.ntmps215
  go_upto_region 7 with (first
   | ((go_at_call 174;(with_reducible refine (ka).mono ?_));rintro e w1 ⟨rfl,hC,hu1⟩)
   | fail)
  obtain ⟨hM1,hsep⟩:=HX.out;have hM:=hM1 w1 hC hu1;have c1:=hM.h1;have dl:=hM.l x hx2.1;have dr:=hM.r y hy2.1;have du:=hM.u y hy2.1;have ff:=hM.f;have TM:=ff (y*3+1);have TP:=ff (y*3+2);have Un:=ff (x*3);have hn1:¬B.n0=B.ba:=hsep.1;have hn2:¬B.ba=B.n0:=fun e=>hsep.1 e.symm;have HM:=χ (ψ hM hu1);have nb1:¬x*3=y*3+1:=ω;have nb2:¬x*3=y*3+2:=ω;have nbl:x*3<A.cs.length*3:=ω;clear hM hu1 hC hM1 hsep ka
  by_cases ho:S.l x=-1
  ·have HO:=χ ho;have he:=BR S x y ho;rw [ho] at dl he;have HE:=χ he;have hlr:((-1:Int) != -1)=false:=σ;clear ho he hkx hnx
   go_upto_region 8 with (fail)
   go_region_law (fail)
   all_goals
    go_wp2;go_ret;refine ⟨rfl,⟨_,gL.ext ((((HM.out.1.cz y (-1)).rG y x).IQ x y).aj ?_) HE.out⟩,(HM.out.2.mono σ).trans ?_⟩
    ·exact ν
    ·exact β
  ·obtain ⟨o,vR⟩:∃o:Nat,S.l x=o:=⟨(S.l x).toNat,ω⟩;have hol:o<A.cs.length:=ω;have hoy:o≠y:=fun e=>hnx (by rw [vR,e]);have he:=BO S x y o vR hoy;rw [vR] at dl he;have HE:=χ he;have Bb:((o:Int) != -1)=true:=σ;have hoI:(o:Int)<(A.cs.length:Int):=ω;have do_:=HM.out.1.u o hol;have U5:=ff (o*3+2);have no1:¬o*3+2=y*3+1:=ω;have no2:¬o*3+2=y*3+2:=ω;have no3:¬x*3=o*3+2:=ω;clear ho he vR hkx hnx
   go_upto_region 8 with (fail)
   go_region_law (fail)
   all_goals
    go_wp2;go_ret;refine ⟨rfl,⟨_,gL.ext (((((HM.out.1.cz y (o:Int)).rG y x).rG o y).IQ x y).aj ?_) HE.out⟩,(HM.out.2.mono σ).trans ?_⟩
    ·exact ν
    ·exact β
end
theorem xP {a b:List Nat} (h:(a++b).Nodup):(b++a).Nodup:=(Φ (l₁:=a) (l₂:=b)).nodup_iff.1 h
theorem nI {S:TS} {p z:Int} {t:BT} {n:Nat} (h:bV S p z t) (hl:∀y,y∈t.nodes->y<n):z=-1\/(0<=z/\z<n):=by
 rw [h.root]
 by_cases e:t=.nil
 ·left;rw [e];rfl
 ·right;have h1:=bH e;have:=hl _ h1.1;omega
section
variable {w:World} {B:PB} {F:List Nat} {gt ct:Nat} {A:NS} {st:Nat} {S:TS} {ah:List Int}
theorem wI (h:gL w B F gt ct A st S ah) (a b:BT) (ha:bV S (-1) a.root a) (hb:bV S (-1) b.root b) (la:Lone a) (lb:Lone b) (hn:(a.nodes++b.nodes).Nodup) (hin:∀z,z∈a.nodes++b.nodes->bQ A (z:Int)=true) :
  Calls Tryz.prog 215 #[.pointer (some ⟨B.n0,0,none⟩),.int .i64 a.root,.int .i64 b.root] w fun e w'=>e=.returned (.int .i64 (cO A a b).root)/\aa [B.ba,B.c] w w'/\∃st' S',gL w' B F gt ct A st' S' ah/\bV S' (-1) (cO A a b).root (cO A a b)/\∀z,z∉a.nodes++b.nodes->S.at S' z:=by
 cases a with
 | nil=>
  rw [tN];refine (wB b.root w B.n0).mono ?_;rintro e w' ⟨rfl,rfl⟩;exact ⟨rfl,aa.refl _ _,st,S,h,hb,fun z _=>⟨rfl,rfl,rfl⟩⟩
 | node x l r=>
  cases b with
  | nil=>
   rw [qA];refine (DC (BT.node x l r).root w B.n0).mono ?_;rintro e w' ⟨rfl,rfl⟩;exact ⟨rfl,aa.refl _ _,st,S,h,ha,fun z _=>⟨rfl,rfl,rfl⟩⟩
  | node y m q=>
   have e1:r=.nil:=la;have e2:q=.nil:=lb;subst e1 e2;have hlt:∀z,z∈(BT.node x l .nil).nodes++(BT.node y m .nil).nodes->z<A.cs.length:=fun z hz=>((ae _ _).1 (hin z hz)).1;have hxy:x≠y:=fun e=>by
    rw [θ] at hn;exact hn.2.2 x (by simp [BT.nodes]) y (by simp [BT.nodes]) e
   have hrx:=nI (n:=A.cs.length) ha.2.2.1 (fun z hz=>hlt z (by simp [BT.nodes,hz]));have hry:=nI (n:=A.cs.length) hb.2.2.1 (fun z hz=>hlt z (by simp [BT.nodes,hz]));have hne:∀ {u:Nat} {t t':BT},S.l u=t.root->(∀z,z∈t.nodes->z∉t'.nodes)->∀v,v∈t'.nodes->S.l u≠(v:Int):=fun {u t t'} h1 h2 v hv e=>by
    rw [h1] at e;have h6:t≠.nil:=fun e'=>by rw [e'] at e;simp [BT.root] at e
    have h7:=(bH h6).1;rw [e,π] at h7;exact h2 v h7 hv
   have hnn:=hn;rw [θ] at hnn;have hnx:S.l x≠(y:Int):=hne (t':=.node y m .nil) ha.2.2.1.root (fun z hz hm=>hnn.2.2 z (by simp [BT.nodes,hz]) z hm rfl) y (by simp [BT.nodes]);have hny:S.l y≠(x:Int):=hne (t':=.node x l .nil) hb.2.2.1.root (fun z hz hm=>hnn.2.2 z hm z (by simp [BT.nodes,hz]) rfl) x (by simp [BT.nodes]);refine (FK h x y (hin x (by simp [BT.nodes])) (hin y (by simp [BT.nodes])) hxy hrx hry hnx hny).mono ?_;rintro e w' ⟨rfl,⟨st',hM⟩,hu⟩;rw [qd]
   by_cases hc:bX A y x
   ·simp only [Δ hc] at hM ⊢;obtain ⟨h1,h2⟩:=CU hb ha (xP hn);exact ⟨rfl,hu,st',_,hM,h1,fun z hz=>h2 z (fun hm=>hz (by rw [τ] at hm ⊢;exact hm.symm))⟩
   ·simp only [Γ hc] at hM ⊢;obtain ⟨h1,h2⟩:=CU ha hb hn;exact ⟨rfl,hu,st',_,hM,h1,h2⟩
end
theorem Vn:(Tryz.prog.info? 217).map (fun i=>(i.zero,i.size,i.bytes))=some (some (.agg #[.int .i64 0,.int .i64 0,.int .i64 0]),3,24):=by kernel_rfl
theorem Ow (n:Nat):vT Ju (NS.new n) TS.none [-1] (fun _=>.nil):=DD n
theorem NB (n:Nat) (w:World) (h:n<=65536) :
  Calls Tryz.prog 96 #[.int .i64 (n:Int)] w fun e w'=>∃B F gt,e=.returned (.tuple #[.pointer (some ⟨B.n0,0,none⟩),.int .i64 0])/\mJ w' B F gt 1 (NS.new n) 0 (fun _=>.nil)/\aa [] w w'/\∀x,x∈B.blk F gt->w.heap.size<=x:=by
 have hcs:(NS.new n).cs.length=n:=by simp [NS.new]
 have HCS:=χ hcs;clear hcs
 go_enter Tryz.func96,Tryz.ntmps96
 go_wp2_with (first
  | ((go_at_call 107;(with_reducible refine (nO n _ h).mono ?_));rintro e w1 ⟨c,F,rfl,hC,hu1,hF⟩)
  | (at_make;refine wpList_make_row rfl _ 213 rfl 217 (.agg #[.int .i64 0,.int .i64 0,.int .i64 0]) 3 24 Tryz.underlying213 Vn n rfl ω μ ?_;intro w3 hr3 hu3))
 have l1:=hu1.size;have l3:=hu3.size;have l4:=hr3.lt;have l7:=hC.lt;have lc:=l7 c hC.mem;have e3:((w3.alloc (.cells #[.int .i64 (-1)] 3)).heap.size)=w3.heap.size+1:=by rw [Κ]
 have hv:aa [] w3 (w3.alloc (.cells #[.int .i64 (-1)] 3)):=(aa.refl _ _).alloc _;obtain ⟨W4,Ui⟩:∃W4,W4=(w3.alloc (.cells #[.int .i64 (-1)] 3)).alloc (.cells #[.pointer (some ⟨c,0,none⟩),.slice (some ⟨w1.heap.size,0,none⟩) n n,.slice (some ⟨w3.heap.size,0,none⟩) 1 1] 215):=⟨_,rfl⟩;have hw:aa [] w3 W4:=by rw [Ui];exact hv.alloc _
 have hh:=dJ (w3.alloc (.cells #[.int .i64 (-1)] 3)) [.pointer (some ⟨c,0,none⟩),.slice (some ⟨w1.heap.size,0,none⟩) n n,.slice (some ⟨w3.heap.size,0,none⟩) 1 1] 215;rw [e3] at hh;rw [←Ui] at hh;have hi:IZ W4 w3.heap.size 1 [-1]:=by rw [Ui];exact (IZ.lit w3 [-1] σ).upd ((aa.refl [] _).alloc _) σ
 have PL:aC W4 c F (NS.new n) 0:=(hC.aj hu3).aj hw;have hr4:=hr3.upd hw σ;have u4:aa [] w W4:=(hu1.trans hu3).trans hw;have hF':∀x,x∈F->x<w1.heap.size:=l7;have hnF:∀x,w1.heap.size<=x->x∉F:=fun x hx hm=>by have:=hF' x hm;omega
 have l5:=hw.size;rw [←Ui];clear Ui e3 hv hu3 hr3 hw hC;have H4:=χ (ψ PL (ψ hi (ψ u4 (ψ hF (ψ hF' hnF)))));clear PL hi u4 hF hF' hnF hu1 l7;go_wp2
 go_loopw [7,27] (fun v7 i wr=>∃ (k:Nat) (f:Nat->Value),k<=n/\i=.int .i64 k/\aK wr (w3.heap.size+1) 215 3 (fun j=>[Value.pointer (some ⟨c,0,none⟩),.slice (some ⟨w1.heap.size,0,none⟩) n n,.slice (some ⟨w3.heap.size,0,none⟩) 1 1].getD j undef)/\aK wr w1.heap.size 217 (n*3) f/\(∀j,j<k*3->f j=.int .i64 (-1))/\aa [w1.heap.size] W4 wr) (fun _ i _=>n-(intOf i).toNat)
 case atStart=>exact ⟨0,_,ω,rfl,hh.ext (fun j hj=>by (have h3:j<3:=by simpa using hj);rcases (ω:j=0\/j=1\/j=2) with rfl|rfl|rfl<;>rfl),hr4,ω,aa.refl _ _⟩
 case round=>
  obtain ⟨k,f,hk,rfl,hH,hR,hf,hu⟩:=hrel;rename World=>wr
  by_cases hkn:k<n
  ·have c0:=hH.cellAt 1 ω rfl;have d0:=hR.cell (k*3) ω;have d1:=hR.cell (k*3+1) ω;have d2:=hR.cell (k*3+2) ω;have e0:=hR.free (k*3);have e1:=hR.free (k*3+1);have e2:=hR.free (k*3+2);have HF:=χ (ψ hf (ψ hH (ψ hR hu)));have WZ:decide ((k:Int)<(n:Int))=true:=ζ;clear hf hH hR hu hh hr4;go_wp2
   go_roundw
   case rel=>
    obtain ⟨hf,hH,hR,hu⟩:=HF.out;refine ⟨k+1,_,ω,by go_num,((hH.far _ _ ζ).far _ _ ζ).far _ _ ζ,((hR.set _ _).set _ _).set _ _,fun j hj=>?_,((hu.setCell (Α σ) _).setCell (Α σ) _).setCell (Α σ) _⟩
    show (if j=k*3+2 then _ else if j=k*3+1 then _ else if j=k*3 then _ else f j)=_
    split
    ·rfl
    ·split
     ·rfl
     ·split
      ·rfl
      ·exact hf j ω
   case measure=>simp [intOf];omega
  ·obtain rfl:k=n:=ω;have WZ:decide ((k:Int)<(k:Int))=false:=σ;have HF:=χ (ψ hf (ψ hH (ψ hR hu)));clear hf hH hR hu hh hr4;go_wp2;go_ret2;obtain ⟨hf,hH,hR,hu⟩:=HF.out;obtain ⟨PL,hi,u4,hF,hF',hnF⟩:=H4.out;have hcs:=HCS.out
   refine ⟨⟨w3.heap.size+1,c,w1.heap.size⟩,F,w3.heap.size,rfl,⟨TS.none,[-1],⟨by rw [hcs];exact hH,PL.upd hu (fun x hx=>by simp at hx;rw [hx];exact hnF _ (Θ _)),?_,hi.upd hu ζ,rfl,⟨hnF _ (by simp only;omega),hnF _ (by simp only;omega),hnF _ ω⟩,⟨by simp only;omega,by simp only;omega,by simp only;omega⟩⟩,Ow _,fun _=>trivial⟩,u4.joined hu (fun x hx=>Β (by simp at hx;omega)),fun x hx=>?_⟩
   ·rw [hcs];exact hR.ext (fun j hj=>by rw [hf j hj];unfold dC TS.none;simp)
   ·simp only [PB.blk,ρ] at hx;rcases hx with rfl|rfl|rfl|hx
    ·omega
    ·omega
    ·omega
    ·exact hF x hx
theorem vT.Xr {A:NS} {S:TS} {ah:List Int} {tr:Nat->BT} (h:vT Ju A S ah tr) (hL:∀h,Lone (tr h)) {g:Nat} (hg:0<dI A g):∃m:Nat,(tr g).root=m/\dF A g=some m:=by
 obtain ⟨x,hx,hi,h0⟩:=eH.1 hg;have hxm:x∈(tr g).nodes:=(h.mem g x).2 ⟨ω,hx,hi⟩;cases ht:tr g with
 | nil=>rw [ht] at hxm;cases hxm
 | node m l r=>
  have hm:=(h.mem g m).1 (by rw [ht];simp [BT.nodes]);have hH:dP A (tr g):=h.heap g;have hl:=hL g;rw [ht] at hH hl;have hr:r=.nil:=hl;subst hr;refine ⟨m,rfl,(iB h0).2 ⟨hm.2.1,hm.2.2,fun y hy hyi=>?_⟩⟩;have hym:=(h.mem g y).2 ⟨ω,hy,hyi⟩;rw [ht] at hym;exact aaO hH y hym
section
variable {w:World} {B:PB} {F:List Nat} {gt ct:Nat} {A:NS} {st:Nat} {tr:Nat->BT}
theorem AV (h:mJ w B F gt ct A st tr) (g:Nat) (hn:0<dI A g) :
  Calls Tryz.prog 213 #[.pointer (some ⟨B.n0,0,none⟩),.int .i64 (g:Int)] w fun e w'=>∃m:Nat,dF A g=some m/\(tr g).root=m/\e=.returned (.tuple #[.int .i64 (m:Int),.bool true])/\w'=w:=by
 obtain ⟨S,ah,hM,hI,hL⟩:=h;obtain ⟨m,hm,hf⟩:=hI.Xr hL hn;obtain ⟨x,hx,hi,h0⟩:=eH.1 hn;have ok:=hM.cells.ok;have hgl:g<A.hs.length:=by have:=(ok.nat x hx).2;omega
 have WL:=ok.h1;have k:=pW hM.cells (g:Int) ω;have hh0:=hM.h0;have h3:=hM.h2;have d:=hM.jv.cell g (by rw [hM.jc];exact hgl);rw [hI.top g hgl,hm] at d;have htl:g<ah.length:=by rw [hM.jc];exact hgl
 generalize hl:dI A (g:Int)=n at *;have hb:((n:Int) == 0)=false:=ζ;have HF:=χ (ψ hf hm);clear hM hI hm hf hx hi h0 ok hl
 go_enter Tryz.func213,Tryz.ntmps213
 go_wp2_with (first|(go_at_call 142;(with_reducible refine (k).mono ?_);rintro e w9 ⟨rfl,aI⟩;rw [aI];clear aI w9))
 go_ret2;exact ⟨m,HF.out.1,HF.out.2,rfl,rfl⟩
theorem Ki (h:mJ w B F gt ct A st tr) (x:Int) (hx:-9223372036854775808<=x/\x<=9223372036854775807) (hn:dI A x=0) :
  Calls Tryz.prog 213 #[.pointer (some ⟨B.n0,0,none⟩),.int .i64 x] w fun e w'=>e=.returned (.tuple #[.int .i64 0,.bool false])/\w'=w:=by
 obtain ⟨S,ah,hM, -⟩:=h;have k:=pW hM.cells x hx;rw [hn] at k;have h0:=hM.h0;clear hM hn
 go_enter Tryz.func213,Tryz.ntmps213
 go_wp2_with (first|(go_at_call 142;(with_reducible refine (k).mono ?_);rintro e w9 ⟨rfl,aI⟩;rw [aI];clear aI w9))
 go_ret2;exact ⟨rfl,rfl⟩
theorem Nj (h:mJ w B F gt ct A st tr) (hl:65536<A.hs.length) :
  Calls Tryz.prog 211 #[.pointer (some ⟨B.n0,0,none⟩)] w fun e w'=>e=.returned (.int .i64 0)/\Goes (B.blk F gt) w w' (fun F'=>∃F1,F'=B.blk F1 gt/\mJ w' B F1 gt ct A st tr):=by
 obtain ⟨S,ah,hM,hI⟩:=h;have k:=iF hM.cells;have e1:cu A=0:=by unfold cu;rw [Δ hl]
 have e2:aN A=A:=by unfold aN;rw [Δ hl]
 rw [e1,e2] at k;have h0:=hM.h0;have HM:=χ hM;have HI:=χ hI;clear hM hI e1 e2
 go_enter Tryz.func211,Tryz.ntmps211
 go_wp2_with (first|((go_at_call 156;(with_reducible refine (k).mono ?_));rintro e w1 ⟨rfl,F1,hC,hu,hF⟩))
 go_ret
 exact ⟨rfl,B.blk F1 gt,⟨F1,rfl,S,ah,HM.out.bY hu hC hF rfl rfl,HI.out⟩,hu.mono (fun y hy=>by simp [PB.blk,hy]),fun x hx=>by
  simp only [PB.blk,ρ] at hx ⊢;rcases hx with rfl|rfl|rfl|hx
  ·simp
  ·simp
  ·simp
  ·rcases hF x hx with h|h
   ·simp [h]
   ·exact Β h⟩
theorem KF (h:mJ w B F gt ct A st tr) (hl:¬65536<A.hs.length) :
  Calls Tryz.prog 211 #[.pointer (some ⟨B.n0,0,none⟩)] w fun e w'=>e=.returned (.int .i64 (A.hs.length:Int))/\Goes (B.blk F gt) w w' (fun F'=>∃F1 oJ Gv,F'=B.blk F1 oJ/\mJ w' B F1 oJ Gv (aN A) st tr):=by
 obtain ⟨S,ah,hM,hI,hL⟩:=h;have k:=iF hM.cells;have e1:cu A=A.hs.length:=by unfold cu;rw [Γ hl]
 rw [e1] at k;have hcs:(aN A).cs.length=A.cs.length:=by unfold aN;rw [Γ hl]
 have kY:(aN A).hs.length=A.hs.length+1:=by unfold aN;rw [Γ hl];simp
 have hI2:=hI.make hM.cells.ok hM.jc hl;have h0:=hM.h0;have hh0:=hM.cells.ok.h0;have HTN:=χ hM.jc;have htb:ah.length<=65536:=by rw [hM.jc];omega
 have HM:=χ hM;have HI:=χ (ψ hI2 hL);clear hM hI hL e1 hI2
 go_enter Tryz.func211,Tryz.ntmps211
 go_wp2_with (first
  | ((go_at_call 156;(with_reducible refine (k).mono ?_));rintro e w1 ⟨rfl,F1,hC,hu,hF⟩;(have d3:=hu.kept HM.out.h2 HM.out.bz.1);(have f3:=hu.aH HM.out.h2 HM.out.bz.1 (HM.out.head.free 2));(have ho1:=(HM.out.jv.upd hu HM.out.bz.2.2).own);(have g0:B.n0≠gt:=HM.out.sep.2.1);(have gl:=(HM.out.jv.upd hu HM.out.bz.2.2).lt))
  | ((at_builtin;refine aV rfl _ _ 26 rfl 0 3 (.int .i64 0) 1 8 Tryz.underlying26 fE rfl δ _ _ _ rfl (ho1) [.int .i64 (-1)] rfl (by simp [Value.oneCell']) (by first|rfl|(rw [Κ];rfl)) μ ω (ω) ?_;intro v2 w2 ho2 hu2 mG);(have hu2:aa [gt] w1 w2:=hu2);obtain ⟨oJ,Gv,ev,hI2, -⟩:=IZ.gW (l:=ah++[-1]) (by rw [bP,υ];exact ho2) σ;rw [υ,List.length_singleton] at ev;subst ev;(have d4:=hu2.kept d3 ζ);(have f4:=hu2.aH d3 ζ f3)))
 go_ret;have hM:=HM.out;have hlt:=hM.lt;have f:=hM.bz;have q:=hM.sep;have hw3:aa [B.n0] w2 (w2.setCell ⟨B.n0,2,none⟩ (.slice (some ⟨oJ,0,none⟩) (ah.length+1) Gv)):=β;have hg1:oJ=gt\/w1.heap.size<oJ:=by
  rcases mG with h|h
  ·exact Α (Option.some.inj h)
  ·exact Β (h oJ rfl)
 have hws:=hu.size;have jd:=hC.lt;have l0:=hlt B.n0 (by simp [PB.blk]);have l1:=hlt B.ba (by simp [PB.blk]);have l4:=hlt gt (by simp [PB.blk]);have hnF:∀y,y<w.heap.size->y∉F->y∉F1:=fun y hy hn hm=>by rcases hF y hm with h'|h';exact hn h';omega
 have EU:oJ∉F1:=by
  rcases hg1 with e|e
  ·rw [e];exact hnF gt l4 f.2.2
  ·exact fun hm=>by have:=jd oJ hm;omega
 have hb:w.heap.size<=oJ\/oJ=gt:=ω;have hhd:=((hM.head.upd hu f.1).upd hu2 ζ).set 2 (.slice (some ⟨oJ,0,none⟩) (ah.length+1) Gv);refine ⟨rfl,B.blk F1 oJ,⟨F1,oJ,Gv,rfl,S,ah++[-1],⟨?_,?_,?_,hI2.upd hw3 ζ,?_,⟨hnF _ l0 f.1,hnF _ l1 f.2.1,EU⟩,⟨q.1,ω,ω⟩⟩,HI.out⟩,?_,fun y hy=>?_⟩
 ·rw [hcs,υ,List.length_singleton];refine hhd.ext (fun j hj=>?_);rcases (ω:j=0\/j=1\/j=2) with rfl|rfl|rfl<;>rfl
 ·exact (hC.upd hu2 (fun y hy=>by simp at hy;rw [hy];exact hnF gt l4 f.2.2)).upd hw3 (fun y hy=>by simp at hy;rw [hy];exact hnF _ l0 f.1)
 ·rw [hcs];exact ((hM.ties.upd hu f.2.1).upd hu2 ζ).upd hw3 ζ
 ·rw [υ,List.length_singleton,kY,HTN.out]
 ·have u1:aa (B.blk F gt) w w1:=hu.mono (fun y hy=>by simp [PB.blk,hy]);exact (u1.trans (hu2.mono (fun y hy=>by simp at hy;simp [PB.blk,hy]))).trans (hw3.mono (fun y hy=>by simp at hy;simp [PB.blk,hy]))
 ·simp only [PB.blk,ρ] at hy ⊢;rcases hy with rfl|rfl|rfl|hy
  ·simp
  ·simp
  ·rcases hb with h|h
   ·exact Β h
   ·exact Α (by simp [h])
  ·rcases hF y hy with h|h
   ·simp [h]
   ·exact Β h
end
section
variable {w:World} {B:PB} {F:List Nat} {gt ct:Nat} {A:NS} {st:Nat} {S:TS} {ah:List Int}
theorem OE (h:gL w B F gt ct A st S ah) (x:Nat) (hin:bQ A (x:Int)=true) (l:BT) (hl:bV S (x:Int) (S.l x) l) (hlt:∀z,z∈l.nodes->z<A.cs.length) (hsz:l.size<=65536) :
  Calls Tryz.prog 217 #[.pointer (some ⟨B.n0,0,none⟩),.int .i64 (x:Int)] w fun e w'=>∃ao co,e=.returned (.slice ao (bu l).length co)/\w'.ownsRow w.heap.size 3 1 (.slice ao (bu l).length co) (bu l).length (aP (cK (bu l)))/\gL w' B F gt ct A st S ah/\aa F w w':=by
 have kh:=dK h.cells x hin;have hx:=(ae _ _).1 hin;have hA:=h.cells.ok.c1;have c0:=h.h0;have hM1:∀w1,aC w1 B.c F A st->aa F w w1->gL w1 B F gt ct A st S ah:=fun w1 hC hu=>h.bY hu hC (fun z hz=>Α hz) rfl rfl;have Bl:(x:Int)<(A.cs.length:Int):=ω;have HL:=χ (ψ hl hlt);clear h hl hlt
 go_enter Tryz.func217,Tryz.ntmps217
 go_upto_region 5 with (first
  | ((go_at_call 140;(with_reducible refine (kh).mono ?_));rintro e w1 ⟨rfl,hC,hu1⟩)
  | fail)
 have hM:=hM1 w1 hC hu1;have c1:=hM.h1;have dl:=hM.l x hx.1;have hs1:=hu1.size;have HM:=χ (ψ hM hu1);have hlr:=HL.out.1.root;rw [hlr] at dl;clear hM hM1 hC hu1 kh;go_wp2
 go_loopg [7,8] l.size (fun fu ov zv wr=>∃ (t:BT) (p:Int) (o:List Int) (k:Nat) (ao:Option Addr) (co:Nat),zv=.int .i64 t.root/\ov=.slice ao k co/\bV S p t.root t/\(∀z,z∈t.nodes->z<A.cs.length)/\wr.ownsRow w1.heap.size 3 1 (.slice ao k co) k (aP o)/\o++cK (bu t)=cK (bu l)/\t.size<=fu/\k+t.size<=65536/\aa [] w1 wr)
 case atStart=>exact ⟨l,x,[],0,none,0,rfl,rfl,by rw [←hlr];exact HL.out.1,HL.out.2,⟨rfl,Α ⟨rfl,rfl⟩⟩,rfl,Θ _,ω,aa.refl _ _⟩
 case round=>
  rename Nat=>fu;obtain ⟨t,p,o,k,ao,co,rfl,rfl,hT,hlt,ho,Dn,hfu,hk,hu⟩:=hrel;rename World=>wr;cases t with
  | nil=>
   have hr:(BT.nil.root != (-1:Int))=false:=rfl;have hk2:k=(bu l).length:=by
    have h1:=ho.1;rw [fq] at h1;have h2:=congrArg List.length Dn;simp [cK,bu] at h2;omega
   have hr2:(BT.nil).root=-1:=rfl;rw [hr2] at *;have HO:=χ (ψ ho (ψ Dn (ψ hu hk2)));clear ho Dn hT hlt;go_wp2;go_ret;obtain ⟨ho,Dn,hu,hk2⟩:=HO.out;subst hk2;have e:o=cK (bu l):=by simpa [cK,bu] using Dn
   rw [e] at ho;exact ⟨ao,co,rfl,lF ho hs1,HM.out.1.aj hu,HM.out.2.then hu⟩
  | node y a b=>
   have hyl:y<A.cs.length:=hlt y (by simp [BT.nodes]);have hy2:(BT.node y a b).root=(y:Int):=rfl;rw [hy2] at *;have hyb:((y:Int) != -1)=true:=σ;have ZC:(y:Int)<(A.cs.length:Int):=ω;have hMw:=HM.out.1.aj hu;have e1:=hMw.h1;have e2:=hMw.r y hyl;rw [hT.2.2.2.root] at e2;have hos:=hu.size;simp only [BT.size] at hfu hk;obtain ⟨fv,rfl⟩:∃fv,fu=fv+1:=⟨fu-1,ω⟩;have HO:=χ (ψ hT (ψ hlt (ψ Dn hu)));clear hT hlt Dn hMw;have hb2:w1.heap.size<=wr.heap.size:=hos;have hnba:B.n0<w1.heap.size/\B.ba<w1.heap.size:=⟨HM.out.1.lt _ (by simp [PB.blk]),HM.out.1.lt _ (by simp [PB.blk])⟩
   go_wp2_with (first|((at_builtin;refine aV rfl _ _ 26 rfl w1.heap.size 3 (.int .i64 0) 1 8 Tryz.underlying26 fE rfl δ _ _ _ rfl (ho) [.int .i64 (y:Int)] rfl (by simp [Value.oneCell']) (by first|rfl|(rw [Κ];rfl)) μ ω (ω) ?_;intro v2 w2 ho2 hu2 mG);obtain ⟨a2,c2,rfl,hc2⟩:=aY ho2;(have hv2:aa [] w1 w2:=HO.out.2.2.2.own ho (Θ _) hu2);(have hn2:B.n0∉(Value.slice ao k co).ownBlock.toList:=fun hm=>by (have h9:=(ho.lt B.n0 (Option.mem_toList.1 hm)).1);omega);(have Jm:B.ba∉(Value.slice ao k co).ownBlock.toList:=fun hm=>by (have h9:=(ho.lt B.ba (Option.mem_toList.1 hm)).1);omega);(have e3:=hu2.kept e1 hn2);(have e4:=hu2.kept e2 Jm))|fail)
   go_roundg fv
   case rel=>
    obtain ⟨hT,hlt,Dn,hu⟩:=HO.out;refine ⟨b,y,o++[(y:Int)],k+1,a2,c2,rfl,rfl,?_,fun z hz=>hlt z (by simp [BT.nodes,hz]),by rw [bP];exact ho2,?_,ω,ω,hv2⟩
    ·have h4:=hT.2.2.2;rw [h4.root] at h4;exact h4
    ·rw [←Dn];simp [cK,bu,BT.root]
   all_goals omega
end
end Go.Proofs.YtklibcncmbofpaaGreat
namespace Go.Proofs.YtklibcncmbofpaaGreat
structure VE (A:NS) (S:TS) (l:List BT):Prop where
 ok:∀t,t∈l->bV S (-1) t.root t/\Lone t
 nd:(fV l).Nodup
 inn:∀z,z∈fV l->bQ A (z:Int)=true
theorem VE.link {A:NS} {S S':TS} {D r:List BT} {a b:BT} (h:VE A S (D++a::b::r)) (hT:bV S' (-1) (cO A a b).root (cO A a b)) (hs:∀z,z∉a.nodes++b.nodes->S.at S' z):VE A S' (D++cO A a b::r):=by
 have la:=(h.ok a σ).2;have lb:=(h.ok b σ).2;have hp:(fV (D++cO A a b::r)).Perm (fV (D++a::b::r)):=by
  rw [fG,fG,bG,bG,bG,←ϋ a.nodes];exact ((lq A la lb).append_right _).append_left _
 have hnd:=h.nd;rw [fG,bG,bG] at hnd;rw [θ] at hnd;obtain ⟨_,n2,n3⟩:=hnd;rw [←ϋ,θ] at n2;obtain ⟨_,_,n4⟩:=n2;refine ⟨fun t ht=>?_,hp.nodup_iff.2 h.nd,fun z hz=>h.inn z (hp.mem_iff.1 hz)⟩;rcases τ.1 ht with e|e
 ·have h1:=h.ok t (by simp [e]);refine ⟨h1.1.frame (fun z hz=>hs z (fun hm=>?_)),h1.2⟩;refine n3 z (List.mem_flatMap.2 ⟨t,e,hz⟩) z ?_ rfl;rcases τ.1 hm with e2|e2
  ·exact τ.2 (Α e2)
  ·exact τ.2 (Β (τ.2 (Α e2)))
 ·rcases ρ.1 e with e|e
  ·rw [e];exact ⟨hT,mO A la lb⟩
  ·have h1:=h.ok t (by simp [e]);exact ⟨h1.1.frame (fun z hz=>hs z (fun hm=>n4 z hm z (List.mem_flatMap.2 ⟨t,e,hz⟩) rfl)),h1.2⟩
theorem VE.two {A:NS} {S:TS} {D r:List BT} {a b:BT} (h:VE A S (D++a::b::r)):bV S (-1) a.root a/\bV S (-1) b.root b/\Lone a/\Lone b/\(a.nodes++b.nodes).Nodup/\∀z,z∈a.nodes++b.nodes->bQ A (z:Int)=true:=by
 have hnd:=h.nd;rw [fG,bG,bG,θ] at hnd;have n2:=hnd.2.1;rw [←ϋ,θ] at n2;refine ⟨(h.ok a σ).1,(h.ok b σ).1,(h.ok a σ).2,(h.ok b σ).2,n2.1,fun z hz=>h.inn z ?_⟩;rw [fG,bG,bG,←ϋ];simp only [τ] at hz ⊢;rcases hz with e|e
 ·simp [e]
 ·simp [e]
theorem NU (S:TS) (x:Nat):∀z,(fU S x []).l z=(S.aF x false (-1)).l z/\(fU S x []).r z=(S.aF x false (-1)).r z/\(fU S x []).u z=(S.aF x false (-1)).u z:=fun z=>by
 unfold fU TS.aF;simp
theorem J7 (S:TS) (x k j:Nat) (ks:List Int) (h:ks[j]?=some (k:Int)):∀z,(fU S x (ks.take (j+1))).l z=(((fU S x (ks.take j)).aF k true (-1)).bO k (-1)).l z/\(fU S x (ks.take (j+1))).r z=(((fU S x (ks.take j)).aF k true (-1)).bO k (-1)).r z/\(fU S x (ks.take (j+1))).u z=(((fU S x (ks.take j)).aF k true (-1)).bO k (-1)).u z:=fun z=>by
 have e:ks.take (j+1)=ks.take j++[(k:Int)]:=by rw [Ϗ,h];rfl
 rw [e];unfold fU TS.aF TS.bO;have hz:((z:Int)=(k:Int))=(z=k):=propext ⟨fun h=>ω,fun h=>ω⟩;simp only [τ,ϒ,hz];refine ⟨σ,?_,?_⟩
 ·by_cases h1:z=k
  ·simp [h1]
  ·simp [h1]
 ·by_cases h1:z=k
  ·simp [h1]
  ·simp [h1]
theorem Mq (A:NS) {l:List BT} {j:Nat} (h:2*j+1<l.length):∃a b r,l.drop (2*j)=a::b::r/\l[2*j]?=some a/\l[2*j+1]?=some b/\r=l.drop (2*(j+1))/\(bS A l).take (j+1)=(bS A l).take j++[cO A a b]:=by
 have h1:l.drop (2*j)=l[2*j]::l[2*j+1]::l.drop (2*j+2):=by
  rw [ϛ ω,ϛ ω]
 refine ⟨l[2*j],l[2*j+1],l.drop (2*j+2),h1,ε _,ε _,by rw [show 2*(j+1)=2*j+2 by omega],?_⟩;have h2:=uM A j l ω;rw [h1] at h2;have hl:((bS A l).take j).length=j:=by rw [ϐ,rD];omega
 have h3:(bS A l)[j]?=some (cO A l[2*j] l[2*j+1]):=by
  rw [h2,ϊ ω,hl,Nat.sub_self];rfl
 rw [Ϗ,h3];rfl
theorem MZ (A:NS) {l:List BT} {j:Nat} (h:2*j+1=l.length):∃a,l.drop (2*j)=[a]/\l[2*j]?=some a/\(bS A l).take (j+1)=(bS A l).take j++[a]/\l.drop (2*(j+1))=[]:=by
 have h1:l.drop (2*j)=[l[2*j]]:=by
  rw [ϛ ω,List.drop_eq_nil_of_le ω]
 refine ⟨l[2*j],h1,ε _,?_,List.drop_eq_nil_of_le ω⟩;have h2:=uM A j l ω;rw [h1] at h2;have hl:((bS A l).take j).length=j:=by rw [ϐ,rD];omega
 have h3:(bS A l)[j]?=some l[2*j]:=by
  rw [h2,ϊ ω,hl,Nat.sub_self];rfl
 rw [Ϗ,h3];rfl
theorem PU (A:NS) {l:List BT} {j:Nat} (h:l.length<=2*j):(bS A l).take j=bS A l:=List.take_of_length_le (by rw [rD];omega)
theorem rest_step (A:NS) {l:List BT} {j:Nat} (h:j<l.length):fJ A (l.drop j)=cO A l[j] (fJ A (l.drop (j+1))):=by
 rw [ϛ h];rfl
theorem VE.start {A:NS} {S:TS} {x:Nat} {l:BT} (hl:bV S (x:Int) (S.l x) l) (hn:(x::l.nodes).Nodup) (hin:∀z,z∈l.nodes->bQ A (z:Int)=true):VE A (fU S x (cK (bu l))) (bu l):=by
 obtain ⟨n1,n2⟩:=List.nodup_cons.1 hn;have e:=hl.root;rw [e] at hl;have aa7:∀ (t:BT) u,u∈bu t->Lone u:=by
  intro t
  induction t with
  | nil=>intro u hu;cases hu
  | node y a b _ ih=>
   intro u hu;simp only [bu,ρ] at hu;rcases hu with e|e
   ·subst e;rfl
   ·exact ih u e
 exact ⟨fun t ht=>⟨FD hl n2 n1 (fun z hz=>Iff.rfl) t ht,aa7 l t ht⟩,(ji l).nodup_iff.2 n2,fun z hz=>hin z ((ji l).mem_iff.1 hz)⟩
structure La (A:NS) (S0 S:TS) (l:BT) (L:List BT):Prop where
 fo:VE A S L
 sub:∀z,z∈fV L->z∈l.nodes
 fr:∀z,z∉l.nodes->S0.at S z
theorem La.link {A:NS} {S0 S S':TS} {l:BT} {D r:List BT} {a b:BT} (h:La A S0 S l (D++a::b::r)) (hT:bV S' (-1) (cO A a b).root (cO A a b)) (hs:∀z,z∉a.nodes++b.nodes->S.at S' z):La A S0 S' l (D++cO A a b::r):=by
 have la:=(h.fo.ok a σ).2;have lb:=(h.fo.ok b σ).2;have hp:(fV (D++cO A a b::r)).Perm (fV (D++a::b::r)):=by
  rw [fG,fG,bG,bG,bG,←ϋ a.nodes];exact ((lq A la lb).append_right _).append_left _
 refine ⟨h.fo.link hT hs,fun z hz=>h.sub z (hp.mem_iff.1 hz),fun z hz=>?_⟩;have h1:=h.fr z hz
 have h2:=hs z (fun hm=>hz (h.sub z (by
  rw [fG,bG,bG,←ϋ];simp only [τ] at hm ⊢;rcases hm with e|e
  ·simp [e]
  ·simp [e])))
 exact ⟨h2.1.trans h1.1,h2.2.1.trans h1.2.1,h2.2.2.trans h1.2.2⟩
theorem La.start {A:NS} {S:TS} {x:Nat} {l:BT} (hl:bV S (x:Int) (S.l x) l) (hn:(x::l.nodes).Nodup) (hin:∀z,z∈l.nodes->bQ A (z:Int)=true):La A (fU S x (cK (bu l))) (fU S x (cK (bu l))) l (bu l):=
 ⟨VE.start hl hn hin,fun z hz=>(ji l).mem_iff.1 hz,fun z _=>⟨rfl,rfl,rfl⟩⟩
theorem La.nil {A:NS} {S0 S:TS} {l:BT} {L:List BT} (h:La A S0 S l L):La A S0 S l (L++[BT.nil]):=by
 have e:fV (L++[BT.nil])=fV L:=by rw [fG];simp [fV,BT.nodes]
 refine ⟨⟨fun t ht=>?_,by rw [e];exact h.fo.nd,by rw [e];exact h.fo.inn⟩,by rw [e];exact h.sub,h.fr⟩;rcases τ.1 ht with e|e
 ·exact h.fo.ok t e
 ·have e2:t=.nil:=by simpa using e
  subst e2;exact ⟨rfl,trivial⟩
theorem La.done {A:NS} {S S':TS} {x:Nat} {l t:BT} (h:La A (fU S x (cK (bu l))) S' l [t]) (hx:x∉l.nodes):bV S' (-1) t.root t/\S'.l x=-1/\S'.r x=S.r x/\S'.u x=S.u x/\∀z,z∉x::l.nodes->S.at S' z:=by
 have h1:=h.fr x hx;have hk:∀z:Nat,z∉l.nodes->(z:Int)∉cK (bu l):=fun z hz hm=>hz (KX hm);have hs:∀z:Nat,z∉l.nodes->z≠x->S.at (fU S x (cK (bu l))) z:=fun z hz hzx=>Q4 hzx (hk z hz);refine ⟨(h.fo.ok t σ).1,?_,?_,?_,fun z hz=>?_⟩
 ·rw [h1.1];simp [fU]
 ·rw [h1.2.1];simp [fU,hk x hx]
 ·rw [h1.2.2];simp [fU,hk x hx]
 ·simp only [ρ,not_or] at hz;have h2:=h.fr z hz.2;have h3:=hs z hz.2 hz.1;exact ⟨h2.1.trans h3.1,h2.2.1.trans h3.2.1,h2.2.2.trans h3.2.2⟩
theorem nJ {l:List BT} {j:Nat} {t:BT} (h:l[j]?=some t):(cK l).getD j 0=t.root/\(cK l)[j]?=some t.root:=by
 unfold cK;simp [φ,h]
theorem JX (l:List BT):(cK l).length=l.length:=by unfold cK;simp
theorem uD (a b:List BT):cK (a++b)=cK a++cK b:=by unfold cK;rw [List.map_append]
theorem Gu:∀ (t:BT),(bu t).length<=t.nodes.length
 | .nil=>Θ _
 | .node x l r=>by
  have:=Gu r;simp only [bu,Ω,BT.nodes,υ];omega
theorem MU (A:NS) {tw:List BT} {i:Nat} (h:i<tw.length):tw.take (i+1)=tw.take i++[tw[i]]/\fJ A (tw.drop i)=cO A tw[i] (fJ A (tw.drop (i+1))):=by
 refine ⟨?_,rest_step A h⟩;rw [Ϗ,ε h];rfl
end Go.Proofs.YtklibcncmbofpaaGreat
namespace Go.Proofs.YtklibcncmbofpaaGreat
open Go Go.RowKit
section
variable {w:World} {B:PB} {F:List Nat} {gt ct:Nat} {A:NS} {st:Nat} {S:TS} {ah:List Int}
def OX (w:World) (base:Nat) (v:Value) (xs:List Int):Prop:=w.ownsRow base 3 1 v xs.length (aP xs)
theorem OX.cell {W:World} {base:Nat} {a:Option Addr} {n c:Nat} {xs:List Int} (h:W.ownsRow base 3 1 (.slice a n c) n (aP xs)) {j:Nat} {y:Int} (hj:xs[j]?=some y):∃g,a=some ⟨g,0,none⟩/\base<=g/\g<W.heap.size/\∀W',aa [] W W'->W'.cell? ⟨g,j,none⟩=some (.int .i64 y):=by
 have hl:=h.1;rw [fq] at hl;have hjl:j<xs.length:=(List.getElem?_eq_some_iff.1 hj).1;obtain ⟨g,cap,e,hb,_⟩:=fM h ω
 injection e with e1 e2 e3
 subst e1;have hlt:=h.lt g rfl;refine ⟨g,rfl,hb,hlt.2,fun W' hW=>hW.was ?_⟩;rw [h.cellAt j ω,lG hjl,φ,hj];rfl
theorem zt (h:gL w B F gt ct A st S ah) (x:Nat) (hin:bQ A (x:Int)=true) (l:BT) (hl:bV S (x:Int) (S.l x) l) (hnd:(x::l.nodes).Nodup) (hinl:∀z,z∈l.nodes->bQ A (z:Int)=true) (hsz:l.size<=65536) :
    Calls Tryz.prog 216 #[.pointer (some ⟨B.n0,0,none⟩),.int .i64 (x:Int)] w fun e w'=>e=.returned (.int .i64 (fJ A (bS A (bu l))).root)/\aa (B.ba::F) w w'/\∃st' S',gL w' B F gt ct A st' S' ah/\bV S' (-1) (fJ A (bS A (bu l))).root (fJ A (bS A (bu l)))/\S'.l x=-1/\S'.r x=S.r x/\S'.u x=S.u x/\∀z,z∉x::l.nodes->S.at S' z:=by
  have hx:=(ae _ _).1 hin;have hA:=h.cells.ok.c1;have hlt:∀z,z∈l.nodes->z<A.cs.length:=fun z hz=>((ae _ _).1 (hinl z hz)).1;have kk:=OE h x hin l hl hlt hsz;have hlen:(bu l).length<=65536:=by have:=Gu l;rw [BT.lC] at this;omega
  have HS:=χ (La.start hl hnd hinl);have hxl:x∉l.nodes:=(List.nodup_cons.1 hnd).1;have hkr:∀ (j:Nat) (k:BT),(bu l)[j]?=some k->∃y:Nat,k.root=(y:Int)/\y<A.cs.length:=fun j k hk=>by
    have h1:=G8 (Η hk);exact ⟨_,h1.2.1,hlt _ ((ji l).mem_iff.1 (List.mem_flatMap.2 ⟨k,Η hk,h1.1⟩))⟩
  have HK:=χ (ψ hkr (ψ hxl hlen));have hbl:=h.lt;have hn0:B.n0<w.heap.size/\B.ba<w.heap.size/\∀z,z∈F->z<w.heap.size:=⟨hbl _ (by simp [PB.blk]),hbl _ (by simp [PB.blk]),fun z hz=>hbl z (by simp [PB.blk,hz])⟩;clear hlt hl hnd hinl hkr hxl hbl;generalize hks:bu l=ks at *
  go_enter Tryz.func216,Tryz.ntmps216
  go_upto_region 2 with (first
    | ((go_at_call 217;(with_reducible refine (kk).mono ?_));rintro e w1 ⟨ao,co,rfl,ho,hM1,hu1⟩)
    | fail)
  clear h kk;have hs1:=hu1.size;have c1:=hM1.h1;have dl:=hM1.l x hx.1;have ff:=hM1.f (x*3);have Bl:(x:Int)<(A.cs.length:Int):=ω;have HO:=χ (ψ ho (ψ hM1 hu1));clear ho hM1 hu1;obtain ⟨hkr,hxl,hlen⟩:=HK.out;clear hkr hxl
  go_upto_region 3 with (fail)
  refine iV (fun W=>gL W B F gt ct A st (S.aF x false (-1)) ah/\aa [B.ba] w1 W) ⟨(HO.out.2.1.IQ x (-1)).aj (by first|exact ⟨rfl,rfl,rfl,Θ _,fun _ _ _=>rfl⟩|exact ν),β⟩ ?_;rintro W ⟨lL,hu2⟩;have HW:=χ (ψ lL hu2);clear lL hu2 c1 dl ff;go_wp2
  go_loopw [7,24] (fun v7 v24 wr=>∃ (j:Nat),j<=ks.length/\v24=.int .i64 (j:Int)/\gL wr B F gt ct A st (fU S x ((cK ks).take j)) ah/\aa [B.ba] w1 wr) (fun _ v24 _=>ks.length-(intOf v24).toNat)
  case atStart=>exact ⟨0,Nat.zero_le _,rfl,by rw [List.take_zero];exact HW.out.1.ext (NU S x),HW.out.2⟩
  case round=>
    obtain ⟨j,hj,rfl,hM,hu⟩:=hrel;rename World=>wr
    by_cases hjn:j<ks.length
    · obtain ⟨t,ht⟩:∃t,ks[j]?=some t:=⟨ks[j],ε hjn⟩
      obtain ⟨y,hy,hyl⟩:=HK.out.1 j t ht;have hro:=(nJ ht).2;rw [hy] at hro;obtain ⟨g,rfl,hg1,hg2,hgc⟩:=OX.cell HO.out.1 hro;have hgr:wr.cell? ⟨g,j,none⟩=some (.int .i64 (y:Int)):=hu.kept (hgc w1 (aa.refl _ _)) ζ;have c1:=hM.h1;have dr:=hM.r y hyl;have du:=hM.u y hyl;have TM:=hM.f (y*3+1);have TP:=hM.f (y*3+2);have ZP:decide ((j:Int)<(ks.length:Int))=true:=ζ;have ZC:(y:Int)<(A.cs.length:Int):=ω;have hn1:¬B.n0=B.ba:=hM.sep.1;have hn2:¬B.ba=B.n0:=fun e=>hM.sep.1 e.symm;have HM:=χ (ψ hM (ψ hu hro));clear hM hu hro hy ht hgc;go_wp2
      go_region_law (fail)
      all_goals
        go_wp2
        go_roundw
        case rel=>
          refine ⟨j+1,ω,by go_num,?_,HM.out.2.1.trans β⟩;exact (((HM.out.1.cz y (-1)).rG y (-1)).aj (by first|exact ⟨rfl,rfl,rfl,Θ _,fun _ _ _=>rfl⟩|exact ν)).ext (J7 S x y j (cK ks) HM.out.2.2)
        case measure=>simp [intOf];omega
    · obtain rfl:j=ks.length:=ω
      have ZP:decide ((ks.length:Int)<(ks.length:Int))=false:=σ;have e:(cK ks).take ks.length=cK ks:=List.take_of_length_le (by rw [JX];exact Θ _);rw [e] at hM;have HM:=χ (ψ hM hu);clear hM hu e;go_wp2;refine iV (fun W=>aa [] wr W) (by first|exact ⟨rfl,rfl,rfl,Θ _,fun _ _ _=>rfl⟩|exact ν) ?_;intro W2 hW2;have mU:=χ (ψ (HM.out.1.aj hW2) (HM.out.2.trans (hW2.mono σ)));have hs2:=mU.out.2.size;clear HM hW2
      go_loopw [8,9] (fun v8 v9 wr=>∃ (j m:Nat) (a2:Option Addr) (c2:Nat) (st':Nat) (S':TS),m=2*j/\j<=(bS A ks).length/\v9=.int .i64 (m:Int)/\v8=.slice a2 j c2/\wr.ownsRow W2.heap.size 3 1 (.slice a2 j c2) j (aP (cK ((bS A ks).take j)))/\gL wr B F gt ct A st' S' ah/\La A (fU S x (cK ks)) S' l ((bS A ks).take j++ks.drop m)/\aa [B.ba,B.c] W2 wr) (fun _ v9 _=>ks.length+2-(intOf v9).toNat)
      case atStart=>exact ⟨0,0,none,0,st,_,rfl,Nat.zero_le _,rfl,rfl,⟨rfl,Α ⟨rfl,rfl⟩⟩,mU.out.1,by simpa using HS.out,aa.refl _ _⟩
      case round=>
        obtain ⟨j,m,a2,c2,st',S',hm,hj,rfl,rfl,ho2,hM,hF,hu⟩:=hrel;rename World=>wr;have htl:=rD A ks;have hos:=hu.size;have hbl:∀z,z∈B.blk F gt->z<W2.heap.size:=mU.out.1.lt;have hgb:∀g,g∈(Value.slice a2 j c2).ownBlock.toList->W2.heap.size<=g:=fun g hg=>(ho2.lt g (Option.mem_toList.1 hg)).1;have OG:B.ba<W2.heap.size/\B.c<W2.heap.size:=⟨hbl _ (by simp [PB.blk]),hbl _ (by simp [PB.blk,hM.cF])⟩;have HG:=χ (ψ hbl hgb);have hw1:aa [B.ba,B.c] w1 wr:=(mU.out.2.mono σ).trans hu
        by_cases Ol:m<ks.length
        · have hmI:decide ((m:Int)<(ks.length:Int))=true:=ζ
          have hjb:j<=65536:=ω;have hwr:IntKind.i64.wrap ((m:Int)+1)=(m:Int)+1:=Μ _ ω
          by_cases hlast:m+1=ks.length
          · obtain ⟨t,l1,l2,l3,l4⟩:=MZ A (l:=ks) (j:=j) ω
            rw [←hm] at l1 l2;have hro:=(nJ l2).2;obtain ⟨g,rfl,hg1,hg2,hgc⟩:=OX.cell HO.out.1 hro;have hgr:wr.cell? ⟨g,m,none⟩=some (.int .i64 t.root):=hw1.kept (hgc w1 (aa.refl _ _)) (by simp;have:=hn0.2.2 _ hM.cF;omega);have hqI:((m:Int)+1 == (ks.length:Int))=true:=ζ;have HL:=χ (ψ hM (ψ hF (ψ hu (ψ l1 (ψ l3 (ψ l4 (ψ hm htl)))))));clear hM hF hu hw1 l1 l2 l3 l4 hro hgc hm htl hlast hbl hgb OG
            go_wp2_with (first
              | ((at_builtin;refine aV rfl _ _ 26 rfl W2.heap.size 3 (.int .i64 0) 1 8 Tryz.underlying26 fE rfl δ _ _ _ rfl (ho2) [.int .i64 t.root] rfl (by simp [Value.oneCell']) (by first|rfl|(rw [Κ];rfl)) μ ω (ω) ?_;intro v2 w2 ho3 hu3 mG);obtain ⟨a3,c3,rfl,hc3⟩:=aY ho3)
              | fail)
            go_roundw
            case rel=>
              obtain ⟨hM,hF,hu,l1,l3,l4,hm,htl⟩:=HL.out;refine ⟨j+1,m+2,a3,c3,st',S',ω,ω,by go_num,rfl,?_,hM.upd hu3 (fun g hg hb=>by have:=HG.out.1 g hb;have:=HG.out.2 g hg;omega),?_,hu.joined hu3 (fun g hg=>Β (HG.out.2 g hg))⟩
              · rw [l3,uD,bP];exact ho3
              · rw [show m+2=2*(j+1) by omega,l4,l3,Υ,←l1];exact hF
            case measure=>simp [intOf];omega
          · obtain ⟨ta,tb,r,l1,l2,l2b,l3,l4⟩:=Mq A (l:=ks) (j:=j) ω
            rw [←hm] at l1 l2 l2b;have hroa:=(nJ l2).2;have hrob:=(nJ l2b).2;obtain ⟨g,rfl,hg1,hg2,hgc⟩:=OX.cell HO.out.1 hroa;obtain ⟨g',e', -, -,hgc'⟩:=OX.cell HO.out.1 hrob;cases e';have XO:g∉[B.ba,B.c]:=by simp;have:=hn0.2.2 _ hM.cF;omega
            have hgr:wr.cell? ⟨g,m,none⟩=some (.int .i64 ta.root):=hw1.kept (hgc w1 (aa.refl _ _)) XO;have hgr':wr.cell? ⟨g,m+1,none⟩=some (.int .i64 tb.root):=hw1.kept (hgc' w1 (aa.refl _ _)) XO;have hqI:((m:Int)+1 == (ks.length:Int))=false:=ζ;have hm1:m+1<ks.length:=ω;have hm1I:(m:Int)+1<(ks.length:Int):=ω;have hm0I:(0:Int)<=(m:Int)+1:=ω;rw [l1] at hF;obtain ⟨t1,t2,t3,t4,t5,t6⟩:=hF.fo.two;have kl:=fun W (hW:aa [] wr W)=>wI (hM.aj hW) ta tb t1 t2 t3 t4 t5 t6;have HL:=χ (ψ hF (ψ hu (ψ l3 (ψ l4 (ψ hm htl)))))
            clear hM hF hu hw1 l1 l2 l2b l3 l4 hroa hrob hgc hgc' hm htl hlast hbl hgb t1 t2 t3 t4 t5 t6 XO;have hcb:∀k,(Value.slice a2 j c2).ownBlock=some k->k∉[B.ba,B.c]:=fun k hk=>by have:=HG.out.2 k (Option.mem_toList.2 hk);simp;omega
            have HC:=χ hcb;clear hcb
            go_upto_region 14 with (fail)
            go_region_law (first
              | (go_simp;go_at_call 215;(with_reducible refine (kl _ β).mono ?_);rintro e w3 ⟨rfl,VL,st3,S3,jD,A7,hf3⟩;(have hu3:aa [B.ba,B.c] wr w3:=aa.trans β VL);(have ho3:=ay ho2 hu3 HC.out);(have hos3:=hu3.size))
              | (refine iL rfl _ _ 26 rfl W2.heap.size 3 (.int .i64 0) 1 8 Tryz.underlying26 fE rfl δ (.slice a2 j c2) j (aP (cK ((bS A ks).take j))) rfl (ho3.alloc _) w3.heap.size [.int .i64 (cO A ta tb).root] rfl rfl (fun i u hi=>ma w3 [.int .i64 (cO A ta tb).root] 3 i u hi) (by simp [Value.oneCell']) μ ω ζ ?_
                 intro v2 w2 ZQ hu4a hv2;have fZ:aa (Value.slice a2 j c2).ownBlock.toList w3 w2:=aa.trans ((aa.refl _ _).alloc _) hu4a
                 obtain ⟨a3,c3,rfl,hc3⟩:=aY ZQ)
              | fail)
            all_goals
              go_wp2
              go_roundw
              case rel=>
                obtain ⟨hF,hu,l3,l4,hm,htl⟩:=HL.out;refine ⟨j+1,m+2,a3,c3,st3,S3,ω,ω,by go_num,rfl,?_,jD.upd fZ (fun g hg hb=>by have:=HG.out.1 g hb;have:=HG.out.2 g hg;omega),?_,(hu.trans hu3).joined fZ (fun g hg=>Β (HG.out.2 g hg))⟩
                · rw [l4,uD,bP];exact ZQ
                · rw [show m+2=2*(j+1) by omega,←l3,l4,ϋ];exact hF.link A7 hf3
              case measure=>simp [intOf];omega
        · have hmI:decide ((m:Int)<(ks.length:Int))=false:=ζ
          have hjl:j=(bS A ks).length:=ω;have hdr:ks.drop m=[]:=List.drop_eq_nil_of_le ω;rw [PU A ω] at ho2 hF;rw [hdr,Υ] at hF;have htn:(bS A ks).length<=65536:=ω;generalize htw:bS A ks=tw at *;subst hjl;have hF2:=hF.nil;have HL:=χ (ψ hM (ψ hF2 (ψ hw1 htw)));have HO2:=χ ho2;clear hM hF hu hw1 hF2 ho2 hdr hm hj htl hbl hgb htw;go_wp2;refine iV (fun W=>aa [] wr W) (by first|exact ⟨rfl,rfl,rfl,Θ _,fun _ _ _=>rfl⟩|exact ν) ?_;intro W3 hW3;have HW3:=χ hW3;clear hW3
          go_loopw [10,11] (fun v10 v11 wr3=>∃ (i st3:Nat) (S3:TS),i<=tw.length/\v11=.int .i64 ((i:Int)-1)/\v10=.int .i64 (fJ A (tw.drop i)).root/\gL wr3 B F gt ct A st3 S3 ah/\La A (fU S x (cK ks)) S3 l (tw.take i++[fJ A (tw.drop i)])/\aa [B.ba,B.c] W3 wr3) (fun _ v11 _=>((intOf v11)+1).toNat)
          case atStart=>
            have e1:tw.drop tw.length=[]:=List.drop_length;have e2:tw.take tw.length=tw:=List.take_length;refine ⟨tw.length,st',S',Θ _,by go_num,by rw [e1];rfl,HL.out.1.aj HW3.out,?_,aa.refl _ _⟩;rw [e1,e2];exact HL.out.2.1
          case round=>
            obtain ⟨i,st3,S3,hi,hz,rfl,hM,hF,hu⟩:=hrel;rename World=>wr3;cases i with
            | zero=>
              have hz2:((0:Nat):Int)-1=-1:=rfl;rw [hz2] at hz;subst hz;rw [List.drop_zero,List.take_zero,Ϛ] at hF;simp only [List.drop_zero];have HR:=χ (ψ hM (ψ hF hu));clear hM hF hu;go_wp2;go_ret;obtain ⟨hM,hF,hu⟩:=HR.out;have htw:=HL.out.2.2.2;subst htw;have hc:=hM.cF;have v1:aa [B.ba,B.c] w1 wr3:=(HL.out.2.2.1.trans (HW3.out.mono σ)).trans hu;exact ⟨rfl,(HO.out.2.2.mono (by simp +contextual)).trans (v1.mono (by simp [hc])),st3,S3,hM,(show La A (fU S x (cK (bu l))) _ l [fJ A (bS A ks)] by rw [hks];exact hF).done HK.out.2.1⟩
            | succ i0=>
              have hz2:((i0+1:Nat):Int)-1=(i0:Int):=ω;rw [hz2] at hz;subst hz;have hil:i0<tw.length:=ω;obtain ⟨q1,q2⟩:=MU A hil;have hro:=(nJ (ε hil)).2;obtain ⟨g,rfl,hg1,hg2,hgc⟩:=OX.cell HO2.out hro;have hgr:wr3.cell? ⟨g,i0,none⟩=some (.int .i64 (tw[i0]).root):=hu.kept (hgc W3 HW3.out) ζ;rw [q1,ϋ] at hF;obtain ⟨t1,t2,t3,t4,t5,t6⟩:=hF.fo.two;have kl:=wI hM tw[i0] (fJ A (tw.drop (i0+1))) t1 t2 t3 t4 t5 t6;rw [←q2] at kl;have HR:=χ (ψ hF (ψ hu q2));have hiI:decide ((i0:Int)≥0)=true:=σ;clear hM hF hu hgc hro q1 q2 t1 t2 t3 t4 t5 t6;generalize ET:tw[i0]=ta at *
              generalize htb:fJ A (tw.drop (i0+1))=tb at *
              go_wp2_with (first
                | (go_at_call 215;(with_reducible refine (kl).mono ?_);rintro e w3 ⟨rfl,hu3,Xn,S4,rQ,Pv,hf4⟩)
                | fail)
              go_roundw
              case rel=>
                obtain ⟨hF,hu,q2⟩:=HR.out;refine ⟨i0,Xn,S4,ω,by go_num,rfl,rQ,?_,hu.trans hu3⟩;rw [q2] at Pv ⊢;exact hF.link Pv hf4
              case measure=>first|(simp [intOf];done)|(simp [intOf];omega)
end
theorem FW (S:TS) (p x:Nat) (s:Bool) (hpx:p≠x) (h:S.r x=-1):∀z,(jU S p s x).l z=(((S.aF p s (-1)).aF x true (-1)).bO x (-1)).l z/\(jU S p s x).r z=(((S.aF p s (-1)).aF x true (-1)).bO x (-1)).r z/\(jU S p s x).u z=(((S.aF p s (-1)).aF x true (-1)).bO x (-1)).u z:=fun z=>by
 unfold jU TS.aF TS.bO;rw [h];have:¬ (z:Int)=-1:=ω;cases s<;>simp [this]
theorem Fv (S:TS) (p x o:Nat) (s:Bool) (hpx:p≠x) (h:S.r x=o):∀z,(jU S p s x).l z=((((S.aF p s o).bO o p).aF x true (-1)).bO x (-1)).l z/\(jU S p s x).r z=((((S.aF p s o).bO o p).aF x true (-1)).bO x (-1)).r z/\(jU S p s x).u z=((((S.aF p s o).bO o p).aF x true (-1)).bO x (-1)).u z:=fun z=>by
 unfold jU TS.aF TS.bO;rw [h];have:((z:Int)=(o:Int))=(z=o):=propext ⟨fun h=>ω,fun h=>ω⟩;simp only [this];cases s<;>simp
section
variable {w:World} {B:PB} {F:List Nat} {gt ct:Nat} {A:NS} {st:Nat} {S:TS} {ah:List Int}
theorem VK (h:gL w B F gt ct A st S ah) (p x:Nat) (hp:p<A.cs.length) (hx:x<A.cs.length) (hpx:p≠x) (hkl:S.l p=x) (hu:S.u x=p) (ho:S.r x=-1) :
  Calls Tryz.prog 214 #[.pointer (some ⟨B.n0,0,none⟩),.int .i64 (x:Int)] w fun e w'=>e=.returned (.tuple #[])/\gL w' B F gt ct A st (jU S p false x) ah/\aa [B.ba] w w':=by
 have hA:=h.cells.ok.c1;have c1:=h.h1;have dl:=h.l p hp;have dr:=h.r x hx;have du:=h.u x hx;rw [hu] at du;have ff:=h.f;have TM:=ff (p*3);have TP:=ff (p*3+1);have Un:=ff (x*3+1);have U5:=ff (x*3+2);have X5:=h.r p hp;have hsep:=h.sep;have hn1:¬B.n0=B.ba:=hsep.1;have hn2:¬B.ba=B.n0:=fun e=>hsep.1 e.symm;have Bl:(x:Int)<(A.cs.length:Int):=ω;have Ym:(p:Int)<(A.cs.length:Int):=ω;have m1:¬x*3+1=p*3:=ω;have m2:¬x*3+1=p*3+1:=ω;have m3:¬x*3+2=p*3:=ω;have m4:¬x*3+2=p*3+1:=ω;have m5:¬p*3=x*3+1:=ω;have m6:¬p*3=x*3+2:=ω;have m7:¬p*3+1=x*3+1:=ω;have m8:¬p*3+1=x*3+2:=ω;have HM:=χ h;clear h ff hsep
 rw [hkl] at dl;have hq:((x:Int) == (x:Int))=true:=σ;have HE:=χ (FW S p x false hpx ho);rw [ho] at dr;have hlr:((-1:Int) != -1)=false:=σ;have HQ:=χ (show (S.aF p false (-1)).r x=-1/\S.u x=p from ⟨by unfold TS.aF;(have hxp:¬x=p:=fun e=>hpx e.symm);simpa [hxp] using ho,hu⟩);clear ho hu hkl;generalize S.l p=slp at *
 go_enter Tryz.func214,Tryz.ntmps214
 go_upto_region 1 with (fail)
 go_quiet (fail)
 go_upto_region 2 with (fail)
 go_cut [] (fun W=>aa [] (w.setCell ⟨B.ba,p*3,none⟩ (.int .i64 (-1))) W)
 case first=>
  go_region_law (fail)
  all_goals
   go_wp2
   go_meet
   first|exact ⟨rfl,rfl,rfl,Θ _,fun _ _ _=>rfl⟩|exact ν
 case rest=>
  have hW:=hcut;clear hcut;rename World=>W;have lL:=(HM.out.IQ p (-1)).aj hW;have e1:=lL.h1;have e2:=lL.r x hx;rw [HQ.out.1] at e2;have e3:=lL.u x hx;rw [Ck,HQ.out.2] at e3;have e6:=lL.f (x*3+1);have e7:=lL.f (x*3+2);have eu:aa [B.ba] w W:=aa.trans β (hW.mono σ);have HW:=χ (ψ lL eu);clear lL hW eu c1 dl dr du TM TP Un U5 X5;go_wp2;go_end0;refine ⟨rfl,gL.ext (((HW.out.1.cz x (-1)).rG x (-1)).aj ?_) HE.out,HW.out.2.trans ?_⟩
  ·first|exact ⟨rfl,rfl,rfl,Θ _,fun _ _ _=>rfl⟩|exact ν
  ·exact β
end
section
variable {w:World} {B:PB} {F:List Nat} {gt ct:Nat} {A:NS} {st:Nat} {S:TS} {ah:List Int}
theorem UR (h:gL w B F gt ct A st S ah) (p x:Nat) (hp:p<A.cs.length) (hx:x<A.cs.length) (hpx:p≠x) (hkl:S.l p=x) (hu:S.u x=p) (o:Nat) (vR:S.r x=o) (hol:o<A.cs.length) (hop:o≠p) (hox:o≠x) :
  Calls Tryz.prog 214 #[.pointer (some ⟨B.n0,0,none⟩),.int .i64 (x:Int)] w fun e w'=>e=.returned (.tuple #[])/\gL w' B F gt ct A st (jU S p false x) ah/\aa [B.ba] w w':=by
 have hA:=h.cells.ok.c1;have c1:=h.h1;have dl:=h.l p hp;have dr:=h.r x hx;have du:=h.u x hx;rw [hu] at du;have ff:=h.f;have TM:=ff (p*3);have TP:=ff (p*3+1);have Un:=ff (x*3+1);have U5:=ff (x*3+2);have X5:=h.r p hp;have hsep:=h.sep;have hn1:¬B.n0=B.ba:=hsep.1;have hn2:¬B.ba=B.n0:=fun e=>hsep.1 e.symm;have Bl:(x:Int)<(A.cs.length:Int):=ω;have Ym:(p:Int)<(A.cs.length:Int):=ω;have m1:¬x*3+1=p*3:=ω;have m2:¬x*3+1=p*3+1:=ω;have m3:¬x*3+2=p*3:=ω;have m4:¬x*3+2=p*3+1:=ω;have m5:¬p*3=x*3+1:=ω;have m6:¬p*3=x*3+2:=ω;have m7:¬p*3+1=x*3+1:=ω;have m8:¬p*3+1=x*3+2:=ω;have HM:=χ h;clear h ff hsep
 rw [hkl] at dl;have hq:((x:Int) == (x:Int))=true:=σ;have HE:=χ (Fv S p x o false hpx vR);rw [vR] at dr;have Bb:((o:Int) != -1)=true:=σ;have hoI:(o:Int)<(A.cs.length:Int):=ω;have do_:=HM.out.u o hol;have ff5:=HM.out.f (o*3+2);have k1:¬o*3+2=p*3:=ω;have k2:¬o*3+2=p*3+1:=ω;have k3:¬x*3+1=o*3+2:=ω;have k4:¬x*3+2=o*3+2:=ω;have k5:¬o*3+2=x*3+1:=ω;have k6:¬o*3+2=x*3+2:=ω;have HQ:=χ (show (S.aF p false (o:Int)).r x=o/\S.u x=p from ⟨by unfold TS.aF;(have hxp:¬x=p:=fun e=>hpx e.symm);simpa [hxp] using vR,hu⟩);clear vR hu hkl;generalize S.l p=slp at *
 go_enter Tryz.func214,Tryz.ntmps214
 go_upto_region 1 with (fail)
 go_quiet (fail)
 go_upto_region 2 with (fail)
 go_cut [] (fun W=>aa [] (w.setCell ⟨B.ba,p*3,none⟩ (.int .i64 (o:Int))) W)
 case first=>
  go_region_law (fail)
  all_goals
   go_wp2
   go_meet
   first|exact ⟨rfl,rfl,rfl,Θ _,fun _ _ _=>rfl⟩|exact ν
 case rest=>
  have hW:=hcut;clear hcut;rename World=>W;have lL:=(HM.out.IQ p (o:Int)).aj hW;have e1:=lL.h1;have e2:=lL.r x hx;rw [HQ.out.1] at e2;have e3:=lL.u x hx;rw [Ck,HQ.out.2] at e3;have e4:=lL.u o hol;have e5:=lL.f (o*3+2);have e6:=lL.f (x*3+1);have e7:=lL.f (x*3+2);have eu:aa [B.ba] w W:=aa.trans β (hW.mono σ);have HW:=χ (ψ lL eu);clear lL hW eu c1 dl dr du TM TP Un U5 ff5 X5 do_
  go_upto_region 5 with (fail)
  go_region_law (fail)
  all_goals
   go_wp2;go_end0;refine ⟨rfl,gL.ext ((((HW.out.1.rG o p).cz x (-1)).rG x (-1)).aj ?_) HE.out,HW.out.2.trans ?_⟩
   ·first|exact ⟨rfl,rfl,rfl,Θ _,fun _ _ _=>rfl⟩|exact ν
   ·exact β
end
section
variable {w:World} {B:PB} {F:List Nat} {gt ct:Nat} {A:NS} {st:Nat} {S:TS} {ah:List Int}
theorem UC (h:gL w B F gt ct A st S ah) (p x:Nat) (hp:p<A.cs.length) (hx:x<A.cs.length) (hpx:p≠x) (hkr:S.r p=x) (hkl:S.l p≠x) (hu:S.u x=p) (ho:S.r x=-1) :
  Calls Tryz.prog 214 #[.pointer (some ⟨B.n0,0,none⟩),.int .i64 (x:Int)] w fun e w'=>e=.returned (.tuple #[])/\gL w' B F gt ct A st (jU S p true x) ah/\aa [B.ba] w w':=by
 have hA:=h.cells.ok.c1;have c1:=h.h1;have dl:=h.l p hp;have dr:=h.r x hx;have du:=h.u x hx;rw [hu] at du;have ff:=h.f;have TM:=ff (p*3);have TP:=ff (p*3+1);have Un:=ff (x*3+1);have U5:=ff (x*3+2);have X5:=h.r p hp;have hsep:=h.sep;have hn1:¬B.n0=B.ba:=hsep.1;have hn2:¬B.ba=B.n0:=fun e=>hsep.1 e.symm;have Bl:(x:Int)<(A.cs.length:Int):=ω;have Ym:(p:Int)<(A.cs.length:Int):=ω;have m1:¬x*3+1=p*3:=ω;have m2:¬x*3+1=p*3+1:=ω;have m3:¬x*3+2=p*3:=ω;have m4:¬x*3+2=p*3+1:=ω;have m5:¬p*3=x*3+1:=ω;have m6:¬p*3=x*3+2:=ω;have m7:¬p*3+1=x*3+1:=ω;have m8:¬p*3+1=x*3+2:=ω;have HM:=χ h;clear h ff hsep
 have hq:(S.l p == (x:Int))=false:=by simpa using hkl
 have HE:=χ (FW S p x true hpx ho);rw [ho] at dr;have hlr:((-1:Int) != -1)=false:=σ;have HQ:=χ (show (S.aF p true (-1)).r x=-1/\S.u x=p from ⟨by unfold TS.aF;(have hxp:¬x=p:=fun e=>hpx e.symm);simpa [hxp] using ho,hu⟩);clear ho hu hkl hkr;generalize S.l p=slp at *
 go_enter Tryz.func214,Tryz.ntmps214
 go_upto_region 1 with (fail)
 go_quiet (fail)
 go_upto_region 3 with (fail)
 go_cut [] (fun W=>aa [] (w.setCell ⟨B.ba,p*3+1,none⟩ (.int .i64 (-1))) W)
 case first=>
  go_region_law (fail)
  all_goals
   go_wp2
   go_meet
   first|exact ⟨rfl,rfl,rfl,Θ _,fun _ _ _=>rfl⟩|exact ν
 case rest=>
  have hW:=hcut;clear hcut;rename World=>W;have lL:=(HM.out.cz p (-1)).aj hW;have e1:=lL.h1;have e2:=lL.r x hx;rw [HQ.out.1] at e2;have e3:=lL.u x hx;rw [Ck,HQ.out.2] at e3;have e6:=lL.f (x*3+1);have e7:=lL.f (x*3+2);have eu:aa [B.ba] w W:=aa.trans β (hW.mono σ);have HW:=χ (ψ lL eu);clear lL hW eu c1 dl dr du TM TP Un U5 X5;go_wp2;go_end0;refine ⟨rfl,gL.ext (((HW.out.1.cz x (-1)).rG x (-1)).aj ?_) HE.out,HW.out.2.trans ?_⟩
  ·first|exact ⟨rfl,rfl,rfl,Θ _,fun _ _ _=>rfl⟩|exact ν
  ·exact β
end
section
variable {w:World} {B:PB} {F:List Nat} {gt ct:Nat} {A:NS} {st:Nat} {S:TS} {ah:List Int}
theorem UB (h:gL w B F gt ct A st S ah) (p x:Nat) (hp:p<A.cs.length) (hx:x<A.cs.length) (hpx:p≠x) (hkr:S.r p=x) (hkl:S.l p≠x) (hu:S.u x=p) (o:Nat) (vR:S.r x=o) (hol:o<A.cs.length) (hop:o≠p) (hox:o≠x) :
  Calls Tryz.prog 214 #[.pointer (some ⟨B.n0,0,none⟩),.int .i64 (x:Int)] w fun e w'=>e=.returned (.tuple #[])/\gL w' B F gt ct A st (jU S p true x) ah/\aa [B.ba] w w':=by
 have hA:=h.cells.ok.c1;have c1:=h.h1;have dl:=h.l p hp;have dr:=h.r x hx;have du:=h.u x hx;rw [hu] at du;have ff:=h.f;have TM:=ff (p*3);have TP:=ff (p*3+1);have Un:=ff (x*3+1);have U5:=ff (x*3+2);have X5:=h.r p hp;have hsep:=h.sep;have hn1:¬B.n0=B.ba:=hsep.1;have hn2:¬B.ba=B.n0:=fun e=>hsep.1 e.symm;have Bl:(x:Int)<(A.cs.length:Int):=ω;have Ym:(p:Int)<(A.cs.length:Int):=ω;have m1:¬x*3+1=p*3:=ω;have m2:¬x*3+1=p*3+1:=ω;have m3:¬x*3+2=p*3:=ω;have m4:¬x*3+2=p*3+1:=ω;have m5:¬p*3=x*3+1:=ω;have m6:¬p*3=x*3+2:=ω;have m7:¬p*3+1=x*3+1:=ω;have m8:¬p*3+1=x*3+2:=ω;have HM:=χ h;clear h ff hsep
 have hq:(S.l p == (x:Int))=false:=by simpa using hkl
 have HE:=χ (Fv S p x o true hpx vR);rw [vR] at dr;have Bb:((o:Int) != -1)=true:=σ;have hoI:(o:Int)<(A.cs.length:Int):=ω;have do_:=HM.out.u o hol;have ff5:=HM.out.f (o*3+2);have k1:¬o*3+2=p*3:=ω;have k2:¬o*3+2=p*3+1:=ω;have k3:¬x*3+1=o*3+2:=ω;have k4:¬x*3+2=o*3+2:=ω;have k5:¬o*3+2=x*3+1:=ω;have k6:¬o*3+2=x*3+2:=ω;have HQ:=χ (show (S.aF p true (o:Int)).r x=o/\S.u x=p from ⟨by unfold TS.aF;(have hxp:¬x=p:=fun e=>hpx e.symm);simpa [hxp] using vR,hu⟩);clear vR hu hkl hkr;generalize S.l p=slp at *
 go_enter Tryz.func214,Tryz.ntmps214
 go_upto_region 1 with (fail)
 go_quiet (fail)
 go_upto_region 3 with (fail)
 go_cut [] (fun W=>aa [] (w.setCell ⟨B.ba,p*3+1,none⟩ (.int .i64 (o:Int))) W)
 case first=>
  go_region_law (fail)
  all_goals
   go_wp2
   go_meet
   first|exact ⟨rfl,rfl,rfl,Θ _,fun _ _ _=>rfl⟩|exact ν
 case rest=>
  have hW:=hcut;clear hcut;rename World=>W;have lL:=(HM.out.cz p (o:Int)).aj hW;have e1:=lL.h1;have e2:=lL.r x hx;rw [HQ.out.1] at e2;have e3:=lL.u x hx;rw [Ck,HQ.out.2] at e3;have e4:=lL.u o hol;have e5:=lL.f (o*3+2);have e6:=lL.f (x*3+1);have e7:=lL.f (x*3+2);have eu:aa [B.ba] w W:=aa.trans β (hW.mono σ);have HW:=χ (ψ lL eu);clear lL hW eu c1 dl dr du TM TP Un U5 ff5 X5 do_
  go_upto_region 5 with (fail)
  go_region_law (fail)
  all_goals
   go_wp2;go_end0;refine ⟨rfl,gL.ext ((((HW.out.1.rG o p).cz x (-1)).rG x (-1)).aj ?_) HE.out,HW.out.2.trans ?_⟩
   ·first|exact ⟨rfl,rfl,rfl,Θ _,fun _ _ _=>rfl⟩|exact ν
   ·exact β
end
section
variable {w:World} {B:PB} {F:List Nat} {gt ct:Nat} {A:NS} {st:Nat} {S:TS} {ah:List Int}
theorem N8 (h:gL w B F gt ct A st S ah) (p x:Nat) (s:Bool) (hp:p<A.cs.length) (hx:x<A.cs.length) (hpx:p≠x) (hk:S.kid s p=x) (hs:s=true->S.l p≠x) (hu:S.u x=p) (hr:S.r x=-1\/(0<=S.r x/\S.r x<A.cs.length)) (hrp:S.r x≠p) (hrx:S.r x≠x) :
  Calls Tryz.prog 214 #[.pointer (some ⟨B.n0,0,none⟩),.int .i64 (x:Int)] w fun e w'=>e=.returned (.tuple #[])/\gL w' B F gt ct A st (jU S p s x) ah/\aa [B.ba] w w':=by
 cases s with
 | false=>
  by_cases ho:S.r x=-1
  ·exact VK h p x hp hx hpx hk hu ho
  ·obtain ⟨o,vR⟩:∃o:Nat,S.r x=o:=⟨(S.r x).toNat,ω⟩;exact UR h p x hp hx hpx hk hu o vR ω (fun e=>hrp (by rw [vR,e])) (fun e=>hrx (by rw [vR,e]))
 | true=>
  by_cases ho:S.r x=-1
  ·exact UC h p x hp hx hpx hk (hs rfl) hu ho
  ·obtain ⟨o,vR⟩:∃o:Nat,S.r x=o:=⟨(S.r x).toNat,ω⟩;exact UB h p x hp hx hpx hk (hs rfl) hu o vR ω (fun e=>hrp (by rw [vR,e])) (fun e=>hrx (by rw [vR,e]))
end
section
variable {w:World} {B:PB} {F:List Nat} {gt ct:Nat} {A:NS} {st:Nat} {tr:Nat->BT}
theorem gL.sepc {S:TS} {ah:List Int} (h:gL w B F gt ct A st S ah):B.n0∉[B.ba,B.c,gt]/\gt∉[B.ba,B.c]:=by
 have a1:=h.sep;have a2:B.n0≠B.c:=fun e=>h.bz.1 (by rw [e];exact h.cF);have a3:gt≠B.c:=fun e=>h.bz.2.2 (by rw [e];exact h.cF);constructor<;>simp<;>omega
theorem EN (h:mJ w B F gt ct A st tr) (hh x:Nat) (k s:Int) (hk:-9223372036854775808<=k/\k<=9223372036854775807/\0<=s/\s<=18446744073709551615) (hB:nR A hh x=true) :
  Calls Tryz.prog 210 #[.pointer (some ⟨B.n0,0,none⟩),.int .i64 (hh:Int),.int .i64 (x:Int),.agg #[.int .i64 k,.int .u64 s]] w fun e w'=>e=.returned (.bool true)/\aa (B.blk F gt) w w'/\
   ∃st',mJ w' B F gt ct (aJ A hh x k s) st' (fun q=>if q=hh then cO (aJ A hh x k s) (tr hh) (single x) else tr q):=by
 obtain ⟨S,ah,hM,hI,hL⟩:=h;have hlt:=hM.lt;have ok:=hM.cells.ok;have ok':=yI ok hh x k s hk;obtain ⟨b1,b2,b3⟩:=(dW _ _ _).1 hB;have b4:=(aO _ _).1 b1;have hx:x<A.cs.length:=by have:=(gH _ _).1 b2;omega
 have Po:(A.c x).i=0:=by
  have:=(ok.nat x hx).1;have h3:¬ (0<(A.c x).i):=fun h'=>by rw [(ae A x).2 ⟨hx,h'⟩] at b3;cases b3
  omega
 have hcs:(aJ A hh x k s).cs.length=A.cs.length:=by unfold aJ;rw [Δ hB,eY]
 have kY:(aJ A hh x k s).hs.length=A.hs.length:=by unfold aJ;rw [Δ hB];rfl
 have hcx:∀y,(aJ A hh x k s).c y=if y=x then ⟨hh,k,s⟩ else A.c y:=fun y=>by
  unfold aJ;rw [Δ hB,π,jQ]
  by_cases e:y=x
  ·rw [Δ ⟨e,hx⟩,Δ e]
  ·rw [Γ (fun h=>e h.1),Γ e]
 have uJ:x∉(tr hh).nodes:=hI.out Po;have hX:((tr hh).nodes++(single x).nodes).Nodup:=by
  rw [θ];refine ⟨hI.nd hh,by simp [single,BT.nodes],fun a ha b hb e=>?_⟩;simp only [single,BT.nodes,Υ,ϒ] at hb;exact uJ (by rw [←hb,←e];exact ha)
 have hin:∀y,y∈(tr hh).nodes++(single x).nodes->bQ (aJ A hh x k s) (y:Int)=true:=fun y hy=>by
  rw [ae,hcs,hcx];simp only [single,BT.nodes,Υ,τ,ϒ] at hy
  by_cases e:y=x
  ·rw [Δ e,e];exact ⟨hx,by show (0:Int)<(hh:Int);omega⟩
  ·rw [Γ e];have:=(hI.mem hh y).1 (hy.resolve_right e);exact ⟨this.2.1,ω⟩
 have WC:dP (aJ A hh x k s) (tr hh):=dP.frame (hI.heap hh) (fun y hy=>by rw [hcx,Γ (fun e=>uJ (by rw [←e];exact hy))]);have mp:=lq (aJ A hh x k s) (hL hh) (show Lone (single x) from rfl);have ml:=mO (aJ A hh x k s) (hL hh) (show Lone (single x) from rfl);have mh:=oM (hL hh) (show Lone (single x) from rfl) WC (show dP (aJ A hh x k s) (single x) from ⟨by simp [BT.nodes],trivial,trivial⟩) hX;have hfr:=hI.free x hx Po;have hLh:=hL hh
 have FI:Hid (∀ (W:World) (S':TS) (st':Nat),gL W B F gt ct (aJ A hh x k s) st' S' (ah.set hh (cO (aJ A hh x k s) (tr hh) (single x)).root)->bV S' (-1) (cO (aJ A hh x k s) (tr hh) (single x)).root (cO (aJ A hh x k s) (tr hh) (single x))->
   (∀y,y∉(tr hh).nodes++(single x).nodes->S.at S' y)->mJ W B F gt ct (aJ A hh x k s) st' (fun q=>if q=hh then cO (aJ A hh x k s) (tr hh) (single x) else tr q)):=fun W S' st' a1 a2 a4=>by
  refine ⟨S',_,a1,hI.put ok hM.jc hB a2 mp mh a4,fun q=>?_⟩
  show Lone (if q=hh then _ else _)
  split
  ·exact ml
  ·exact hL q
 have WI:=hI.Ex hh;have htop:=hI.top hh ω;have hgn:hh<ah.length:=by rw [hM.jc];omega
 have u1:aa [] w (w.alloc (.cells #[.int .i64 k,.int .u64 s] 129)):=(aa.refl _ _).alloc _;have kp:=fun W (hW:aa [] (w.alloc (.cells #[.int .i64 k,.int .u64 s] 129)) W)=>nC (hM.cells.aj (u1.trans hW)) hh x k s hk hB;have h0:=hM.h0;have uH:B.n0∉F:=hM.bz.1;have hsz:w.heap.size∉F:=fun hm=>by have:=hlt w.heap.size (by simp [PB.blk,hm]);omega
 have r0:∀W,aa F (w.alloc (.cells #[.int .i64 k,.int .u64 s] 129)) W->W.cell? ⟨B.n0,0,none⟩=some (.pointer (some ⟨B.c,0,none⟩)):=fun W hW=>hW.kept (u1.was h0) uH;have r1:∀W,aa F (w.alloc (.cells #[.int .i64 k,.int .u64 s] 129)) W->W.cell? ⟨w.heap.size,0,none⟩=some (.int .i64 k):=fun W h=>h.kept σ hsz;have r2:∀W,aa F (w.alloc (.cells #[.int .i64 k,.int .u64 s] 129)) W->W.cell? ⟨w.heap.size,1,none⟩=some (.int .u64 s):=fun W h=>h.kept σ hsz;have HM:=χ hM;have HH:=χ (ψ hX (ψ hin (ψ WI (ψ hLh hfr))));have hA:=ok.c1;have WL:=ok.h1
 clear hM hI hL ok ok' b1 b2 b3 Po hcx uJ hX hin WC mp mh ml hfr h0 hlt WI hLh;generalize hA':aJ A hh x k s=A' at *;generalize htr:tr hh=th at *
 go_enter Tryz.func210,Tryz.ntmps210
 go_wp2
 go_region_held3 (aa F (w.alloc (.cells #[.int .i64 k,.int .u64 s] 129))) (exact ν)
  ((go_at_call 154;(with_reducible refine (kp _ β).mono ?_);rintro e w1 ⟨rfl,jd,hu1⟩;(have hu2:aa F (w.alloc (.cells #[.int .i64 k,.int .u64 s] 129)) w1:=ν)))
 have uF:aa F w (w.alloc (.cells #[.int .i64 k,.int .u64 s] 129)):=u1.mono σ;have hM1:=HM.out.bY (uF.trans hu2) jd (fun y hy=>Α hy) hcs kY;have hw1:aa F w w1:=uF.trans hu2;clear r0 r1 r2 kp hu1 hu2 jd uF;have km:=fun W (hW:aa [] w1 W)=>wI (hM1.aj hW) th (single x) HH.out.2.2.1 (uP HH.out.2.2.2.2) HH.out.2.2.2.1 rfl HH.out.1 HH.out.2.1;rw [show (single x).root=(x:Int) from rfl] at km;have d4:=hM1.jv.cell hh hgn;rw [htop] at d4;have f4:=hM1.jv.free hh;have h3:=hM1.h2;obtain ⟨Ea,hgc⟩:=hM1.sepc
 have r3:∀W,aa [B.ba,B.c] w1 W->W.cell? ⟨B.n0,2,none⟩=some (.slice (some ⟨gt,0,none⟩) ah.length ct):=fun W hW=>hW.kept h3 (fun hm=>Ea (by simp at hm ⊢;omega));have r4:∀W,aa [B.ba,B.c] w1 W->W.cell? ⟨gt,hh,none⟩=some (.int .i64 th.root)/\W.frozen? ⟨gt,hh,none⟩=false:=fun W hW=>⟨hW.kept d4 hgc,hW.aH d4 hgc f4⟩
 have Bw:(0:Int)<=(hh:Int):=ω;have FY:(hh:Int)<(ah.length:Int):=ω;generalize hmt:cO A' th (single x)=mt at *;clear hM1 f4 h3 Ea hgc;have q3:=r3 _ (aa.refl _ _);have q4:=(r4 _ (aa.refl _ _)).1;go_wp2
 go_region_law
  (first
   | (go_simp;go_at_call 215;(with_reducible refine (km _ β).mono ?_);rintro e w5 ⟨rfl,xw,Xc,S5,wQ,II,hs5⟩;(have bK:aa [B.ba,B.c] w1 w5:=aa.trans β xw);obtain ⟨d5,f5⟩:=r4 _ bK;(have q5:=r3 _ bK)))
 all_goals
  go_wp2;go_ret;have pY:=HM.out.cF;have v1:aa (B.blk F gt) w w1:=hw1.mono (fun y hy=>by simp only [PB.blk,ρ];simp [hy])
  have v3:aa (B.blk F gt) w w5:=v1.trans (bK.mono (fun y hy=>by
   simp only [ρ,ς,or_false] at hy;simp only [PB.blk,ρ];rcases hy with rfl|rfl
   ·simp
   ·simp [pY]))
  subst hmt;exact ⟨rfl,v3.setCell (Α (by simp [PB.blk])) _,Xc,FI.out _ S5 Xc (wQ.qz hh _) II hs5⟩
end
theorem pR {P:List Fr} {t:BT} {y:Nat}:y∈(af P t).nodes↔y∈t.nodes\/y∈dE P:=by
 rw [(aM P t).mem_iff,τ]
theorem SI {S S' S'':TS} {x:Nat} (h:S.at S' x) (h':S'.at S'' x):S.at S'' x:=⟨h'.1.trans h.1,h'.2.1.trans h.2.1,h'.2.2.trans h.2.2⟩
theorem Cm {A:NS} {x:Nat} {k s:Int} (hB:iT A x k s=true) (hx:x<A.cs.length) {l:BT} (h:dP A (.node x l .nil)) (hn:(BT.node x l .nil).nodes.Nodup):dP (ak A x k s) (.node x l .nil):=by
 simp only [BT.nodes,Υ,Ζ] at hn;have hle:=sP hB;rw [π] at hle;have hc:=qN hB hx;have hy:∀y,y≠x->(ak A x k s).c y=A.c y:=fun y e=>by rw [hc,Γ e]
 have wu:(ak A x k s).c x=⟨(A.c x).i,k,s⟩:=by rw [hc,Δ rfl]
 refine ⟨fun y m=>lI (h.1 y m) (hy y (fun e=>hn.1 (by rw [←e];exact m))) ?_,dP.frame h.2.1 (fun y m=>hy y (fun e=>hn.1 (by rw [←e];exact m))),trivial⟩;rw [wu];exact hle
section
variable {w:World} {B:PB} {F:List Nat} {gt ct:Nat} {A:NS} {st:Nat} {S:TS} {ah:List Int}
theorem Xl (h:gL w B F gt ct A st S ah) {f:Fr} {P:List Fr} {x:Nat} {l r:BT} (hT:bV S (-1) (af (f::P) (.node x l r)).root (af (f::P) (.node x l r))) (hn:(af (f::P) (.node x l r)).nodes.Nodup) (hlt:∀y,y∈(af (f::P) (.node x l r)).nodes->y<A.cs.length) :
  Calls Tryz.prog 214 #[.pointer (some ⟨B.n0,0,none⟩),.int .i64 (x:Int)] w fun e w'=>e=.returned (.tuple #[])/\gL w' B F gt ct A st (jU S f.1 f.2.1 x) ah/\aa [B.ba] w w':=by
 obtain ⟨-, -, -,k1,k2,k3⟩:=Al hT hn;have h1:=((dL _ _).1 hT).1;have hpn:=(aM (f::P) (.node x l r)).nodup_iff.1 hn;rw [θ] at hpn;obtain ⟨n1,n2,n3⟩:=hpn;simp only [BT.nodes,Ζ,τ,not_or] at n1;have hfp:f.1∈dE (f::P):=by simp [dE]
 have hfx:f.1≠x:=fun e=>n3 x (by simp [BT.nodes]) f.1 hfp e.symm;have hrn:∀z:Nat,S.r x=(z:Int)->z∈r.nodes:=fun z hz=>by
  have h4:S.r x=r.root:=h1.2.2.2.root;rw [h4] at hz;have h6:r≠.nil:=fun e'=>by rw [e'] at hz;simp [BT.root] at hz
  have h7:=(bH h6).1;rw [hz,π] at h7;exact h7
 have hr:=nI (n:=A.cs.length) h1.2.2.2 (fun z hz=>hlt z (pR.2 (Α (by simp [BT.nodes,hz]))));exact N8 h f.1 x f.2.1 (hlt _ (pR.2 (Β hfp))) (hlt _ (pR.2 (Α (by simp [BT.nodes])))) hfx k1 k2 k3 hr (fun e=>n3 f.1 (by simp [BT.nodes,hrn _ e]) f.1 hfp rfl) (fun e=>n1.1.2 (hrn _ e))
theorem MI (hM:gL w B F gt ct A st S ah) {g x:Nat} {k s:Int} (hk:-9223372036854775808<=k/\k<=9223372036854775807/\0<=s/\s<=18446744073709551615) (hB:iT A x k s=true)
  (hg:(A.c x).i=g) (hg0:0<g) (hgt:g<ah.length) (htop:ah.getD g 0=x) (hxl:x<A.cs.length) :
  Calls Tryz.prog 207 #[.pointer (some ⟨B.n0,0,none⟩),.int .i64 (x:Int),.agg #[.int .i64 k,.int .u64 s]] w fun e w'=>e=.returned (.bool true)/\aa (B.blk F gt) w w'/\gL w' B F gt ct (ak A x k s) st S ah:=by
 have hcs:=eB A x k s;have kY:=kV A x k s;have hin':bQ (ak A x k s) (x:Int)=true:=(ae _ x).2 ⟨by rw [hcs];exact hxl,by rw [iy hB hxl,hg];omega⟩;have hi':((ak A x k s).c x).i=g:=by rw [iy hB hxl,hg]
 have u1:aa [] w (w.alloc (.cells #[.int .i64 k,.int .u64 s] 129)):=(aa.refl _ _).alloc _;have kp:=fun W (hW:aa [] (w.alloc (.cells #[.int .i64 k,.int .u64 s] 129)) W)=>ig (hM.cells.aj (u1.trans hW)) x k s hk hB;have h0:=hM.h0;have uH:B.n0∉F:=hM.bz.1;have hlt:=hM.lt;have hsz:w.heap.size∉F:=fun hm=>by have:=hlt w.heap.size (by simp [PB.blk,hm]);omega
 have r0:∀W,aa F (w.alloc (.cells #[.int .i64 k,.int .u64 s] 129)) W->W.cell? ⟨B.n0,0,none⟩=some (.pointer (some ⟨B.c,0,none⟩)):=fun W hW=>hW.kept (u1.was h0) uH;have r1:∀W,aa F (w.alloc (.cells #[.int .i64 k,.int .u64 s] 129)) W->W.cell? ⟨w.heap.size,0,none⟩=some (.int .i64 k):=fun W h=>h.kept σ hsz;have r2:∀W,aa F (w.alloc (.cells #[.int .i64 k,.int .u64 s] 129)) W->W.cell? ⟨w.heap.size,1,none⟩=some (.int .u64 s):=fun W h=>h.kept σ hsz;have HM:=χ hM;have HG:=χ htop;have WL:=hM.cells.ok.h1;have htn:ah.length=A.hs.length:=hM.jc;clear hM htop hlt h0 hg;generalize hA':ak A x k s=A' at *
 go_enter Tryz.func207,Tryz.ntmps207
 go_wp2
 go_region_held3 (aa F (w.alloc (.cells #[.int .i64 k,.int .u64 s] 129))) (exact ν)
  ((go_at_call 147;(with_reducible refine (kp _ β).mono ?_);rintro e w1 ⟨rfl,jd,hu1⟩;(have hu2:aa F (w.alloc (.cells #[.int .i64 k,.int .u64 s] 129)) w1:=ν)))
 have uF:aa F w (w.alloc (.cells #[.int .i64 k,.int .u64 s] 129)):=u1.mono σ;have hM1:=HM.out.bY (uF.trans hu2) jd (fun y hy=>Α hy) hcs (by rw [kY]);have kh:=dK hM1.cells x hin';rw [hi'] at kh;have g10:=hM1.h0;have jI:=χ hM1;have G9:=χ (uF.trans hu2);have wu:((x:Int) != (x:Int))=false:=σ;have SQ:(g:Int)<(ah.length:Int):=ω;clear r0 r1 r2 kp hu1 hu2 jd hM1 uF htn
 go_wp2_with (first
  | ((go_at_call 140;(with_reducible refine (kh).mono ?_));rintro e w2 ⟨rfl,hC2,hu2⟩;(have hM2:=jI.out.bY hu2 hC2 (fun y hy=>Α hy) rfl rfl);(have g21:=hM2.h2);(have g22:=hM2.jv.cell g hgt);rw [HG.out] at g22)
  | fail)
 go_ret;exact ⟨rfl,(G9.out.trans hu2).mono (fun y hy=>by simp only [PB.blk,ρ];simp [hy]),hM2⟩
theorem Tp (hM:gL w B F gt ct A st S ah) {g x:Nat} {f:Fr} {P:List Fr} {l r:BT} {k s:Int} (hk:-9223372036854775808<=k/\k<=9223372036854775807/\0<=s/\s<=18446744073709551615) (hB:iT A x k s=true)
  (hg:(A.c x).i=g) (hg0:0<g) (hgt:g<ah.length) (htop:ah.getD g 0=(af (f::P) (.node x l r)).root) (hT:bV S (-1) (af (f::P) (.node x l r)).root (af (f::P) (.node x l r))) (hn:(af (f::P) (.node x l r)).nodes.Nodup)
  (hL:Lone (af (f::P) (.node x l r))) (hall:∀y,y∈(af (f::P) (.node x l r)).nodes->bQ A (y:Int)=true) :
  Calls Tryz.prog 207 #[.pointer (some ⟨B.n0,0,none⟩),.int .i64 (x:Int),.agg #[.int .i64 k,.int .u64 s]] w fun e w'=>e=.returned (.bool true)/\aa (B.blk F gt) w w'/\
   ∃st' S',gL w' B F gt ct (ak A x k s) st' S' (ah.set g (cO (ak A x k s) (af (f::P) r) (.node x l .nil)).root)/\bV S' (-1) (cO (ak A x k s) (af (f::P) r) (.node x l .nil)).root (cO (ak A x k s) (af (f::P) r) (.node x l .nil))/\∀y,y∉(af (f::P) (.node x l r)).nodes->S.at S' y:=by
 have hcs:=eB A x k s;have kY:=kV A x k s;have hxl:x<A.cs.length:=by
  have:=hall x (pR.2 (Α (by simp [BT.nodes])));exact ((ae A x).1 this).1
 have hin':bQ (ak A x k s) (x:Int)=true:=(ae _ x).2 ⟨by rw [hcs];exact hxl,by rw [iy hB hxl,hg];omega⟩;have hi':((ak A x k s).c x).i=g:=by rw [iy hB hxl,hg]
 have rA:∀y,y∈(af (f::P) (.node x l r)).nodes->bQ (ak A x k s) (y:Int)=true:=fun y hy=>by
  have:=(ae A y).1 (hall y hy);exact (ae _ y).2 ⟨by rw [hcs];exact this.1,by rw [iy hB hxl];exact this.2⟩
 have hlt':∀y,y∈(af (f::P) (.node x l r)).nodes->y<(ak A x k s).cs.length:=fun y hy=>((ae _ y).1 (rA y hy)).1;obtain ⟨o1,o2,o3, -⟩:=Al hT hn;have hpm:=vI (f::P) x l r;have rZ:((af (f::P) r).nodes++(BT.node x l .nil).nodes).Nodup:=xP (hpm.nodup_iff.1 hn);have IB:∀y,y∈(af (f::P) r).nodes++(BT.node x l .nil).nodes->y∈(af (f::P) (.node x l r)).nodes:=fun y hy=>by
  rw [hpm.mem_iff,τ];rw [τ] at hy;exact hy.symm
 have Oy:Lone (af (f::P) r):=oL (t:=.node x l r) σ hL;have hrt:(af (f::P) (.node x l r)).root=(af (f::P) r).root:=jP _ _ _ _;have hroot:(af (f::P) r).root≠(x:Int):=fun e=>by
  have h6:af (f::P) r≠.nil:=fun e'=>by rw [e'] at e;simp [BT.root] at e
  have h7:=(bH h6).1;rw [e,π] at h7;rw [θ] at rZ;exact rZ.2.2 x h7 x (by simp [BT.nodes]) rfl
 rw [hrt] at htop;have hr0:(af (f::P) r).root=-1\/0<=(af (f::P) r).root:=by
  have:=nI (n:=A.cs.length) o2 (fun z hz=>((ae _ _).1 (hall z (IB z (by simp [hz])))).1);omega
 have u1:aa [] w (w.alloc (.cells #[.int .i64 k,.int .u64 s] 129)):=(aa.refl _ _).alloc _;have kp:=fun W (hW:aa [] (w.alloc (.cells #[.int .i64 k,.int .u64 s] 129)) W)=>ig (hM.cells.aj (u1.trans hW)) x k s hk hB;have h0:=hM.h0;have uH:B.n0∉F:=hM.bz.1;have hlt:=hM.lt;have hsz:w.heap.size∉F:=fun hm=>by have:=hlt w.heap.size (by simp [PB.blk,hm]);omega
 have r0:∀W,aa F (w.alloc (.cells #[.int .i64 k,.int .u64 s] 129)) W->W.cell? ⟨B.n0,0,none⟩=some (.pointer (some ⟨B.c,0,none⟩)):=fun W hW=>hW.kept (u1.was h0) uH;have r1:∀W,aa F (w.alloc (.cells #[.int .i64 k,.int .u64 s] 129)) W->W.cell? ⟨w.heap.size,0,none⟩=some (.int .i64 k):=fun W h=>h.kept σ hsz;have r2:∀W,aa F (w.alloc (.cells #[.int .i64 k,.int .u64 s] 129)) W->W.cell? ⟨w.heap.size,1,none⟩=some (.int .u64 s):=fun W h=>h.kept σ hsz;have HM:=χ hM;have HG:=χ (ψ hT (ψ hn (ψ rA hlt')));have HX:=χ (ψ rZ (ψ IB (ψ Oy (ψ o1 (ψ o2 o3)))));have HT:=χ htop;have WL:=hM.cells.ok.h1
 have htn:ah.length=A.hs.length:=hM.jc;clear hM hT hn hall rA hlt' hlt h0 hg rZ IB uH hsz hL Oy hrt hpm o1 o2 o3 htop;generalize hA':ak A x k s=A' at *;generalize ET:af (f::P) r=ta at *
 go_enter Tryz.func207,Tryz.ntmps207
 go_wp2
 go_region_held3 (aa F (w.alloc (.cells #[.int .i64 k,.int .u64 s] 129))) (exact ν)
  ((go_at_call 147;(with_reducible refine (kp _ β).mono ?_);rintro e w1 ⟨rfl,jd,hu1⟩;(have hu2:aa F (w.alloc (.cells #[.int .i64 k,.int .u64 s] 129)) w1:=ν)))
 have uF:aa F w (w.alloc (.cells #[.int .i64 k,.int .u64 s] 129)):=u1.mono σ;have hM1:=HM.out.bY (uF.trans hu2) jd (fun y hy=>Α hy) hcs (by rw [kY]);have kh:=dK hM1.cells x hin';rw [hi'] at kh;have g10:=hM1.h0;have jI:=χ hM1;have G9:=χ (uF.trans hu2);have wu:(ta.root != (x:Int))=true:=by simpa using hroot
 have SQ:(g:Int)<(ah.length:Int):=ω;clear r0 r1 r2 kp hu1 hu2 jd hM1 uF htn
 go_wp2_with (first
  | ((go_at_call 140;(with_reducible refine (kh).mono ?_));rintro e w2 ⟨rfl,hC2,hu2⟩;(have hM2:=jI.out.bY hu2 hC2 (fun y hy=>Α hy) rfl rfl);(have g21:=hM2.h2);(have g22:=hM2.jv.cell g hgt);rw [HT.out] at g22;(have ko:=Xl hM2 HG.out.1 HG.out.2.1 HG.out.2.2.2))
  | ((go_at_call 214;(with_reducible refine (ko).mono ?_));rintro e w3 ⟨rfl,jD,hu3⟩)
  | fail)
 have hw3:aa (B.blk F gt) w w3:=((G9.out.trans hu2).mono (fun y hy=>by simp only [PB.blk,ρ];simp [hy])).trans (hu3.mono (fun y hy=>by simp at hy;simp [PB.blk,hy]));have km:=fun W (hW:aa [] w3 W)=>wI (jD.aj hW) ta (.node x l .nil) HX.out.2.2.2.2.1 HX.out.2.2.2.1 HX.out.2.2.1 rfl HX.out.1 (fun y hy=>HG.out.2.2.1 y (HX.out.2.1 y hy));rw [show (BT.node x l .nil).root=(x:Int) from rfl] at km;have d4:=jD.jv.cell g hgt;rw [HT.out] at d4;have f4:=jD.jv.free g;have h3:=jD.h2;obtain ⟨Ea,hgc⟩:=jD.sepc;have pY:=jD.cF
 have r3:∀W,aa [B.ba,B.c] w3 W->W.cell? ⟨B.n0,2,none⟩=some (.slice (some ⟨gt,0,none⟩) ah.length ct):=fun W hW=>hW.kept h3 (fun hm=>Ea (by simp at hm ⊢;omega));have r4:∀W,aa [B.ba,B.c] w3 W->W.cell? ⟨gt,g,none⟩=some (.int .i64 ta.root)/\W.frozen? ⟨gt,g,none⟩=false:=fun W hW=>⟨hW.kept d4 hgc,hW.aH d4 hgc f4⟩
 have Bw:(0:Int)<=(g:Int):=ω;generalize hmt:cO A' ta (.node x l .nil)=mt at *;clear jD f4 h3 Ea hgc g21 g22 hM2 ko hC2 hu2 hu3 kh g10;have q3:=r3 _ (aa.refl _ _);have q4:=(r4 _ (aa.refl _ _)).1;go_wp2
 go_region_law
  (first
   | (go_simp;go_at_call 215;(with_reducible refine (km _ β).mono ?_);rintro e w5 ⟨rfl,xw,Xc,S5,wQ,II,hs5⟩;(have bK:aa [B.ba,B.c] w3 w5:=aa.trans β xw);obtain ⟨d5,f5⟩:=r4 _ bK;(have q5:=r3 _ bK)))
 all_goals
  go_wp2;go_ret
  have v3:aa (B.blk F gt) w w5:=hw3.trans (bK.mono (fun y hy=>by
   simp only [ρ,ς,or_false] at hy;simp only [PB.blk,ρ];rcases hy with rfl|rfl
   ·simp
   ·simp [pY]))
  subst hmt;exact ⟨rfl,v3.setCell (Α (by simp [PB.blk])) _,Xc,S5,wQ.qz g _,II,fun y hy=>SI (HX.out.2.2.2.2.2 y hy) (hs5 y (fun hm=>hy (HX.out.2.1 y hm)))⟩
end
end Go.Proofs.YtklibcncmbofpaaGreat
namespace Go.Proofs.YtklibcncmbofpaaGreat
theorem Cq (A:NS):∀ (l:List BT),(∀t,t∈l->dP A t/\Lone t)->(fV l).Nodup->∀t,t∈bS A l->dP A t/\Lone t
 | [],_,_,t,ht=>by cases ht
 | [a],h,_,t,ht=>h t ht
 | a::b::l,h,hn,t,ht=>by
  rw [bG,bG,←ϋ,θ] at hn;have ha:=h a σ;have hb:=h b σ;rcases ρ.1 (show t∈cO A a b::bS A l from ht) with e|e
  ·subst e;exact ⟨oM ha.2 hb.2 ha.1 hb.1 hn.1,mO A ha.2 hb.2⟩
  ·exact Cq A l (fun u hu=>h u (by simp [hu])) hn.2.1 t e
theorem CE (A:NS):∀ (l:List BT),(∀t,t∈l->dP A t/\Lone t)->(fV l).Nodup->dP A (fJ A l)
 | [],_,_=>trivial
 | a::l,h,hn=>by
  have ha:=h a σ;have hp:=xh A l (fun t ht=>(h t (by simp [ht])).2);have ih:=CE A l (fun u hu=>h u (by simp [hu])) (by rw [bG,θ] at hn;exact hn.2.1);exact oM ha.2 hp.2 ha.1 ih ((hp.1.append_left a.nodes).nodup_iff.2 hn)
theorem xK {A:NS} {l:BT} (h:dP A l) (hn:l.nodes.Nodup):(fJ A (bS A (bu l))).nodes.Perm l.nodes/\Lone (fJ A (bS A (bu l)))/\dP A (fJ A (bS A (bu l))):=by
 have hk:=Ci h;have hkn:=(ji l).nodup_iff.2 hn;have h2:=Cq A _ hk hkn;have p2:=CJ A (bu l) (fun t ht=>(hk t ht).2);have p3:=xh A (bS A (bu l)) (fun t ht=>(h2 t ht).2);exact ⟨(p3.1.trans p2).trans (ji l),p3.2,CE A _ h2 (p2.nodup_iff.2 hkn)⟩
theorem Cb {n:Nat} {l:List Nat} (hn:l.Nodup) (h:∀x,x∈l->x<n):l.length<=n:=by
 induction n generalizing l with
 | zero=>
  cases l with
  | nil=>simp
  | cons a l=>exact absurd (h a σ) ω
 | succ n ih=>
  by_cases hm:n∈l
  ·have h1:=ih (l:=l.erase n) (hn.erase n) (fun x hx=>by
    have h2:=(hn.mem_erase_iff).1 hx;have:=h x h2.2
    omega)
   rw [List.length_erase_of_mem hm] at h1;omega
  ·have:=ih hn (fun x hx=>by
    have h1:=h x hx;have h2:x≠n:=fun e=>hm (by rw [←e];exact hx)
    omega)
   omega
end Go.Proofs.YtklibcncmbofpaaGreat
namespace Go.Proofs.YtklibcncmbofpaaGreat
open Go Go.RowKit
section
variable {w:World} {B:PB} {F:List Nat} {gt ct:Nat} {A:NS} {st:Nat} {S:TS} {ah:List Int}
theorem Oc (hM:gL w B F gt ct A st S ah) {g x:Nat} {l:BT} (hg:(A.c x).i=g) (hg0:0<g) (hgt:g<ah.length) (htop:ah.getD g 0=x) (hT:bV S (-1) x (.node x l .nil)) (hn:(BT.node x l .nil).nodes.Nodup) (hall:∀y,y∈(BT.node x l .nil).nodes->bQ A (y:Int)=true) :
  Calls Tryz.prog 208 #[.pointer (some ⟨B.n0,0,none⟩),.int .i64 (x:Int)] w fun e w'=>e=.returned (.bool true)/\aa (B.blk F gt) w w'/\∃st' S',gL w' B F gt ct (aZ A x) st' S' (ah.set g (fJ A (bS A (bu l))).root)/\bV S' (-1) (fJ A (bS A (bu l))).root (fJ A (bS A (bu l)))/\(S'.l x=-1/\S'.r x=-1/\S'.u x=-1)/\∀y,y∉(BT.node x l .nil).nodes->S.at S' y:=by
 have hin:bQ A (x:Int)=true:=hall x (by simp [BT.nodes]);have hn':(x::l.nodes).Nodup:=by simpa [BT.nodes] using hn
 have hl':∀z,z∈l.nodes->bQ A (z:Int)=true:=fun z hz=>hall z (by simp [BT.nodes,hz]);have hsz:l.size<=65536:=by
  rw [←BT.lC];have:=Cb (n:=A.cs.length) (List.nodup_cons.1 hn').2 (fun y hy=>((ae _ _).1 (hl' y hy)).1);have:=hM.cells.ok.c1;omega
 have kh:=dK hM.cells x hin;rw [hg] at kh;have h0:=hM.h0;have HM:=χ hM;have HT:=χ (ψ hT (ψ hn' (ψ hl' (ψ hsz hin))));have VI:=χ htop;have WL:=hM.cells.ok.h1;have htn:ah.length=A.hs.length:=hM.jc;have SQ:(g:Int)<(ah.length:Int):=ω;have hA:=hM.cells.ok.c1;have hxl:x<A.cs.length:=((ae _ _).1 hin).1;clear hM hT hn hn' hl' hsz hin hall htop htn hg;generalize hR:fJ A (bS A (bu l))=R at *;have wu:((x:Int) == (x:Int))=true:=σ
 go_enter Tryz.func208,Tryz.ntmps208
 go_wp2_with (first
  | ((go_at_call 140;(with_reducible refine (kh).mono ?_));rintro e w1 ⟨rfl,jd,hu1⟩;(have hM1:=HM.out.bY hu1 jd (fun y hy=>Α hy) rfl rfl);(have g21:=hM1.h2);(have g22:=hM1.jv.cell g hgt);rw [VI.out] at g22)
  | fail)
 have ks:=fun W (hW:aa [] w1 W)=>zt (hM1.aj hW) x HT.out.2.2.2.2 l HT.out.1.2.2.1 HT.out.2.1 HT.out.2.2.1 HT.out.2.2.2.1;rw [hR] at ks;have f4:=hM1.jv.free g;have hnn:B.n0∉B.ba::F/\gt∉B.ba::F:=by
  have a1:=hM1.sep;have a2:=hM1.bz;exact ⟨by simp only [ρ,not_or];exact ⟨a1.1,a2.1⟩,by simp only [ρ,not_or];exact ⟨fun e=>a1.2.2 e.symm,a2.2.2⟩⟩
 obtain ⟨PO,xP⟩:=hnn;have HS1:=χ hM1.sep;have h3:=hM1.h2;have h00:=hM1.h0;have r3:∀W,aa (B.ba::F) w1 W->W.cell? ⟨B.n0,2,none⟩=some (.slice (some ⟨gt,0,none⟩) ah.length ct):=fun W hW=>hW.kept h3 PO;have r4:∀W,aa (B.ba::F) w1 W->W.cell? ⟨gt,g,none⟩=some (.int .i64 (x:Int))/\W.frozen? ⟨gt,g,none⟩=false:=fun W hW=>⟨hW.kept g22 xP,hW.aH g22 xP f4⟩
 have Bw:(0:Int)<=(g:Int):=ω;have G9:aa (B.blk F gt) w w1:=hu1.mono (fun y hy=>by simp only [PB.blk,ρ];simp [hy]);have HU:=χ G9;clear hM1 f4 h3 PO xP jd hu1 kh G9;have q3:=r3 _ (aa.refl _ _);have q4:=(r4 _ (aa.refl _ _)).1
 go_upto_region 5 with (fail)
 go_region_law
  (first
   | (go_simp;go_at_call 216;(with_reducible refine (ks _ β).mono ?_);rintro e w5 ⟨rfl,xw,Xc,S5,wQ,II,hl5,M0,TU,hs5⟩;(have bK:aa (B.ba::F) w1 w5:=aa.trans β xw);obtain ⟨d5,f5⟩:=r4 _ bK;(have q5:=r3 _ bK)))
 all_goals
  have tF:=wQ.qz g R.root;have kd:=gP tF.cells x HT.out.2.2.2.2;have h06:=tF.h0
  go_wp2_with (first
   | ((go_at_call 151;(with_reducible refine (kd).mono ?_));rintro e w7 ⟨rfl,hC7,jC⟩)
   | fail)
  go_ret;have hbn:∀y,y∉(BT.node x l .nil).nodes->y∉x::l.nodes:=fun y hy hm=>hy (by simpa [BT.nodes] using hm);have v5:aa (B.blk F gt) w w5:=HU.out.trans (bK.mono (fun y hy=>by simp only [PB.blk,ρ] at hy ⊢;rcases hy with h|h<;>simp [h]));refine ⟨rfl,(v5.setCell (Α (by simp [PB.blk])) _).trans (jC.mono (fun y hy=>by simp only [PB.blk,ρ];simp [hy])),Xc,S5,tF.bY jC hC7 (fun y hy=>Α hy) (eU _ _) (by rw [iK]),II,⟨hl5,?_,?_⟩,fun y hy=>hs5 y (hbn y hy)⟩
  ·rw [M0];exact HT.out.1.2.2.2
  ·rw [TU];exact HT.out.1.2.1
theorem QY (hM:gL w B F gt ct A st S ah) {g x:Nat} {f:Fr} {P:List Fr} {l r:BT} (hg:(A.c x).i=g) (hg0:0<g) (hgt:g<ah.length) (htop:ah.getD g 0=(af (f::P) (.node x l r)).root) (hT:bV S (-1) (af (f::P) (.node x l r)).root (af (f::P) (.node x l r))) (hn:(af (f::P) (.node x l r)).nodes.Nodup)
  (hL:Lone (af (f::P) (.node x l r))) (hH:dP A (af (f::P) (.node x l r))) (hall:∀y,y∈(af (f::P) (.node x l r)).nodes->bQ A (y:Int)=true) :
  Calls Tryz.prog 208 #[.pointer (some ⟨B.n0,0,none⟩),.int .i64 (x:Int)] w fun e w'=>e=.returned (.bool true)/\aa (B.blk F gt) w w'/\∃st' S',gL w' B F gt ct (aZ A x) st' S' (ah.set g (cO A (af (f::P) r) (fJ A (bS A (bu l)))).root)/\bV S' (-1) (cO A (af (f::P) r) (fJ A (bS A (bu l)))).root (cO A (af (f::P) r) (fJ A (bS A (bu l))))/\(S'.l x=-1/\S'.r x=-1/\S'.u x=-1)/\∀y,y∉(af (f::P) (.node x l r)).nodes->S.at S' y:=by
 have hin:bQ A (x:Int)=true:=hall x (pR.2 (Α (by simp [BT.nodes])));obtain ⟨o1,o2,o3, -⟩:=Al hT hn;obtain ⟨ZU, -⟩:=zH (P:=f::P) hH;have hpm:=vI (f::P) x l r;have rZ:((af (f::P) r).nodes++(BT.node x l .nil).nodes).Nodup:=xP (hpm.nodup_iff.1 hn);have IB:∀y,y∈(af (f::P) r).nodes++(BT.node x l .nil).nodes->y∈(af (f::P) (.node x l r)).nodes:=fun y hy=>by
  rw [hpm.mem_iff,τ];rw [τ] at hy;exact hy.symm
 have Oy:Lone (af (f::P) r):=oL (t:=.node x l r) σ hL;have hrt:(af (f::P) (.node x l r)).root=(af (f::P) r).root:=jP _ _ _ _;have hroot:(af (f::P) r).root≠(x:Int):=fun e=>by
  have h6:af (f::P) r≠.nil:=fun e'=>by rw [e'] at e;simp [BT.root] at e
  have h7:=(bH h6).1;rw [e,π] at h7;rw [θ] at rZ;exact rZ.2.2 x h7 x (by simp [BT.nodes]) rfl
 rw [hrt] at htop;have hn':(x::l.nodes).Nodup:=by
  rw [θ] at rZ;simpa [BT.nodes] using rZ.2.1
 have hl':∀z,z∈l.nodes->bQ A (z:Int)=true:=fun z hz=>hall z (IB z (by simp [BT.nodes,hz]));have hsz:l.size<=65536:=by
  rw [←BT.lC];have:=Cb (n:=A.cs.length) (List.nodup_cons.1 hn').2 (fun y hy=>((ae _ _).1 (hl' y hy)).1);have:=hM.cells.ok.c1;omega
 obtain ⟨t1,t2,t3⟩:=xK ZU.2.1 (List.nodup_cons.1 hn').2;have hXR:((af (f::P) r).nodes++(fJ A (bS A (bu l))).nodes).Nodup:=by
  have h1:((af (f::P) r).nodes++l.nodes).Nodup:=by
   rw [θ] at rZ ⊢;exact ⟨rZ.1,(List.nodup_cons.1 hn').2,fun a ha b hb=>rZ.2.2 a ha b (by simp [BT.nodes,hb])⟩
  exact (t1.append_left _).nodup_iff.2 h1
 have hXRm:∀y,y∈(af (f::P) r).nodes++(fJ A (bS A (bu l))).nodes->y∈(af (f::P) (.node x l r)).nodes/\y≠x:=fun y hy=>by
  rw [τ,t1.mem_iff] at hy;refine ⟨IB y (by simp only [τ,BT.nodes,Υ,ρ];rcases hy with h|h<;>simp [h]),fun e=>?_⟩;subst e;rw [θ] at rZ;rcases hy with h|h
  ·exact rZ.2.2 y h y (by simp [BT.nodes]) rfl
  ·exact (List.nodup_cons.1 hn').1 h
 have hra:∀y,y∈(af (f::P) r).nodes->y∉x::l.nodes:=fun y hy hm=>by
  rw [θ] at rZ;exact rZ.2.2 y hy y (by simpa [BT.nodes] using hm) rfl
 have hsub:∀y,y∈x::l.nodes->y∈(af (f::P) (.node x l r)).nodes:=fun y hy=>IB y (by rw [τ];right;simpa [BT.nodes] using hy);have ko:=fun (w1:World) (hM1:gL w1 B F gt ct A st S ah)=>Xl hM1 hT hn (fun y hy=>((ae _ _).1 (hall y hy)).1);have kh:=dK hM.cells x hin;rw [hg] at kh;have h0:=hM.h0;have HM:=χ hM;have HT:=χ (ψ o1 (ψ o2 (ψ o3 (ψ hn' (ψ hl' (ψ hsz hin))))));have HX:=χ (ψ hXR (ψ hXRm (ψ Oy (ψ t2 (ψ hra (ψ hsub hall))))));have VI:=χ htop;have WL:=hM.cells.ok.h1;have htn:ah.length=A.hs.length:=hM.jc;have SQ:(g:Int)<(ah.length:Int):=ω;have hA:=hM.cells.ok.c1
 have hxl:x<A.cs.length:=((ae _ _).1 hin).1;have hr0:(af (f::P) r).root=-1\/0<=(af (f::P) r).root:=by
  have:=nI (n:=A.cs.length) o2 (fun z hz=>((ae _ _).1 (hall z (IB z (by simp [hz])))).1);omega
 clear hM hT hn hn' hl' hsz hin hall htop htn hg o1 o2 o3 ZU hpm rZ IB Oy hrt t1 t2 t3 hXR hXRm hra hsub hL hH;generalize hR:fJ A (bS A (bu l))=R at *;generalize ET:af (f::P) r=ta at *;have wu:(ta.root == (x:Int))=false:=by simpa using hroot
 go_enter Tryz.func208,Tryz.ntmps208
 go_wp2_with (first
  | ((go_at_call 140;(with_reducible refine (kh).mono ?_));rintro e w1 ⟨rfl,jd,hu1⟩;(have hM1:=HM.out.bY hu1 jd (fun y hy=>Α hy) rfl rfl);(have g21:=hM1.h2);(have g22:=hM1.jv.cell g hgt);rw [VI.out] at g22;(have Z6:=ko w1 hM1))
  | ((go_at_call 214;(with_reducible refine (Z6).mono ?_));rintro e w3 ⟨rfl,jD,hu3⟩)
  | fail)
 have ks:=fun W (hW:aa [] w3 W)=>zt (jD.aj hW) x HT.out.2.2.2.2.2.2 l HT.out.1.2.2.1 HT.out.2.2.2.1 HT.out.2.2.2.2.1 HT.out.2.2.2.2.2.1;rw [hR] at ks;have kl:Hid (∀W Xn S4,gL W B F gt ct A Xn S4 ah->bV S4 (-1) R.root R->(∀z,z∉x::l.nodes->(jU S f.1 f.2.1 x).at S4 z)->_):=fun W Xn S4 rQ Pv hs4=>wI rQ ta R (HT.out.2.1.frame (fun y hy=>hs4 y (HX.out.2.2.2.2.1 y hy))) Pv HX.out.2.2.1 HX.out.2.2.2.1 HX.out.1 (fun y hy=>HX.out.2.2.2.2.2.2 y (HX.out.2.1 y hy).1);have d4:=jD.jv.cell g hgt;rw [VI.out] at d4;have f4:=jD.jv.free g;have hnn:B.n0∉B.ba::F/\gt∉B.ba::F:=by
  have a1:=jD.sep;have a2:=jD.bz;exact ⟨by simp only [ρ,not_or];exact ⟨a1.1,a2.1⟩,by simp only [ρ,not_or];exact ⟨fun e=>a1.2.2 e.symm,a2.2.2⟩⟩
 obtain ⟨PO,xP⟩:=hnn;have HS1:=χ jD.sep;have pY:=jD.cF;have h3:=jD.h2;have r3:∀W,aa (B.ba::F) w3 W->W.cell? ⟨B.n0,2,none⟩=some (.slice (some ⟨gt,0,none⟩) ah.length ct):=fun W hW=>hW.kept h3 PO;have r4:∀W,aa (B.ba::F) w3 W->W.cell? ⟨gt,g,none⟩=some (.int .i64 ta.root)/\W.frozen? ⟨gt,g,none⟩=false:=fun W hW=>⟨hW.kept d4 xP,hW.aH d4 xP f4⟩
 have Bw:(0:Int)<=(g:Int):=ω;have G9:aa (B.blk F gt) w w1:=hu1.mono (fun y hy=>by simp only [PB.blk,ρ];simp [hy]);have HU:=χ (G9.trans (hu3.mono (fun y hy=>by simp at hy;simp [PB.blk,hy])));clear hM1 jD f4 h3 PO xP jd hu1 kh G9 hu3 ko Z6 g21 g22;have q3:=r3 _ (aa.refl _ _);have q4:=(r4 _ (aa.refl _ _)).1;generalize hmt:cO A ta R=mt at *
 go_upto_region 8 with (fail)
 go_region_law
  (first
   | (go_simp;go_at_call 216;(with_reducible refine (ks _ β).mono ?_);rintro e w5 ⟨rfl,xw,Xc,S5,wQ,II,hl5,M0,TU,hs5⟩;(have bK:aa (B.ba::F) w3 w5:=aa.trans β xw);obtain ⟨d5,f5⟩:=r4 _ bK;(have q5:=r3 _ bK);(have km:=fun W (hW:aa [] w5 W)=>kl W Xc S5 (wQ.aj hW) II hs5))
   | (go_simp;go_at_call 215;(with_reducible refine (km _ β).mono ?_);rintro e w6 ⟨rfl,hu6a,st6,S6,tF,OZ,hs6⟩;(have hu6b:aa [B.ba,B.c] w5 w6:=aa.trans β hu6a);(have gF:aa (B.ba::F) w3 w6:=bK.trans (hu6b.mono (fun y hy=>by simp at hy;rcases hy with h|h<;>simp [h,pY])));obtain ⟨d6,f6⟩:=r4 _ gF;(have q6:=r3 _ gF)))
 all_goals
  subst hmt;have IK:=tF.qz g (cO A ta R).root;have kd:=gP IK.cells x HT.out.2.2.2.2.2.2;have h06:=IK.h0
  go_wp2_with (first
   | ((go_at_call 151;(with_reducible refine (kd).mono ?_));rintro e w8 ⟨rfl,hC8,EF⟩)
   | fail)
  go_ret;have hxa:x∉ta.nodes++R.nodes:=fun hm=>(HX.out.2.1 x hm).2 rfl;have a6:=hs6 x hxa;have v5:aa (B.blk F gt) w w6:=HU.out.trans (gF.mono (fun y hy=>by simp only [PB.blk,ρ] at hy ⊢;rcases hy with h|h<;>simp [h]));refine ⟨rfl,(v5.setCell (Α (by simp [PB.blk])) _).trans (EF.mono (fun y hy=>by simp only [PB.blk,ρ];simp [hy])),st6,S6,IK.bY EF hC8 (fun y hy=>Α hy) (eU _ _) (by rw [iK]),OZ,⟨?_,?_,?_⟩,fun y hy=>?_⟩
  ·rw [a6.1];exact hl5
  ·rw [a6.2.1,M0];exact HT.out.1.2.2.2
  ·rw [a6.2.2,TU];exact HT.out.1.2.1
  ·exact SI (SI (HT.out.2.2.1 y hy) (hs5 y (fun hm=>hy (HX.out.2.2.2.2.2.1 y hm)))) (hs6 y (fun hm=>hy (HX.out.2.1 y hm).1))
end
section
variable {w:World} {B:PB} {F:List Nat} {gt ct:Nat} {A:NS} {st:Nat} {tr:Nat->BT}
theorem Dg {ah:List Int} {g:Nat} {v:Int} (hgt:g<ah.length):∀q,(ah.set g v).getD q 0=if q=g then v else ah.getD q 0:=fun q=>by
 by_cases e:q=g
 ·rw [Δ e,e,φ,ύ,Δ rfl,Δ hgt];rfl
 ·rw [Γ e,φ,ύ,Γ (fun h=>e h.symm),←φ]
theorem NW (h:mJ w B F gt ct A st tr) (g x:Nat) (hx:x∈(tr g).nodes) (k s:Int) (hk:-9223372036854775808<=k/\k<=9223372036854775807/\0<=s/\s<=18446744073709551615) (hB:iT A x k s=true) :
  Calls Tryz.prog 207 #[.pointer (some ⟨B.n0,0,none⟩),.int .i64 (x:Int),.agg #[.int .i64 k,.int .u64 s]] w fun e w'=>e=.returned (.bool true)/\aa (B.blk F gt) w w'/\∃st' IA,mJ w' B F gt ct (ak A x k s) st' IA:=by
 obtain ⟨S,ah,hM,hI,hL⟩:=h;have hm:=(hI.mem g x).1 hx;have e:=mZ hx;generalize (pathOf (tr g) x).1=P at *;generalize (pathOf (tr g) x).2.1=l at *;generalize (pathOf (tr g) x).2.2=r at *;have hgt:g<ah.length:=by rw [hM.jc];have:=(hM.cells.ok.nat x hm.2.1);omega
 have hgh:g<A.hs.length:=by rw [←hM.jc];exact hgt
 have hT:=hI.Ex g;have hn:=hI.nd g;have hH:dP A (tr g):=hI.heap g;have Ku:=hL g;have htp:=hI.top g hgh;have hall:∀y,y∈(tr g).nodes->bQ A (y:Int)=true:=fun y hy=>by
  have:=(hI.mem g y).1 hy;exact (ae A y).2 ⟨this.2.1,ω⟩
 rw [e] at hT hn hH Ku htp hall;cases P with
 | nil=>
  have hr:r=.nil:=Ku;subst hr;refine (MI hM hk hB hm.2.2 hm.1 hgt htp hm.2.1).mono ?_;rintro e' w' ⟨rfl,hu,hE⟩;have e2:tr g=.node x l .nil:=e
  have h2:=hI.low hB hx (t':=tr g) (iU:=ah) (hI.Ex g) (ό _) (by rw [e2];exact Cm hB hm.2.1 hH hn) (fun y _=>⟨rfl,rfl,rfl⟩) (fun q hq=>by
   split
   ·rename_i e3;rw [e3];exact hI.top g hgh
   ·rfl)
  refine ⟨rfl,hu,st,_,S,ah,hE,h2,fun q=>?_⟩
  show Lone (if q=g then tr g else tr q)
  split<;>exact hL _
 | cons f P2=>
  refine (Tp hM hk hB hm.2.2 hm.1 hgt htp hT hn Ku hall).mono ?_;rintro e' w' ⟨rfl,hu,st',S',q1,q2,q3⟩;have hpm:=vI (f::P2) x l r;obtain ⟨ZU,oh2⟩:=zH (P:=f::P2) hH;have rZ:((af (f::P2) r).nodes++(BT.node x l .nil).nodes).Nodup:=xP (hpm.nodup_iff.1 hn);have Oy:Lone (af (f::P2) r):=oL (t:=.node x l r) σ Ku;have AZ:x∉(af (f::P2) r).nodes:=fun hm'=>by
   rw [θ] at rZ;exact rZ.2.2 x hm' x (by simp [BT.nodes]) rfl
  have hc:=qN hB hm.2.1;have hH2:dP (ak A x k s) (af (f::P2) r):=dP.frame oh2 (fun y hy=>by rw [hc,Γ (fun e=>AZ (by rw [←e];exact hy))]);have hH1:=Cm hB hm.2.1 ZU (by rw [θ] at rZ;exact rZ.2.1);have hLx:Lone (BT.node x l .nil):=rfl;have hp:(cO (ak A x k s) (af (f::P2) r) (.node x l .nil)).nodes.Perm (tr g).nodes:=by
   rw [e];exact (lq _ Oy hLx).trans (List.perm_append_comm.trans hpm.symm)
  have h2:=hI.low hB hx (t':=cO (ak A x k s) (af (f::P2) r) (.node x l .nil)) (iU:=ah.set g (cO (ak A x k s) (af (f::P2) r) (.node x l .nil)).root) q2 hp (oM Oy hLx hH2 hH1 rZ) (fun y hy=>q3 y (by rw [←e];exact hy)) (fun q _=>Dg hgt q);refine ⟨rfl,hu,st',_,S',_,q1,h2,fun q=>?_⟩
  show Lone (if q=g then _ else tr q)
  split
  ·exact mO _ Oy hLx
  ·exact hL q
theorem OO (h:mJ w B F gt ct A st tr) (g x:Nat) (hx:x∈(tr g).nodes) :
  Calls Tryz.prog 208 #[.pointer (some ⟨B.n0,0,none⟩),.int .i64 (x:Int)] w fun e w'=>e=.returned (.bool true)/\aa (B.blk F gt) w w'/\∃st' IA,mJ w' B F gt ct (aZ A x) st' IA:=by
 obtain ⟨S,ah,hM,hI,hL⟩:=h;have hm:=(hI.mem g x).1 hx;have e:=mZ hx;generalize (pathOf (tr g) x).1=P at *;generalize (pathOf (tr g) x).2.1=l at *;generalize (pathOf (tr g) x).2.2=r at *;have hgt:g<ah.length:=by rw [hM.jc];have:=(hM.cells.ok.nat x hm.2.1);omega
 have hgh:g<A.hs.length:=by rw [←hM.jc];exact hgt
 have hT:=hI.Ex g;have hn:=hI.nd g;have hH:dP A (tr g):=hI.heap g;have Ku:=hL g;have htp:=hI.top g hgh;have hall:∀y,y∈(tr g).nodes->bQ A (y:Int)=true:=fun y hy=>by
  have:=(hI.mem g y).1 hy;exact (ae A y).2 ⟨this.2.1,ω⟩
 rw [e] at hT hn hH Ku htp hall;cases P with
 | nil=>
  have hr:r=.nil:=Ku;subst hr;have e2:tr g=.node x l .nil:=e;refine (Oc hM hm.2.2 hm.1 hgt htp hT hn hall).mono ?_;rintro e' w' ⟨rfl,hu,st',S',q1,q2,q3,q4⟩;have hn':(x::l.nodes).Nodup:=by
   have h9:(BT.node x l .nil).nodes.Nodup:=hn;simpa [BT.nodes] using h9
  have hH':dP A (.node x l .nil):=hH;obtain ⟨t1,t2,t3⟩:=xK hH'.2.1 (List.nodup_cons.1 hn').2;have hp:(x::(fJ A (bS A (bu l))).nodes).Perm (tr g).nodes:=by
   rw [e2];simp only [BT.nodes,Υ];exact List.Perm.cons x t1
  have h2:=hI.del hx (t':=fJ A (bS A (bu l))) (iU:=ah.set g (fJ A (bS A (bu l))).root) q2 hp t3 (fun y hy=>q4 y (by rw [←e2];exact hy)) q3 (fun q _=>Dg hgt q);refine ⟨rfl,hu,st',_,S',_,q1,h2,fun q=>?_⟩
  show Lone (if q=g then _ else tr q)
  split
  ·exact t2
  ·exact hL q
 | cons f P2=>
  refine (QY hM hm.2.2 hm.1 hgt htp hT hn Ku hH hall).mono ?_;rintro e' w' ⟨rfl,hu,st',S',q1,q2,q3,q4⟩;have hpm:=vI (f::P2) x l r;obtain ⟨ZU,oh2⟩:=zH (P:=f::P2) hH;have rZ:((af (f::P2) r).nodes++(BT.node x l .nil).nodes).Nodup:=xP (hpm.nodup_iff.1 hn);have Oy:Lone (af (f::P2) r):=oL (t:=.node x l r) σ Ku;have hn':(x::l.nodes).Nodup:=by
   rw [θ] at rZ;simpa [BT.nodes] using rZ.2.1
  obtain ⟨t1,t2,t3⟩:=xK ZU.2.1 (List.nodup_cons.1 hn').2;have hXR:((af (f::P2) r).nodes++(fJ A (bS A (bu l))).nodes).Nodup:=by
   have h1:((af (f::P2) r).nodes++l.nodes).Nodup:=by
    rw [θ] at rZ ⊢;exact ⟨rZ.1,(List.nodup_cons.1 hn').2,fun a ha b hb=>rZ.2.2 a ha b (by simp [BT.nodes,hb])⟩
   exact (t1.append_left _).nodup_iff.2 h1
  have hp:(x::(cO A (af (f::P2) r) (fJ A (bS A (bu l)))).nodes).Perm (tr g).nodes:=by
   rw [e];refine ((lq A Oy t2).cons x).trans ?_;refine ((t1.append_left _).cons x).trans ?_;refine Ϝ ?_ hpm.symm;simp only [BT.nodes,Υ,List.cons_append];exact List.perm_append_comm.cons x
  have h2:=hI.del hx (t':=cO A (af (f::P2) r) (fJ A (bS A (bu l)))) (iU:=ah.set g (cO A (af (f::P2) r) (fJ A (bS A (bu l)))).root) q2 hp (oM Oy t2 oh2 t3 hXR) (fun y hy=>q4 y (by rw [←e];exact hy)) q3 (fun q _=>Dg hgt q);refine ⟨rfl,hu,st',_,S',_,q1,h2,fun q=>?_⟩
  show Lone (if q=g then _ else tr q)
  split
  ·exact mO _ Oy t2
  ·exact hL q
theorem zn (h:mJ w B F gt ct A st tr) (g:Nat) (hn:0<dI A g) :
  Calls Tryz.prog 209 #[.pointer (some ⟨B.n0,0,none⟩),.int .i64 (g:Int)] w fun e w'=>∃m:Nat,dF A g=some m/\e=.returned (.tuple #[.int .i64 (m:Int),.bool true])/\aa (B.blk F gt) w w'/\∃st' IA,mJ w' B F gt ct (aZ A m) st' IA:=by
 have k:=AV h g hn;have kd:=fun m hm=>OO h g m hm;have hroot:∀m:Nat,(tr g).root=m->m∈(tr g).nodes:=fun m hm=>by
  have hne:tr g≠.nil:=fun e=>by rw [e] at hm;have:(-1:Int)=m:=hm;omega
  have:=(bH hne).1;rw [hm] at this;simpa using this
 clear h
 go_enter Tryz.func209,Tryz.ntmps209
 go_wp2_with (first
  | ((go_at_call 213;(with_reducible refine (k).mono ?_));rintro e w1 ⟨m,hm1,hm2,rfl,rfl⟩;(have Xv:=kd m (hroot m hm2)))
  | ((go_at_call 208;(with_reducible refine (Xv).mono ?_));rintro e w2 ⟨rfl,hu2,hL2⟩)
  | fail)
 go_ret2;exact ⟨m,hm1,rfl,hu2,hL2⟩
end
theorem JQ (p c:Nat):∀W:World,W.cell? ⟨p,0,none⟩=some (.pointer (some ⟨c,0,none⟩))->(method 429 178 (.pointer (some ⟨p,0,none⟩)) "Has").run Tryz.prog W=.ok (139,.pointer (some ⟨c,0,none⟩)) W:=(by intro W h;unfold method;have hm:∃m,(Array.find? (fun x=>x.name == "Has") Tryz.t178.methods)=some m/\m.path.toList=[⟨215,0,true⟩]/\m.func=some (139,true)/\m.path.isEmpty=false:=⟨(Array.find? (fun x=>x.name == "Has") Tryz.t178.methods).get!,by kernel_rfl,by kernel_rfl,by kernel_rfl,by kernel_rfl⟩;obtain ⟨m,h1,h2,h3,h4⟩:=hm;go_simp;simp only [follow,Place.get];go_simp;(try unfold receiverAt);(try simp only [Place.get]);(try go_simp))
theorem Ey (p c:Nat):∀W:World,W.cell? ⟨p,0,none⟩=some (.pointer (some ⟨c,0,none⟩))->(method 429 178 (.pointer (some ⟨p,0,none⟩)) "Entry").run Tryz.prog W=.ok (137,.pointer (some ⟨c,0,none⟩)) W:=(by intro W h;unfold method;have hm:∃m,(Array.find? (fun x=>x.name == "Entry") Tryz.t178.methods)=some m/\m.path.toList=[⟨215,0,true⟩]/\m.func=some (137,true)/\m.path.isEmpty=false:=⟨(Array.find? (fun x=>x.name == "Entry") Tryz.t178.methods).get!,by kernel_rfl,by kernel_rfl,by kernel_rfl,by kernel_rfl⟩;obtain ⟨m,h1,h2,h3,h4⟩:=hm;go_simp;simp only [follow,Place.get];go_simp;(try unfold receiverAt);(try simp only [Place.get]);(try go_simp))
theorem Uk (p:Nat):∀W:World,(method 429 178 (.pointer (some ⟨p,0,none⟩)) "Make").run Tryz.prog W=.ok (211,.pointer (some ⟨p,0,none⟩)) W:=fun _=>by kernel_rfl
theorem OW (p:Nat):∀W:World,(method 429 178 (.pointer (some ⟨p,0,none⟩)) "Insert").run Tryz.prog W=.ok (210,.pointer (some ⟨p,0,none⟩)) W:=fun _=>by kernel_rfl
theorem Yq (p:Nat):∀W:World,(method 429 178 (.pointer (some ⟨p,0,none⟩)) "Min").run Tryz.prog W=.ok (213,.pointer (some ⟨p,0,none⟩)) W:=fun _=>by kernel_rfl
theorem JM (p:Nat):∀W:World,(method 429 178 (.pointer (some ⟨p,0,none⟩)) "Extract").run Tryz.prog W=.ok (209,.pointer (some ⟨p,0,none⟩)) W:=fun _=>by kernel_rfl
theorem E5 (p:Nat):∀W:World,(method 429 178 (.pointer (some ⟨p,0,none⟩)) "Decrease").run Tryz.prog W=.ok (207,.pointer (some ⟨p,0,none⟩)) W:=fun _=>by kernel_rfl
def PaQ (w:World) (p:Nat) (F:List Nat) (A:NS):Prop:=∃B F1 gt ct st tr,p=B.n0/\F=B.blk F1 gt/\mJ w B F1 gt ct A st tr
def yP:gD where
 ty:=178
 at_:=PaQ
 upd:=fun h hu hS=>by
  obtain ⟨B,F1,gt,ct,st,tr,rfl,rfl,hL⟩:=h;exact ⟨B,F1,gt,ct,st,tr,rfl,rfl,hL.upd hu hS⟩
 lt:=fun h=>by
  obtain ⟨B,F1,gt,ct,st,tr,rfl,rfl,S,ah,hM, -⟩:=h;exact hM.lt
 ok:=fun h=>by
  obtain ⟨B,F1,gt,ct,st,tr,rfl,rfl,S,ah,hM, -⟩:=h;exact hM.cells.ok
 make:=fun {w p F A} h=>by
  obtain ⟨B,F1,gt,ct,st,tr,rfl,rfl,hL⟩:=h;refine aS 211 (fun _ _=>by kernel_rfl) (Uk _) (fun W hW=>?_);have lM:=hL.aj hW
  by_cases hl:65536<A.hs.length
  ·have e1:cu A=0:=by unfold cu;rw [Δ hl]
   have e2:aN A=A:=by unfold aN;rw [Δ hl]
   rw [e1,e2];refine (Nj lM hl).mono ?_;rintro e w' ⟨rfl,F',⟨F2,rfl,hA⟩,hu,hf⟩;exact ⟨rfl,_,⟨B,F2,gt,ct,st,tr,rfl,rfl,hA⟩,hu,hf⟩
  ·have e1:cu A=A.hs.length:=by unfold cu;rw [Γ hl]
   rw [e1];refine (KF lM hl).mono ?_;rintro e w' ⟨rfl,F',⟨F2,gt2,ct2,rfl,hA⟩,hu,hf⟩;exact ⟨rfl,_,⟨B,F2,gt2,ct2,st,tr,rfl,rfl,hA⟩,hu,hf⟩
 insert:=fun {w p F A} g y k s hk hB h=>by
  obtain ⟨B,F1,gt,ct,st,tr,rfl,rfl,hL⟩:=h;refine aS 210 (fun _ _=>by kernel_rfl) (OW _) (fun W hW=>?_);refine (EN (hL.aj hW) g y k s hk hB).mono ?_;rintro e w' ⟨rfl,hu,st',hL2⟩;exact ⟨rfl,Goes.stay ⟨B,F1,gt,ct,_,_,rfl,rfl,hL2⟩ hu⟩
 min:=fun {w p F A} y hB h=>by
  obtain ⟨B,F1,gt,ct,st,tr,rfl,rfl,hL⟩:=h;refine aS 213 (fun _ _=>by kernel_rfl) (Yq _) (fun W hW=>?_);have lM:=hL.aj hW;have hok:A.Ok:=by obtain ⟨S,ah,hM, -⟩:=hL;exact hM.cells.ok
  by_cases hl:dI A (y:Int)=0
  ·rw [ic.2 hl];have h4:=(aO _ _).1 hB;have h5:=hok.h1;refine (Ki lM y ω hl).mono ?_;rintro e w' ⟨rfl,rfl⟩;exact ⟨rfl,Goes.stay ⟨B,F1,gt,ct,st,tr,rfl,rfl,lM⟩ (aa.refl _ _)⟩
  ·refine (AV lM y ω).mono ?_;rintro e w' ⟨m,hm, -,rfl,rfl⟩;rw [hm];exact ⟨rfl,Goes.stay ⟨B,F1,gt,ct,st,tr,rfl,rfl,lM⟩ (aa.refl _ _)⟩
 extract:=fun {w p F A} y m hm h=>by
  obtain ⟨B,F1,gt,ct,st,tr,rfl,rfl,hL⟩:=h;refine aS 209 (fun _ _=>by kernel_rfl) (JM _) (fun W hW=>?_);have hl:¬dI A (y:Int)=0:=fun e=>by rw [ic.2 e] at hm;cases hm
  refine (zn (hL.aj hW) y ω).mono ?_;rintro e w' ⟨m',hm',rfl,hu,st',IA,hL2⟩;rw [hm] at hm';cases hm';exact ⟨rfl,Goes.stay ⟨B,F1,gt,ct,_,_,rfl,rfl,hL2⟩ hu⟩
 lS:=fun {w p F A} y k s hk hB h=>by
  obtain ⟨B,F1,gt,ct,st,tr,rfl,rfl,hL⟩:=h;refine aS 207 (fun _ _=>by kernel_rfl) (E5 _) (fun W hW=>?_);have lM:=hL.aj hW;have hin:=qw hB;have hx:y∈(tr (A.c y).i.toNat).nodes:=by
   obtain ⟨S,ah,hM,hI, -⟩:=lM;have:=(ae _ _).1 hin;exact (hI.mem _ y).2 ⟨ω,this.1,ω⟩
  refine (NW lM _ y hx k s hk hB).mono ?_;rintro e w' ⟨rfl,hu,st',IA,hL2⟩;exact ⟨rfl,Goes.stay ⟨B,F1,gt,ct,_,_,rfl,rfl,hL2⟩ hu⟩
 has:=fun x h=>by
  obtain ⟨B,F1,gt,ct,st,tr,rfl,rfl,S,ah,hM, -⟩:=h;exact iA 139 (fun _ _=>by kernel_rfl) hM.h0 (JQ _ _) (fun W hW=>jm (hM.aj hW).cells x)
 entry:=fun {w p F A} x h=>by
  obtain ⟨B,F1,gt,ct,st,tr,rfl,rfl,S,ah,hM, -⟩:=h;refine iA 137 (fun _ _=>by kernel_rfl) hM.h0 (Ey _ _) (fun W hW=>?_);cases hin:bQ A x with
  | false=>simpa using lK (hM.aj hW).cells x hin
  | true=>
   obtain ⟨y,rfl⟩:=qj hin;simpa using jR (hM.aj hW).cells y hin
theorem I5 (p:Nat) (w:World):Calls Tryz.prog 95 #[.pointer (some ⟨p,0,none⟩),.int .i64 0] w fun e w'=>e=.returned (.tuple #[.iface 178 (.pointer (some ⟨p,0,none⟩)),.int .i64 0])/\w'=w:=by
 go_enter Tryz.func95,Tryz.ntmps95
 go_wp2;go_ret2;exact ⟨rfl,rfl⟩
theorem Tm (n:Nat) (hn:n<=65536):om yP 4 0 n:=by
 intro w;have kn:=fun W=>NB n W hn;have km:=I5;have hty:yP.ty=178:=rfl;have hat:∀w' B F gt,mJ w' B F gt 1 (NS.new n) 0 (fun _=>.nil)->yP.at_ w' B.n0 (B.blk F gt) (NS.new n):=fun w' B F gt h=>⟨B,F,gt,_,_,_,rfl,rfl,h⟩
 generalize yP=K at *;rw [hty]
 go_enter Tryz.func81,Tryz.ntmps81
 go_wp2_with (first
  | ((go_at_call 96;(with_reducible refine (kn _).mono ?_));rintro e w1 ⟨B,F,gt,rfl,hS,hu1,hf⟩)
  | ((go_at_call 95;(with_reducible refine (km _ _).mono ?_));rintro e w2 ⟨rfl,rfl⟩)
  | fail)
 go_ret2;exact ⟨B.n0,B.blk F gt,rfl,hat _ _ _ _ hS,aa.trans β hu1,fun x hx=>by have:=hf x hx;simp at this;omega⟩
end Go.Proofs.YtklibcncmbofpaaGreat
