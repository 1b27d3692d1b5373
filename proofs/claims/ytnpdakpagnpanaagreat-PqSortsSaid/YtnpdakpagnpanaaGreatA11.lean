/-
  Lemmas for PqSorts: PaP, Pa, Pa2, Pa3, Pa8, Pa7, Pa5, PaR, Pa6, Pa4o, Pa4a, Pa4b, Pa4c, Pa4d, Pa4, Pa9, Pa10, PaR2, Pa11, Pa12, PaQ, Pa13. Conditions: those of each lemma.
-/
import Derived.Deep.LoopGhost
import Derived.Test.YtnpdakpagnpanaaGreatA10
set_option linter.all false
set_option maxHeartbeats 8000000
set_option maxRecDepth 10000
namespace Go.Proofs.YtnpdakpagnpanaaGreat
def dQ (A:NS):BT->Prop
 | .nil=>True
 | .node x l r=>(∀y,y∈l.nodes->dO A x y)/\dQ A l/\dQ A r
theorem dQ.frame {A A':NS}:∀ {t:BT},dQ A t->(∀x,x∈t.nodes->A'.c x=A.c x)->dQ A' t
 | .nil,_,_=>trivial
 | .node x l r,h,hs=>by
  have hx:=hs x (by simp [BT.nodes]);exact ⟨λy hy=>(fT hx (hs y (by simp [BT.nodes,hy]))).2 (h.1 y hy),h.2.1.frame (λy hy=>hs y (by simp [BT.nodes,hy])),h.2.2.frame (λy hy=>hs y (by simp [BT.nodes,hy]))⟩
abbrev He:Pj:=⟨dQ,dQ.frame,λ_=>trivial⟩
def Lone:BT->Prop
 | .nil=>True
 | .node _ _ r=>r=.nil
theorem vP {A:NS}:∀ {P:List Fr} {t:BT},dQ A (ak P t)->dQ A t
 | [],_,h=>h
 | f::P,t,h=>by
  have h1:dQ A (bu f t):=vP (P:=P) h;unfold bu at h1
  split at h1
  ·exact h1.2.2
  ·exact h1.2.1
theorem SK {A:NS}:∀ {P:List Fr} {t t':BT},dQ A (ak P t)->dQ A t'->(∀y,y∈t'.nodes->y∈t.nodes)->dQ A (ak P t')
 | [],_,_,_,h,_=>h
 | f::P,t,t',h,h',hs=>by
  have h1:dQ A (bu f t):=vP (P:=P) h;refine SK (P:=P) h ?_ (λy hy=>?_)
  ·unfold bu at h1 ⊢
   split at h1
   ·rename_i e;rw [Δ e];exact ⟨h1.1,h1.2.1,h'⟩
   ·rename_i e;rw [Γ e];exact ⟨λy hy=>h1.1 y (hs y hy),h',h1.2.2⟩
  ·have hy':=(iL f t').mem_iff.1 hy;refine (iL f t).mem_iff.2 ?_;simp only [ρ,τ] at hy' ⊢;rcases hy' with h|h|h
   ·exact Α h
   ·exact Β (Α (hs y h))
   ·exact Β (Β h)
theorem vE:∀ {P:List Fr} {f:Fr} {t t':BT},t≠.nil->Lone (ak (f::P) t)->Lone (ak (f::P) t')
 | [],f,t,t',ht,h=>by
  have h1:Lone (bu f t):=h
  show Lone (bu f t')
  unfold bu at h1 ⊢
  split at h1
  ·exact absurd h1 ht
  ·rename_i e;rw [Γ e];exact h1
 | g::P,f,t,t',ht,h=>vE (P:=P) (f:=g) (t:=bu f t) (t':=bu f t') (Nl f t) h
/-! ### two trees become one -/
noncomputable def cK (A:NS) (a b:BT):BT:=
 match a,b with
 | .nil,t=>t
 | t,.nil=>t
 | .node x l _,.node y m _=>if dO A y x then .node y (.node x l m) .nil else .node x (.node y m l) .nil
theorem rD (A:NS) (t:BT):cK A .nil t=t:=by cases t<;>rfl
theorem oV (A:NS) (t:BT):cK A t .nil=t:=by cases t<;>rfl
theorem oJ (A:NS) (x y:Nat) (l r m q:BT):cK A (.node x l r) (.node y m q)=if dO A y x then .node y (.node x l m) .nil else .node x (.node y m l) .nil:=rfl
theorem jL (A:NS) {a b:BT} (ha:Lone a) (hb:Lone b):(cK A a b).nodes.Perm (a.nodes++b.nodes):=by
 cases a with
 | nil=>rw [rD];exact ό _
 | node x l r=>
  cases b with
  | nil=>rw [oV];simp [BT.nodes]
  | node y m q=>
   have e1:r=.nil:=ha;have e2:q=.nil:=hb;subst e1 e2;rw [oJ]
   split
   ·simp only [BT.nodes,Υ];exact (Ϟ (a:=y) (l₁:=x::l.nodes) (l₂:=m.nodes)).symm
   ·simp only [BT.nodes,Υ];refine List.Perm.cons x ?_;exact ((Φ (l₁:=l.nodes) (l₂:=y::m.nodes))).symm
theorem lI (A:NS) {a b:BT} (ha:Lone a) (hb:Lone b):Lone (cK A a b):=by
 cases a with
 | nil=>rw [rD];exact hb
 | node x l r=>
  cases b with
  | nil=>rw [oV];exact ha
  | node y m q=>rw [oJ];split<;>rfl
theorem YN {A:NS} {x:Nat} {l:BT} (h:dQ A (.node x l .nil)):∀y,y∈(BT.node x l .nil).nodes->y=x\/dO A x y:=λy hy=>by
 simp only [BT.nodes,Υ,ρ] at hy;rcases hy with e|e
 ·exact Α e
 ·exact Β (h.1 y e)
theorem nQ {A:NS} {a b:BT} (ha:Lone a) (hb:Lone b) (h1:dQ A a) (h2:dQ A b) (hn:(a.nodes++b.nodes).Nodup):dQ A (cK A a b):=by
 cases a with
 | nil=>rw [rD];exact h2
 | node x l r=>
  cases b with
  | nil=>rw [oV];exact h1
  | node y m q=>
   have e1:r=.nil:=ha;have e2:q=.nil:=hb;subst e1 e2;have hxy:x≠y:=λe=>by
    simp only [BT.nodes,Υ,θ] at hn;exact hn.2.2 x σ y σ e
   rw [oJ]
   split
   ·rename_i h
    refine ⟨λz hz=>?_,⟨h1.1,h1.2.1,h2.2.1⟩,trivial⟩;simp only [BT.nodes,ρ,τ] at hz;rcases hz with e|e|e
    ·rw [e];exact h
    ·exact dw h (h1.1 z e)
    ·exact h2.1 z e
   ·rename_i h
    have h':dO A x y:=(jS hxy).resolve_right h;refine ⟨λz hz=>?_,⟨h2.1,h2.2.1,h1.2.1⟩,trivial⟩;simp only [BT.nodes,ρ,τ] at hz;rcases hz with e|e|e
    ·rw [e];exact h'
    ·exact dw h' (h2.1 z e)
    ·exact h1.1 z e
def gz (S:TS) (x y:Nat):TS:=⟨λz=>if z=x then y else S.l z,λz=>if z=y then S.l x else S.r z,λz=>if z=y then x else if (z:Int)=S.l x then y else S.u z⟩
theorem EH {S:TS} {x y z:Nat} (h1:z≠x) (h2:z≠y) (h3:(z:Int)≠S.l x):S.at (gz S x y) z:=by
 unfold gz TS.at;simp [h1,h2,h3]
theorem zL {S:TS} {x y:Nat} {l m:BT} (ha:bY S (-1) x (.node x l .nil)) (hb:bY S (-1) y (.node y m .nil)) (hn:((BT.node x l .nil).nodes++(BT.node y m .nil).nodes).Nodup) :
  bY (gz S x y) (-1) x (.node x (.node y m l) .nil)/\∀z,z∉(BT.node x l .nil).nodes++(BT.node y m .nil).nodes->S.at (gz S x y) z:=by
 simp only [BT.nodes,Υ] at hn ⊢;rw [θ,Ζ,Ζ] at hn;obtain ⟨⟨n1,n2⟩,⟨n3,n4⟩,n5⟩:=hn;obtain ⟨_,a2,a3,a4⟩:=ha;obtain ⟨_,b2,b3,b4⟩:=hb;have hxy:x≠y:=λe=>n5 x σ y σ e;have hlx:S.l x=l.root:=a3.root;have hlr:∀z:Nat,(z:Int)=S.l x->z∈l.nodes:=λz hz=>by
  rw [hlx] at hz
  by_cases e:l=.nil
  ·rw [e] at hz;simp [BT.root] at hz
  ·have h1:=bL e;have:l.root.toNat=z:=ω;rw [←this];exact h1.1
 have e0:(gz S x y).l x=y:=by unfold gz;simp
 have e1:(gz S x y).r x=S.r x:=by unfold gz;simp [hxy]
 have e2:(gz S x y).u x=S.u x:=by
  have h3:(x:Int)≠S.l x:=λe=>n1 (hlr x e);unfold gz;simp [hxy,h3]
 have e3:(gz S x y).l y=S.l y:=by have hyx:¬y=x:=λe=>hxy e.symm;unfold gz;simp [hyx]
 have e4:(gz S x y).r y=S.l x:=by unfold gz;simp
 have e5:(gz S x y).u y=x:=by unfold gz;simp
 refine ⟨⟨rfl,by rw [e2];exact a2,?_,by rw [e1];exact a4⟩,λz hz=>?_⟩
 ·rw [e0];refine ⟨rfl,e5,?_,?_⟩
  ·rw [e3];refine b3.frame (λz hz=>EH (λe=>n5 x σ z (by simp [hz]) e.symm) (λe=>n3 (by rw [←e];exact hz)) (λe=>n5 z (by simp [hlr z e]) z (by simp [hz]) rfl))
  ·rw [e4];refine a3.J2 n2 (λz hz=>?_) (λhl=>?_)
   ·have z1:z≠x:=λe=>n1 (by rw [←e];exact hz);have z2:z≠y:=λe=>n5 z (by simp [hz]) y σ e;refine ⟨by unfold gz;simp [z1],by unfold gz;simp [z2],λhr=>?_⟩;have z3:(z:Int)≠S.l x:=λe=>hr (by rw [←hlx,←e];simp);unfold gz;simp [z2,z3]
   ·have h1:=bL hl;have z2:l.root.toNat≠y:=λe=>n5 _ (Λ _ h1.1) y σ e
    show (if l.root.toNat=y then (x:Int) else if ((l.root.toNat:Nat):Int)=S.l x then (y:Int) else S.u l.root.toNat)=y
    rw [Γ z2,Δ (by rw [hlx];exact h1.2.symm)]
 ·simp only [τ,ρ,not_or] at hz;exact EH hz.1.1 hz.2.1 (λe=>hz.1.2 (hlr z e))
/-! ### a tree comes off -/
def jf (S:TS) (p:Nat) (s:Bool) (x:Nat):TS:=
 ⟨λz=>if s=false/\z=p then S.r x else S.l z,λz=>if z=x then -1 else if s=true/\z=p then S.r x else S.r z,λz=>if z=x then -1 else if (z:Int)=S.r x then p else S.u z⟩
theorem EA {S:TS} {f:Fr} {P:List Fr} {x:Nat} {l r:BT} (h:bY S (-1) (ak (f::P) (.node x l r)).root (ak (f::P) (.node x l r))) (hn:(ak (f::P) (.node x l r)).nodes.Nodup) :
  bY (jf S f.1 f.2.1 x) (-1) x (.node x l .nil)/\bY (jf S f.1 f.2.1 x) (-1) (ak (f::P) r).root (ak (f::P) r)/\(∀y,y∉(ak (f::P) (.node x l r)).nodes->S.at (jf S f.1 f.2.1 x) y)/\
   S.kid f.2.1 f.1=x/\(f.2.1=true->S.l f.1≠x)/\S.u x=f.1:=by
 obtain ⟨h1,h2⟩:=(dE _ _).1 h;have V4:=(aX (f::P) (.node x l r)).nodup_iff.1 hn;have hmem:∀y,y∈(ak (f::P) (.node x l r)).nodes↔y∈(BT.node x l r).nodes\/y∈dC (f::P):=λy=>by rw [(aX (f::P) (.node x l r)).mem_iff,τ]
 rw [θ] at V4;obtain ⟨n1,n2,n3⟩:=V4;obtain ⟨_,g2,g3,g4⟩:=h1;obtain ⟨k1,k2,k3,k4⟩:=h2;simp only [BT.nodes,Ζ,τ,not_or,θ] at n1;obtain ⟨⟨m1,m2⟩,m3,m4,m5⟩:=n1;have hfx:f.1≠x:=λe=>n3 x (by simp [BT.nodes]) f.1 (by simp [dC]) e.symm;have hrx:S.r x=r.root:=g4.root;have hrr:∀z:Nat,(z:Int)=S.r x->z∈r.nodes:=λz hz=>by
  rw [hrx] at hz
  by_cases e:r=.nil
  ·rw [e] at hz;simp [BT.root] at hz
  ·have h1:=bL e;have:r.root.toNat=z:=ω;rw [←this];exact h1.1
 have hat:∀z,z≠f.1->z≠x->(z:Int)≠S.r x->S.at (jf S f.1 f.2.1 x) z:=λz z1 z2 z3=>by
  unfold jf TS.at;simp [z1,z2,z3]
 have hnot:f.2.1=true->S.l f.1≠x:=λe hl=>by
  rw [e] at k2;have h4:=k2.root;have h5:f.2.2.root=(x:Int):=by rw [←h4];simpa [TS.kid] using hl
  have h6:f.2.2≠.nil:=λe=>by rw [e] at h5;simp [BT.root] at h5
  have h7:=(bL h6).1;rw [h5,π] at h7;exact n3 x (by simp [BT.nodes]) x (by simp [dC,h7]) rfl
 have UY:∀z,z∈dC (f::P)->z≠x/\(z:Int)≠S.r x:=λz hz=>⟨λe=>n3 x (by simp [BT.nodes]) z hz e.symm,λe=>n3 z (by simp [BT.nodes,hrr z e]) z hz rfl⟩
 refine ⟨⟨rfl,by unfold jf;simp,?_,?_⟩,(dE _ _).2 ⟨?_,?_⟩,λy hy=>?_,k1,hnot,g2⟩
 ·have e:(jf S f.1 f.2.1 x).l x=S.l x:=by have hyx:¬x=f.1:=λe=>hfx e.symm;unfold jf;simp [hyx]
  rw [e];refine g3.frame (λz hz=>hat z (λe=>n3 z (by simp [BT.nodes,hz]) f.1 (by simp [dC]) e) (λe=>m1 (by rw [←e];exact hz)) (λe=>m5 z hz z (hrr z e) rfl))
 ·show (jf S f.1 f.2.1 x).r x=-1
  unfold jf;simp
 ·rw [←hrx];refine g4.J2 m4 (λz hz=>?_) (λhr=>?_)
  ·have z1:z≠f.1:=λe=>n3 z (by simp [BT.nodes,hz]) f.1 (by simp [dC]) e;have z2:z≠x:=λe=>m2 (by rw [←e];exact hz);refine ⟨by unfold jf;simp [z1],by unfold jf;simp [z1,z2],λhr=>?_⟩;have z3:(z:Int)≠S.r x:=λe=>hr (by rw [←hrx,←e];simp);unfold jf;simp [z2,z3]
  ·have h1:=bL hr;have z2:r.root.toNat≠x:=λe=>m2 (by rw [←e];exact h1.1)
   show (if r.root.toNat=x then (-1:Int) else if ((r.root.toNat:Nat):Int)=S.r x then (f.1:Int) else S.u r.root.toNat)=f.1
   rw [Γ z2,Δ (by rw [hrx];exact h1.2.symm)]
 ·have hf:=UY f.1 (by simp [dC]);refine Ph.other (S:=S) (z:=x) ⟨k1,k2,k3,k4⟩ n2 ?_ ?_ ?_ (λz z1 z2=>hat z z1 (UY z z2).1 (UY z z2).2)
  ·unfold TS.kid jf;cases f.2.1<;>simp [hfx,hrx]
  ·unfold TS.kid jf;cases f.2.1<;>simp [hfx]
  ·unfold jf;simp [hf.1,hf.2]
 ·rw [hmem,not_or] at hy;exact hat y (λe=>hy.2 (by simp [dC,e])) (λe=>hy.1 (by simp [BT.nodes,e])) (λe=>hy.1 (by simp [BT.nodes,hrr y e]))
theorem Ea (P:List Fr) (x:Nat) (l r:BT):(ak P (.node x l r)).nodes.Perm ((BT.node x l .nil).nodes++(ak P r).nodes):=by
 refine (aX P _).trans ?_;refine ϝ ?_ ((aX P r).symm.append_left _);simp [BT.nodes,ϋ]
theorem ER {A:NS} {P:List Fr} {x:Nat} {l r:BT} (h:dQ A (ak P (.node x l r))):dQ A (.node x l .nil)/\dQ A (ak P r):=by
 have h1:=vP h;exact ⟨⟨h1.1,h1.2.1,trivial⟩,SK h h1.2.2 (λy hy=>by simp [BT.nodes,hy])⟩
/-! ### what is below a thing comes off it -/
def bB:BT->List BT
 | .nil=>[]
 | .node x l r=>.node x l .nil::bB r
def fG (l:List BT):List Nat:=l.flatMap BT.nodes
theorem iD:∀ (t:BT),(fG (bB t)).Perm t.nodes
 | .nil=>ό _
 | .node x l r=>by
  unfold fG;simp only [bB,List.flatMap_cons,BT.nodes,Υ,List.cons_append];exact List.Perm.cons x ((iD r).append_left _)
theorem Ah {A:NS}:∀ {t:BT},dQ A t->∀u,u∈bB t->dQ A u/\Lone u
 | .nil,_,u,hu=>by cases hu
 | .node x l r,h,u,hu=>by
  simp only [bB,ρ] at hu;rcases hu with e|e
  ·subst e;exact ⟨⟨h.1,h.2.1,trivial⟩,rfl⟩
  ·exact Ah h.2.2 u e
def bX (l:List BT):List Int:=l.map BT.root
def fC (S:TS) (x:Nat) (ks:List Int):TS:=⟨λz=>if z=x then -1 else S.l z,λz=>if (z:Int)∈ks then -1 else S.r z,λz=>if (z:Int)∈ks then -1 else S.u z⟩
theorem Dx {t u:BT} (hu:u∈bB t):u.root.toNat∈u.nodes/\u.root=(u.root.toNat:Int)/\u.root∈bX (bB t):=by
 refine ⟨?_,?_,List.mem_map.2 ⟨u,hu,rfl⟩⟩
 all_goals
  induction t with
  | nil=>cases hu
  | node x l r _ ih=>
   simp only [bB,ρ] at hu;rcases hu with e|e
   ·subst e;simp [BT.root,BT.nodes]
   ·exact ih e
theorem Ij {t:BT} {z:Nat} (h:(z:Int)∈bX (bB t)):z∈t.nodes:=by
 obtain ⟨u,hu,e⟩:=List.mem_map.1 h;have h1:=Dx hu;refine (iD t).mem_iff.1 (List.mem_flatMap.2 ⟨u,hu,?_⟩);rw [←show u.root.toNat=z by omega];exact h1.1
theorem EI {S:TS} {x:Nat} {ks:List Int}:∀ {t:BT} {p:Int},bY S p t.root t->t.nodes.Nodup->x∉t.nodes->(∀z:Nat,z∈t.nodes->((z:Int)∈ks↔(z:Int)∈bX (bB t)))->
  ∀u,u∈bB t->bY (fC S x ks) (-1) u.root u
 | .nil,_,_,_,_,_,u,hu=>by cases hu
 | .node y l r,p,h,hn,hx,hk,u,hu=>by
  simp only [BT.nodes,ρ,τ,not_or] at hx;simp only [BT.nodes,Ζ,τ,not_or,θ] at hn;obtain ⟨⟨m1,m2⟩,m3,m4,m5⟩:=hn;obtain ⟨_,h2,h3,h4⟩:=h;have hl:∀z:Nat,z∈l.nodes->(z:Int)∉ks:=λz hz hm=>by
   have:=(hk z (by simp [BT.nodes,hz])).1 hm;simp only [bX,bB,List.map_cons,ρ,BT.root] at this;rcases this with e|e
   ·have:z=y:=ω;exact m1 (by rw [←this];exact hz)
   ·exact m5 z hz z (Ij e) rfl
  simp only [bB,ρ] at hu;rcases hu with e|e
  ·subst e;have hyk:(y:Int)∈ks:=(hk y (by simp [BT.nodes])).2 (by simp [bX,bB,BT.root]);refine ⟨rfl,by simp [fC,hyk],?_,by simp [fC,hyk,bY]⟩;have e1:(fC S x ks).l y=S.l y:=by have hyx:¬y=x:=λe=>hx.1 e.symm;simp [fC,hyx]
   rw [e1];exact h3.frame (λz hz=>⟨by simp [fC,show z≠x from λe=>hx.2.1 (by rw [←e];exact hz)],by simp [fC,hl z hz],by simp [fC,hl z hz]⟩)
  ·have e4:=h4.root;rw [e4] at h4;refine EI h4 m4 hx.2.2 (λz hz=>?_) u e;rw [hk z (by simp [BT.nodes,hz])];simp only [bX,bB,List.map_cons,ρ,BT.root];constructor
   ·rintro (e|e)
    ·have:z=y:=ω;exact absurd (by rw [←this];exact hz) m2
    ·exact e
   ·exact Β
theorem Ow {S:TS} {x z:Nat} {ks:List Int} (h1:z≠x) (h2:(z:Int)∉ks):S.at (fC S x ks) z:=by unfold fC TS.at;simp [h1,h2]
noncomputable def bP (A:NS):List BT->List BT
 | []=>[]
 | [a]=>[a]
 | a::b::l=>cK A a b::bP A l
noncomputable def fe (A:NS) (l:List BT):BT:=l.foldr (cK A) .nil
theorem bE (t:BT) (l:List BT):fG (t::l)=t.nodes++fG l:=rfl
theorem eX (l m:List BT):fG (l++m)=fG l++fG m:=by unfold fG;rw [List.flatMap_append]
theorem qB (A:NS):∀ (l:List BT),(bP A l).length=(l.length+1) / 2
 | []=>rfl
 | [_]=>by simp [bP]
 | a::b::l=>by
  show (bP A l).length+1=_
  rw [qB A l];simp;omega
theorem zG (A:NS):∀ (l:List BT),(∀t,t∈l->Lone t)->(fG (bP A l)).Perm (fG l)
 | [],_=>ό _
 | [_],_=>ό _
 | a::b::l,h=>by
  show (fG (cK A a b::bP A l)).Perm _
  rw [bE,bE,bE,←ϋ];exact (jL A (h a σ) (h b σ)).append (zG A l (λt ht=>h t (by simp [ht])))
theorem vM (A:NS):∀ (l:List BT),(∀t,t∈l->Lone t)->(fe A l).nodes.Perm (fG l)/\Lone (fe A l)
 | [],_=>⟨ό _,trivial⟩
 | a::l,h=>by
  have ih:=vM A l (λt ht=>h t (by simp [ht]));exact ⟨(jL A (h a σ) ih.2).trans (ih.1.append_left _),lI A (h a σ) ih.2⟩
theorem sJ (A:NS):∀ (k:Nat) (l:List BT),2*k<=l.length->bP A l=(bP A l).take k++bP A (l.drop (2*k))
 | 0,l,_=>σ
 | k+1,[],h=>by simp at h
 | k+1,[_],h=>by simp at h;omega
 | k+1,a::b::l,h=>by
  have h1:=sJ A k l (by simp at h;omega)
  show cK A a b::bP A l=_
  rw [show 2*(k+1)=2*k+2 by omega];simp only [bP,List.take_succ_cons,List.cons_append,List.drop_succ_cons];rw [←h1]
end Go.Proofs.YtnpdakpagnpanaaGreat
namespace Go.Proofs.YtnpdakpagnpanaaGreat
open Go Go.RowKit
structure PB where
 n0:Nat
 c:Nat
 ba:Nat
structure gu (w:World) (B:PB) (F:List Nat) (gt ct:Nat) (A:NS) (st:Nat) (S:TS) (ag:List Int):Prop where
 head:aJ w B.n0 188 3 (λj=>[Value.pointer (some ⟨B.c,0,none⟩),.slice (some ⟨B.ba,0,none⟩) A.cs.length A.cs.length,.slice (some ⟨gt,0,none⟩) ag.length ct].getD j undef)
 cells:aB w B.c F A st
 ties:aJ w B.ba 190 (A.cs.length*3) (dm S)
 il:IZ w gt ct ag
 iB:ag.length=A.hs.length
 bI:B.n0∉F/\B.ba∉F/\gt∉F
 sep:B.n0≠B.ba/\B.n0≠gt/\B.ba≠gt
section
variable {w:World} {B:PB} {F:List Nat} {gt ct:Nat} {A:NS} {st:Nat} {S:TS} {ag:List Int}
def PB.blk (B:PB) (F:List Nat) (gt:Nat):List Nat:=B.n0::B.ba::gt::F
theorem gu.upd {w':World} {G:List Nat} (h:gu w B F gt ct A st S ag) (hu:aa G w w') (hG:∀x,x∈G->x∉B.blk F gt):gu w' B F gt ct A st S ag:=by
 have h1:∀x,x∈B.blk F gt->x∉G:=λx hx hg=>hG x hg hx;exact ⟨h.head.upd hu (h1 _ (by simp [PB.blk])),h.cells.upd hu (λx hx=>λhm=>hG x hx (by simp [PB.blk,hm])),h.ties.upd hu (h1 _ (by simp [PB.blk])),h.il.upd hu (h1 _ (by simp [PB.blk])),h.iB,h.bI,h.sep⟩
theorem gu.ai {w':World} (h:gu w B F gt ct A st S ag) (hu:aa [] w w'):gu w' B F gt ct A st S ag:=h.upd hu σ
theorem gu.lt (h:gu w B F gt ct A st S ag):∀x,x∈B.blk F gt->x<w.heap.size:=by
 intro x hx;have:=h.head.lt;have:=h.ties.lt;have:=h.il.lt;simp only [PB.blk,ρ] at hx;rcases hx with rfl|rfl|rfl|hx
 ·assumption
 ·assumption
 ·assumption
 ·exact h.cells.lt x hx
theorem gu.cF (h:gu w B F gt ct A st S ag):B.c∈F:=h.cells.mem
theorem gu.h0 (h:gu w B F gt ct A st S ag):w.cell? ⟨B.n0,0,none⟩=some (.pointer (some ⟨B.c,0,none⟩)):=h.head.cellAt 0 ω rfl
theorem gu.h1 (h:gu w B F gt ct A st S ag):w.cell? ⟨B.n0,1,none⟩=some (.slice (some ⟨B.ba,0,none⟩) A.cs.length A.cs.length):=h.head.cellAt 1 ω rfl
theorem gu.h2 (h:gu w B F gt ct A st S ag):w.cell? ⟨B.n0,2,none⟩=some (.slice (some ⟨gt,0,none⟩) ag.length ct):=h.head.cellAt 2 ω rfl
theorem gu.l (h:gu w B F gt ct A st S ag) (x:Nat) (hx:x<A.cs.length):w.cell? ⟨B.ba,x*3,none⟩=some (.int .i64 (S.l x)):=h.ties.cellAt _ ω (nI S x)
theorem gu.r (h:gu w B F gt ct A st S ag) (x:Nat) (hx:x<A.cs.length):w.cell? ⟨B.ba,x*3+1,none⟩=some (.int .i64 (S.r x)):=h.ties.cellAt _ ω (nY S x)
theorem gu.u (h:gu w B F gt ct A st S ag) (x:Nat) (hx:x<A.cs.length):w.cell? ⟨B.ba,x*3+2,none⟩=some (.int .i64 (S.u x)):=h.ties.cellAt _ ω (rE S x)
theorem gu.f (h:gu w B F gt ct A st S ag) (j:Nat):w.frozen? ⟨B.ba,j,none⟩=false:=h.ties.free j
theorem gu.gY {w':World} {S':TS} (h:gu w B F gt ct A st S ag) (hu:aa [B.ba] w w') (hT:aJ w' B.ba 190 (A.cs.length*3) (dm S')):gu w' B F gt ct A st S' ag:=by
 have s:=h.sep;have f:=h.bI;exact ⟨h.head.upd hu ζ,h.cells.upd hu (λx hx=>by simp at hx;rw [hx];exact f.2.1),hT,h.il.upd hu ζ,h.iB,f,s⟩
theorem gu.ext {S':TS} (h:gu w B F gt ct A st S ag) (hS:∀x,S'.l x=S.l x/\S'.r x=S.r x/\S'.u x=S.u x):gu w B F gt ct A st S' ag:=by
 have e:S'=S:=by
  cases S;cases S';simp only [TS.mk.injEq];exact ⟨funext λx=>(hS x).1,funext λx=>(hS x).2.1,funext λx=>(hS x).2.2⟩
 rw [e];exact h
theorem Qp (S:TS) (p:Nat) (v:Int) (j:Nat):(if j=p*3 then Value.int .i64 v else dm S j)=dm (S.aD p false v) j:=by
 unfold dm TS.aD
 by_cases hj2:j=p*3
 ·subst hj2;simp
 ·by_cases h0:j % 3=0
  ·simp [hj2,h0];intro hh;exfalso;omega
  ·simp [hj2,h0]
theorem QQ (S:TS) (p:Nat) (v:Int) (j:Nat):(if j=p*3+1 then Value.int .i64 v else dm S j)=dm (S.aD p true v) j:=by
 unfold dm TS.aD
 by_cases hj2:j=p*3+1
 ·subst hj2;simp;intro hh;exfalso;omega
 ·by_cases h0:j % 3=1
  ·simp [hj2,h0];intro hh;exfalso;omega
  ·simp [hj2,h0]
theorem R8 (S:TS) (p:Nat) (v:Int) (j:Nat):(if j=p*3+2 then Value.int .i64 v else dm S j)=dm (S.bN p v) j:=by
 unfold dm TS.bN
 by_cases hj2:j=p*3+2
 ·subst hj2;simp;intro hh;exfalso;omega
 ·by_cases h0:j % 3=0
  ·simp [hj2,h0]
  ·by_cases h1:j % 3=1
   ·simp [hj2,h1]
   ·simp [hj2,h0,h1];intro hh;exfalso;omega
theorem gu.Ga (h:gu w B F gt ct A st S ag) (p:Nat) (v:Int):gu (w.setCell ⟨B.ba,p*3,none⟩ (.int .i64 v)) B F gt ct A st (S.aD p false v) ag:=
 h.gY β ((h.ties.set _ _).ext (λj _=>Qp S p v j))
theorem gu.bH (h:gu w B F gt ct A st S ag) (p:Nat) (v:Int):gu (w.setCell ⟨B.ba,p*3+1,none⟩ (.int .i64 v)) B F gt ct A st (S.aD p true v) ag:=
 h.gY β ((h.ties.set _ _).ext (λj _=>QQ S p v j))
theorem gu.qc (h:gu w B F gt ct A st S ag) (p:Nat) (v:Int):gu (w.setCell ⟨B.ba,p*3+2,none⟩ (.int .i64 v)) B F gt ct A st (S.bN p v) ag:=
 h.gY β ((h.ties.set _ _).ext (λj _=>R8 S p v j))
theorem gu.mD (h:gu w B F gt ct A st S ag) (x:Nat) (k:Int):gu (w.setCell ⟨gt,x,none⟩ (.int .i64 k)) B F gt ct A st S (ag.set x k):=by
 have s:=h.sep;have f:=h.bI;have hu:aa [gt] w (w.setCell ⟨gt,x,none⟩ (.int .i64 k)):=β;exact ⟨by rw [Ι];exact h.head.upd hu ζ,h.cells.upd hu (λx hx=>by simp at hx;rw [hx];exact f.2.2),h.ties.upd hu ζ,h.il.set x k,by rw [Ι];exact h.iB,f,s⟩
theorem gu.dV {w':World} {F':List Nat} {A':NS} {st':Nat} (h:gu w B F gt ct A st S ag) (hu:aa F w w') (hC:aB w' B.c F' A' st') (hF:∀x,x∈F'->x∈F\/w.heap.size<=x) (h1:A'.cs.length=A.cs.length) (h2:A'.hs.length=A.hs.length):gu w' B F' gt ct A' st' S ag:=by
 have f:=h.bI;have g:=h.lt;have hf:∀x,x<w.heap.size->x∉F->x∉F':=λx hx hn hm=>by rcases hF x hm with h'|h';exact hn h';omega
 have l0:=g B.n0 (by simp [PB.blk]);have l1:=g B.ba (by simp [PB.blk]);have l4:=g gt (by simp [PB.blk]);exact ⟨by rw [h1];exact h.head.upd hu f.1,hC,by rw [h1];exact h.ties.upd hu f.2.1,h.il.upd hu f.2.2,by rw [h2];exact h.iB,⟨hf _ l0 f.1,hf _ l1 f.2.1,hf _ l4 f.2.2⟩,h.sep⟩
end
def kV (w:World) (B:PB) (F:List Nat) (gt ct:Nat) (A:NS) (st:Nat) (tr:Nat->BT):Prop:=∃S ag,gu w B F gt ct A st S ag/\vg He A S ag tr/\∀h,Lone (tr h)
theorem kV.upd {w w':World} {B:PB} {F G:List Nat} {gt ct st:Nat} {A:NS} {tr:Nat->BT} (h:kV w B F gt ct A st tr) (hu:aa G w w') (hG:∀x,x∈G->x∉B.blk F gt):kV w' B F gt ct A st tr:=by
 obtain ⟨S,ag,hM,hI⟩:=h;exact ⟨S,ag,hM.upd hu hG,hI⟩
theorem kV.ai {w w':World} {B:PB} {F:List Nat} {gt ct st:Nat} {A:NS} {tr:Nat->BT} (h:kV w B F gt ct A st tr) (hu:aa [] w w'):kV w' B F gt ct A st tr:=h.upd hu σ
section
variable {w:World} {B:PB} {F:List Nat} {gt ct:Nat} {A:NS} {st:Nat} {S:TS} {ag:List Int}
theorem AZ (S:TS) (x y:Nat) (h:S.l x=-1):∀z,(gz S x y).l z=((((S.aD y true (S.l x)).bN y x).aD x false y)).l z/\(gz S x y).r z=((((S.aD y true (S.l x)).bN y x).aD x false y)).r z/\(gz S x y).u z=((((S.aD y true (S.l x)).bN y x).aD x false y)).u z:=λz=>by
 unfold gz TS.aD TS.bN;rw [h];refine ⟨σ,σ,?_⟩;have:¬ (z:Int)=-1:=ω;simp [this]
theorem zF (S:TS) (x y o:Nat) (h:S.l x=o) (hoy:o≠y):∀z,(gz S x y).l z=(((((S.aD y true (S.l x)).bN y x).bN o y).aD x false y)).l z/\(gz S x y).r z=(((((S.aD y true (S.l x)).bN y x).bN o y).aD x false y)).r z/\(gz S x y).u z=(((((S.aD y true (S.l x)).bN y x).bN o y).aD x false y)).u z:=λz=>by
 unfold gz TS.aD TS.bN;rw [h];refine ⟨σ,σ,?_⟩;simp only [ϟ,if_false,if_true]
 by_cases h1:z=y
 ·subst h1;rw [Δ rfl,Γ (λe=>hoy e.symm),Δ rfl]
 ·rw [Γ h1]
  by_cases h2:z=o
  ·subst h2;simp
  ·rw [Γ (show ¬ (z:Int)=(o:Int) by omega),Γ h2,Γ h1]
theorem tZ (b:Int) (w:World) (n0:Nat):Calls Tryz.prog 205 #[.pointer (some ⟨n0,0,none⟩),.int .i64 (-1),.int .i64 b] w λe w'=>e=.returned (.int .i64 b)/\w'=w:=by
 go_enter Tryz.func205,Tryz.ntmps205
 go_wp2;go_ret;exact ⟨rfl,rfl⟩
theorem Cb (a:Int) (w:World) (n0:Nat):Calls Tryz.prog 205 #[.pointer (some ⟨n0,0,none⟩),.int .i64 a,.int .i64 (-1)] w λe w'=>e=.returned (.int .i64 a)/\w'=w:=by
 by_cases h:a=-1
 ·subst h;exact tZ (-1) w n0
 ·have hb:(a == -1)=false:=by simpa using h
  go_enter Tryz.func205,Tryz.ntmps205
  go_wp2;go_ret;exact ⟨rfl,rfl⟩
theorem Ei (h:gu w B F gt ct A st S ag) (x y:Nat) (hx:bR A (x:Int)=true) (hy:bR A (y:Int)=true) (hxy:x≠y) (hkx:S.l x=-1\/(0<=S.l x/\S.l x<A.cs.length)) (hky:S.l y=-1\/(0<=S.l y/\S.l y<A.cs.length)) (hnx:S.l x≠y) (hny:S.l y≠x) :
  Calls Tryz.prog 205 #[.pointer (some ⟨B.n0,0,none⟩),.int .i64 (x:Int),.int .i64 (y:Int)] w λe w'=>e=.returned (.int .i64 ((if dO A y x then y else x:Nat):Int))/\(∃st',gu w' B F gt ct A st' (if dO A y x then gz S y x else gz S x y) ag)/\aa [B.ba,B.c] w w':=by
 have ka:=gW h.cells y x hy hx;have hx2:=(ay _ _).1 hx;have hy2:=(ay _ _).1 hy;have hA:=h.cells.ok.c1;have c0:=h.h0;have hM1:∀w1,aB w1 B.c F A (bS st 1)->aa [B.c] w w1->gu w1 B F gt ct A (bS st 1) S ag:=λw1 hC hu=>h.dV (hu.mono (λz hz=>by simp at hz;rw [hz];exact h.cF)) hC (λz hz=>Α hz) rfl rfl;have hb1:((x:Int) == -1)=false:=σ;have hb2:((y:Int) == -1)=false:=σ;have HX:=χ (ψ hM1 h.sep);have zS:(x:Int)<(A.cs.length:Int):=ω;have U4:(y:Int)<(A.cs.length:Int):=ω;clear h hx hy hM1
 by_cases hlt:dO A y x
 ·rw [Ν hlt] at ka;rw [Δ hlt,Δ hlt];clear hlt hkx
  go_enter Tryz.func205,Tryz.ntmps205
  go_upto_region 7 with (first
   | ((go_at_call 164;(with_reducible refine (ka).mono ?_));rintro e w1 ⟨rfl,hC,hu1⟩)
   | fail)
  obtain ⟨hM1,hsep⟩:=HX.out;have hM:=hM1 w1 hC hu1;have c1:=hM.h1;have dl:=hM.l y hy2.1;have dr:=hM.r x hx2.1;have du:=hM.u x hx2.1;have ff:=hM.f;have PW:=ff (x*3+1);have PX:=ff (x*3+2);have Qs:=ff (y*3);have hn1:¬B.n0=B.ba:=hsep.1;have hn2:¬B.ba=B.n0:=λe=>hsep.1 e.symm;have HM:=χ (ψ hM hu1);have nb1:¬y*3=x*3+1:=ω;have nb2:¬y*3=x*3+2:=ω;have nbl:y*3<A.cs.length*3:=ω;clear hM hu1 hC hM1 hsep ka
  by_cases ho:S.l y=-1
  ·have HO:=χ ho;have he:=AZ S y x ho;rw [ho] at dl he;have HE:=χ he;have hlr:((-1:Int) != -1)=false:=σ;clear ho he hky hny
   go_upto_region 8 with (fail)
   go_region_law (fail)
   all_goals
    go_wp2;go_ret;refine ⟨rfl,⟨_,gu.ext ((((HM.out.1.bH x (-1)).qc x y).Ga y x).ai ?_) HE.out⟩,(HM.out.2.mono σ).trans ?_⟩
    ·exact ν
    ·exact β
  ·obtain ⟨o,uj⟩:∃o:Nat,S.l y=o:=⟨(S.l y).toNat,ω⟩;have hol:o<A.cs.length:=ω;have hoy:o≠x:=λe=>hny (by rw [uj,e]);have he:=zF S y x o uj hoy;rw [uj] at dl he;have HE:=χ he;have CO:((o:Int) != -1)=true:=σ;have hoI:(o:Int)<(A.cs.length:Int):=ω;have YE:=HM.out.1.u o hol;have Q7:=ff (o*3+2);have no1:¬o*3+2=x*3+1:=ω;have no2:¬o*3+2=x*3+2:=ω;have no3:¬y*3=o*3+2:=ω;clear ho he uj hky hny
   go_upto_region 8 with (fail)
   go_region_law (fail)
   all_goals
    go_wp2;go_ret;refine ⟨rfl,⟨_,gu.ext (((((HM.out.1.bH x (o:Int)).qc x y).qc o x).Ga y x).ai ?_) HE.out⟩,(HM.out.2.mono σ).trans ?_⟩
    ·exact ν
    ·exact β
 ·rw [Ξ hlt] at ka;rw [Γ hlt,Γ hlt];clear hlt hky
  go_enter Tryz.func205,Tryz.ntmps205
  go_upto_region 7 with (first
   | ((go_at_call 164;(with_reducible refine (ka).mono ?_));rintro e w1 ⟨rfl,hC,hu1⟩)
   | fail)
  obtain ⟨hM1,hsep⟩:=HX.out;have hM:=hM1 w1 hC hu1;have c1:=hM.h1;have dl:=hM.l x hx2.1;have dr:=hM.r y hy2.1;have du:=hM.u y hy2.1;have ff:=hM.f;have PW:=ff (y*3+1);have PX:=ff (y*3+2);have Qs:=ff (x*3);have hn1:¬B.n0=B.ba:=hsep.1;have hn2:¬B.ba=B.n0:=λe=>hsep.1 e.symm;have HM:=χ (ψ hM hu1);have nb1:¬x*3=y*3+1:=ω;have nb2:¬x*3=y*3+2:=ω;have nbl:x*3<A.cs.length*3:=ω;clear hM hu1 hC hM1 hsep ka
  by_cases ho:S.l x=-1
  ·have HO:=χ ho;have he:=AZ S x y ho;rw [ho] at dl he;have HE:=χ he;have hlr:((-1:Int) != -1)=false:=σ;clear ho he hkx hnx
   go_upto_region 8 with (fail)
   go_region_law (fail)
   all_goals
    go_wp2;go_ret;refine ⟨rfl,⟨_,gu.ext ((((HM.out.1.bH y (-1)).qc y x).Ga x y).ai ?_) HE.out⟩,(HM.out.2.mono σ).trans ?_⟩
    ·exact ν
    ·exact β
  ·obtain ⟨o,uj⟩:∃o:Nat,S.l x=o:=⟨(S.l x).toNat,ω⟩;have hol:o<A.cs.length:=ω;have hoy:o≠y:=λe=>hnx (by rw [uj,e]);have he:=zF S x y o uj hoy;rw [uj] at dl he;have HE:=χ he;have CO:((o:Int) != -1)=true:=σ;have hoI:(o:Int)<(A.cs.length:Int):=ω;have YE:=HM.out.1.u o hol;have Q7:=ff (o*3+2);have no1:¬o*3+2=y*3+1:=ω;have no2:¬o*3+2=y*3+2:=ω;have no3:¬x*3=o*3+2:=ω;clear ho he uj hkx hnx
   go_upto_region 8 with (fail)
   go_region_law (fail)
   all_goals
    go_wp2;go_ret;refine ⟨rfl,⟨_,gu.ext (((((HM.out.1.bH y (o:Int)).qc y x).qc o y).Ga x y).ai ?_) HE.out⟩,(HM.out.2.mono σ).trans ?_⟩
    ·exact ν
    ·exact β
end
theorem yE {a b:List Nat} (h:(a++b).Nodup):(b++a).Nodup:=(Φ (l₁:=a) (l₂:=b)).nodup_iff.1 h
theorem oK {S:TS} {p z:Int} {t:BT} {n:Nat} (h:bY S p z t) (hl:∀y,y∈t.nodes->y<n):z=-1\/(0<=z/\z<n):=by
 rw [h.root]
 by_cases e:t=.nil
 ·left;rw [e];rfl
 ·right;have h1:=bL e;have:=hl _ h1.1;omega
section
variable {w:World} {B:PB} {F:List Nat} {gt ct:Nat} {A:NS} {st:Nat} {S:TS} {ag:List Int}
theorem uh (h:gu w B F gt ct A st S ag) (a b:BT) (ha:bY S (-1) a.root a) (hb:bY S (-1) b.root b) (la:Lone a) (lb:Lone b) (hn:(a.nodes++b.nodes).Nodup) (hin:∀z,z∈a.nodes++b.nodes->bR A (z:Int)=true) :
  Calls Tryz.prog 205 #[.pointer (some ⟨B.n0,0,none⟩),.int .i64 a.root,.int .i64 b.root] w λe w'=>e=.returned (.int .i64 (cK A a b).root)/\aa [B.ba,B.c] w w'/\∃st' S',gu w' B F gt ct A st' S' ag/\bY S' (-1) (cK A a b).root (cK A a b)/\∀z,z∉a.nodes++b.nodes->S.at S' z:=by
 cases a with
 | nil=>
  rw [rD];refine (tZ b.root w B.n0).mono ?_;rintro e w' ⟨rfl,rfl⟩;exact ⟨rfl,aa.refl _ _,st,S,h,hb,λz _=>⟨rfl,rfl,rfl⟩⟩
 | node x l r=>
  cases b with
  | nil=>
   rw [oV];refine (Cb (BT.node x l r).root w B.n0).mono ?_;rintro e w' ⟨rfl,rfl⟩;exact ⟨rfl,aa.refl _ _,st,S,h,ha,λz _=>⟨rfl,rfl,rfl⟩⟩
  | node y m q=>
   have e1:r=.nil:=la;have e2:q=.nil:=lb;subst e1 e2;have hlt:∀z,z∈(BT.node x l .nil).nodes++(BT.node y m .nil).nodes->z<A.cs.length:=λz hz=>((ay _ _).1 (hin z hz)).1;have hxy:x≠y:=λe=>by
    rw [θ] at hn;exact hn.2.2 x (by simp [BT.nodes]) y (by simp [BT.nodes]) e
   have hrx:=oK (n:=A.cs.length) ha.2.2.1 (λz hz=>hlt z (by simp [BT.nodes,hz]));have Xa:=oK (n:=A.cs.length) hb.2.2.1 (λz hz=>hlt z (by simp [BT.nodes,hz]));have hne:∀ {u:Nat} {t t':BT},S.l u=t.root->(∀z,z∈t.nodes->z∉t'.nodes)->∀v,v∈t'.nodes->S.l u≠(v:Int):=λ{u t t'} h1 h2 v hv e=>by
    rw [h1] at e;have h6:t≠.nil:=λe'=>by rw [e'] at e;simp [BT.root] at e
    have h7:=(bL h6).1;rw [e,π] at h7;exact h2 v h7 hv
   have hnn:=hn;rw [θ] at hnn;have hnx:S.l x≠(y:Int):=hne (t':=.node y m .nil) ha.2.2.1.root (λz hz hm=>hnn.2.2 z (by simp [BT.nodes,hz]) z hm rfl) y (by simp [BT.nodes]);have hny:S.l y≠(x:Int):=hne (t':=.node x l .nil) hb.2.2.1.root (λz hz hm=>hnn.2.2 z hm z (by simp [BT.nodes,hz]) rfl) x (by simp [BT.nodes]);refine (Ei h x y (hin x (by simp [BT.nodes])) (hin y (by simp [BT.nodes])) hxy hrx Xa hnx hny).mono ?_;rintro e w' ⟨rfl,⟨st',hM⟩,hu⟩;rw [oJ]
   by_cases hc:dO A y x
   ·simp only [Δ hc] at hM ⊢;obtain ⟨h1,h2⟩:=zL hb ha (yE hn);exact ⟨rfl,hu,st',_,hM,h1,λz hz=>h2 z (λhm=>hz (by rw [τ] at hm ⊢;exact hm.symm))⟩
   ·simp only [Γ hc] at hM ⊢;obtain ⟨h1,h2⟩:=zL ha hb hn;exact ⟨rfl,hu,st',_,hM,h1,h2⟩
end
theorem Qe:(Tryz.prog.info? 190).map (λi=>(i.zero,i.size,i.bytes))=some (some (.agg #[.int .i64 0,.int .i64 0,.int .i64 0]),3,24):=by kernel_rfl
theorem Lr (n:Nat):vg He (NS.new n) TS.none [-1] (λ_=>.nil):=BS n
theorem JZ (n:Nat) (w:World) (h:n<=65536) :
  Calls Tryz.prog 62 #[.int .i64 (n:Int)] w λe w'=>∃B F gt,e=.returned (.tuple #[.pointer (some ⟨B.n0,0,none⟩),.int .i64 0])/\kV w' B F gt 1 (NS.new n) 0 (λ_=>.nil)/\aa [] w w'/\∀x,x∈B.blk F gt->w.heap.size<=x:=by
 have hcs:(NS.new n).cs.length=n:=by simp [NS.new]
 have HCS:=χ hcs;clear hcs
 go_enter Tryz.func62,Tryz.ntmps62
 go_wp2_with (first
  | ((go_at_call 84;(with_reducible refine (lX n _ h).mono ?_));rintro e w1 ⟨c,F,rfl,hC,hu1,hF⟩)
  | (at_make;refine wpList_make_row rfl _ 186 rfl 190 (.agg #[.int .i64 0,.int .i64 0,.int .i64 0]) 3 24 Tryz.underlying186 Qe n rfl ω μ ?_;intro w3 hr3 hu3))
 have l1:=hu1.size;have l3:=hu3.size;have l4:=hr3.lt;have l7:=hC.lt;have lc:=l7 c hC.mem;have e3:((w3.alloc (.cells #[.int .i64 (-1)] 3)).heap.size)=w3.heap.size+1:=by rw [Κ]
 have hv:aa [] w3 (w3.alloc (.cells #[.int .i64 (-1)] 3)):=(aa.refl _ _).alloc _;obtain ⟨W4,NF⟩:∃W4,W4=(w3.alloc (.cells #[.int .i64 (-1)] 3)).alloc (.cells #[.pointer (some ⟨c,0,none⟩),.slice (some ⟨w1.heap.size,0,none⟩) n n,.slice (some ⟨w3.heap.size,0,none⟩) 1 1] 188):=⟨_,rfl⟩;have hw:aa [] w3 W4:=by rw [NF];exact hv.alloc _
 have hh:=dL (w3.alloc (.cells #[.int .i64 (-1)] 3)) [.pointer (some ⟨c,0,none⟩),.slice (some ⟨w1.heap.size,0,none⟩) n n,.slice (some ⟨w3.heap.size,0,none⟩) 1 1] 188;rw [e3] at hh;rw [←NF] at hh;have hi:IZ W4 w3.heap.size 1 [-1]:=by rw [NF];exact (IZ.lit w3 [-1] σ).upd ((aa.refl [] _).alloc _) σ
 have Sm:aB W4 c F (NS.new n) 0:=(hC.ai hu3).ai hw;have hr4:=hr3.upd hw σ;have u4:aa [] w W4:=(hu1.trans hu3).trans hw;have hF':∀x,x∈F->x<w1.heap.size:=l7;have hnF:∀x,w1.heap.size<=x->x∉F:=λx hx hm=>by have:=hF' x hm;omega
 have l5:=hw.size;rw [←NF];clear NF e3 hv hu3 hr3 hw hC;have H4:=χ (ψ Sm (ψ hi (ψ u4 (ψ hF (ψ hF' hnF)))));clear Sm hi u4 hF hF' hnF hu1 l7;go_wp2
 go_loopw [7,27] (λv7 i wr=>∃ (k:Nat) (f:Nat->Value),k<=n/\i=.int .i64 k/\aJ wr (w3.heap.size+1) 188 3 (λj=>[Value.pointer (some ⟨c,0,none⟩),.slice (some ⟨w1.heap.size,0,none⟩) n n,.slice (some ⟨w3.heap.size,0,none⟩) 1 1].getD j undef)/\aJ wr w1.heap.size 190 (n*3) f/\(∀j,j<k*3->f j=.int .i64 (-1))/\aa [w1.heap.size] W4 wr) (λ_ i _=>n-(intOf i).toNat)
 case atStart=>exact ⟨0,_,ω,rfl,hh.ext (λj hj=>by (have h3:j<3:=by simpa using hj);rcases (ω:j=0\/j=1\/j=2) with rfl|rfl|rfl<;>rfl),hr4,ω,aa.refl _ _⟩
 case round=>
  obtain ⟨k,f,hk,rfl,hH,hR,hf,hu⟩:=hrel;rename World=>wr
  by_cases hkn:k<n
  ·have c0:=hH.cellAt 1 ω rfl;have d0:=hR.cell (k*3) ω;have d1:=hR.cell (k*3+1) ω;have d2:=hR.cell (k*3+2) ω;have e0:=hR.free (k*3);have e1:=hR.free (k*3+1);have e2:=hR.free (k*3+2);have HF:=χ (ψ hf (ψ hH (ψ hR hu)));have XN:decide ((k:Int)<(n:Int))=true:=ζ;clear hf hH hR hu hh hr4;go_wp2
   go_roundw
   case rel=>
    obtain ⟨hf,hH,hR,hu⟩:=HF.out;refine ⟨k+1,_,ω,by go_num,((hH.far _ _ ζ).far _ _ ζ).far _ _ ζ,((hR.set _ _).set _ _).set _ _,λj hj=>?_,((hu.setCell (Α σ) _).setCell (Α σ) _).setCell (Α σ) _⟩
    show (if j=k*3+2 then _ else if j=k*3+1 then _ else if j=k*3 then _ else f j)=_
    split
    ·rfl
    ·split
     ·rfl
     ·split
      ·rfl
      ·exact hf j ω
   case measure=>simp [intOf];omega
  ·obtain rfl:k=n:=ω;have XN:decide ((k:Int)<(k:Int))=false:=σ;have HF:=χ (ψ hf (ψ hH (ψ hR hu)));clear hf hH hR hu hh hr4;go_wp2;go_ret2;obtain ⟨hf,hH,hR,hu⟩:=HF.out;obtain ⟨Sm,hi,u4,hF,hF',hnF⟩:=H4.out;have hcs:=HCS.out
   refine ⟨⟨w3.heap.size+1,c,w1.heap.size⟩,F,w3.heap.size,rfl,⟨TS.none,[-1],⟨by rw [hcs];exact hH,Sm.upd hu (λx hx=>by simp at hx;rw [hx];exact hnF _ (Θ _)),?_,hi.upd hu ζ,rfl,⟨hnF _ (by simp only;omega),hnF _ (by simp only;omega),hnF _ ω⟩,⟨by simp only;omega,by simp only;omega,by simp only;omega⟩⟩,Lr _,λ_=>trivial⟩,u4.joined hu (λx hx=>Β (by simp at hx;omega)),λx hx=>?_⟩
   ·rw [hcs];exact hR.ext (λj hj=>by rw [hf j hj];unfold dm TS.none;simp)
   ·simp only [PB.blk,ρ] at hx;rcases hx with rfl|rfl|rfl|hx
    ·omega
    ·omega
    ·omega
    ·exact hF x hx
theorem vg.VE {A:NS} {S:TS} {ag:List Int} {tr:Nat->BT} (h:vg He A S ag tr) (hL:∀h,Lone (tr h)) {g:Nat} (hg:0<bU A g):∃m:Nat,(tr g).root=m/\dM A g=some m:=by
 obtain ⟨x,hx,hi,h0⟩:=fw.1 hg;have hxm:x∈(tr g).nodes:=(h.mem g x).2 ⟨ω,hx,hi⟩;cases ht:tr g with
 | nil=>rw [ht] at hxm;cases hxm
 | node m l r=>
  have hm:=(h.mem g m).1 (by rw [ht];simp [BT.nodes]);have hH:dQ A (tr g):=h.heap g;have hl:=hL g;rw [ht] at hH hl;have hr:r=.nil:=hl;subst hr;refine ⟨m,rfl,(gP h0).2 ⟨hm.2.1,hm.2.2,λy hy hyi=>?_⟩⟩;have hym:=(h.mem g y).2 ⟨ω,hy,hyi⟩;rw [ht] at hym;exact YN hH y hym
section
variable {w:World} {B:PB} {F:List Nat} {gt ct:Nat} {A:NS} {st:Nat} {tr:Nat->BT}
theorem yA (h:kV w B F gt ct A st tr) (g:Nat) (hn:0<bU A g) :
  Calls Tryz.prog 203 #[.pointer (some ⟨B.n0,0,none⟩),.int .i64 (g:Int)] w λe w'=>∃m:Nat,dM A g=some m/\(tr g).root=m/\e=.returned (.tuple #[.int .i64 (m:Int),.bool true])/\w'=w:=by
 obtain ⟨S,ag,hM,hI,hL⟩:=h;obtain ⟨m,hm,hf⟩:=hI.VE hL hn;obtain ⟨x,hx,hi,h0⟩:=fw.1 hn;have ok:=hM.cells.ok;have hgl:g<A.hs.length:=by have:=(ok.nat x hx).2;omega
 have UX:=ok.h1;have k:=nJ hM.cells (g:Int) ω;have hh0:=hM.h0;have h3:=hM.h2;have d:=hM.il.cell g (by rw [hM.iB];exact hgl);rw [hI.top g hgl,hm] at d;have htl:g<ag.length:=by rw [hM.iB];exact hgl
 generalize hl:bU A (g:Int)=n at *;have hb:((n:Int) == 0)=false:=ζ;have HF:=χ (ψ hf hm);clear hM hI hm hf hx hi h0 ok hl
 go_enter Tryz.func203,Tryz.ntmps203
 go_wp2_with (first|(go_at_call 126;(with_reducible refine (k).mono ?_);rintro e w9 ⟨rfl,aH⟩;rw [aH];clear aH w9))
 go_ret2;exact ⟨m,HF.out.1,HF.out.2,rfl,rfl⟩
theorem Fz (h:kV w B F gt ct A st tr) (x:Int) (hx:-9223372036854775808<=x/\x<=9223372036854775807) (hn:bU A x=0) :
  Calls Tryz.prog 203 #[.pointer (some ⟨B.n0,0,none⟩),.int .i64 x] w λe w'=>e=.returned (.tuple #[.int .i64 0,.bool false])/\w'=w:=by
 obtain ⟨S,ag,hM, -⟩:=h;have k:=nJ hM.cells x hx;rw [hn] at k;have h0:=hM.h0;clear hM hn
 go_enter Tryz.func203,Tryz.ntmps203
 go_wp2_with (first|(go_at_call 126;(with_reducible refine (k).mono ?_);rintro e w9 ⟨rfl,aH⟩;rw [aH];clear aH w9))
 go_ret2;exact ⟨rfl,rfl⟩
theorem KT (h:kV w B F gt ct A st tr) (hl:65536<A.hs.length) :
  Calls Tryz.prog 201 #[.pointer (some ⟨B.n0,0,none⟩)] w λe w'=>e=.returned (.int .i64 0)/\Goes (B.blk F gt) w w' (λF'=>∃F1,F'=B.blk F1 gt/\kV w' B F1 gt ct A st tr):=by
 obtain ⟨S,ag,hM,hI⟩:=h;have k:=gQ hM.cells;have e1:bW A=0:=by unfold bW;rw [Δ hl]
 have e2:aI A=A:=by unfold aI;rw [Δ hl]
 rw [e1,e2] at k;have h0:=hM.h0;have HM:=χ hM;have HI:=χ hI;clear hM hI e1 e2
 go_enter Tryz.func201,Tryz.ntmps201
 go_wp2_with (first|((go_at_call 140;(with_reducible refine (k).mono ?_));rintro e w1 ⟨rfl,F1,hC,hu,hF⟩))
 go_ret
 exact ⟨rfl,B.blk F1 gt,⟨F1,rfl,S,ag,HM.out.dV hu hC hF rfl rfl,HI.out⟩,hu.mono (λy hy=>by simp [PB.blk,hy]),λx hx=>by
  simp only [PB.blk,ρ] at hx ⊢;rcases hx with rfl|rfl|rfl|hx
  ·simp
  ·simp
  ·simp
  ·rcases hF x hx with h|h
   ·simp [h]
   ·exact Β h⟩
theorem GG (h:kV w B F gt ct A st tr) (hl:¬65536<A.hs.length) :
  Calls Tryz.prog 201 #[.pointer (some ⟨B.n0,0,none⟩)] w λe w'=>e=.returned (.int .i64 (A.hs.length:Int))/\Goes (B.blk F gt) w w' (λF'=>∃F1 nA Eo,F'=B.blk F1 nA/\kV w' B F1 nA Eo (aI A) st tr):=by
 obtain ⟨S,ag,hM,hI,hL⟩:=h;have k:=gQ hM.cells;have e1:bW A=A.hs.length:=by unfold bW;rw [Γ hl]
 rw [e1] at k;have hcs:(aI A).cs.length=A.cs.length:=by unfold aI;rw [Γ hl]
 have iN:(aI A).hs.length=A.hs.length+1:=by unfold aI;rw [Γ hl];simp
 have hI2:=hI.make hM.cells.ok hM.iB hl;have h0:=hM.h0;have hh0:=hM.cells.ok.h0;have HTN:=χ hM.iB;have htb:ag.length<=65536:=by rw [hM.iB];omega
 have HM:=χ hM;have HI:=χ (ψ hI2 hL);clear hM hI hL e1 hI2
 go_enter Tryz.func201,Tryz.ntmps201
 go_wp2_with (first
  | ((go_at_call 140;(with_reducible refine (k).mono ?_));rintro e w1 ⟨rfl,F1,hC,hu,hF⟩;(have d3:=hu.kept HM.out.h2 HM.out.bI.1);(have f3:=hu.aM HM.out.h2 HM.out.bI.1 (HM.out.head.free 2));(have ho1:=(HM.out.il.upd hu HM.out.bI.2.2).own);(have g0:B.n0≠gt:=HM.out.sep.2.1);(have gl:=(HM.out.il.upd hu HM.out.bI.2.2).lt))
  | ((at_builtin;refine aW rfl _ _ 77 rfl 0 3 (.int .i64 0) 1 8 Tryz.underlying77 fF rfl δ _ _ _ rfl (ho1) [.int .i64 (-1)] rfl (by simp [Value.oneCell']) (by first|rfl|(rw [Κ];rfl)) μ ω (ω) ?_;intro v2 w2 ho2 hu2 kZ);(have hu2:aa [gt] w1 w2:=hu2);obtain ⟨nA,Eo,ev,hI2, -⟩:=IZ.iO (l:=ag++[-1]) (by rw [bZ,υ];exact ho2) σ;rw [υ,List.length_singleton] at ev;subst ev;(have d4:=hu2.kept d3 ζ);(have f4:=hu2.aM d3 ζ f3)))
 go_ret;have hM:=HM.out;have hlt:=hM.lt;have f:=hM.bI;have q:=hM.sep;have hw3:aa [B.n0] w2 (w2.setCell ⟨B.n0,2,none⟩ (.slice (some ⟨nA,0,none⟩) (ag.length+1) Eo)):=β;have hg1:nA=gt\/w1.heap.size<nA:=by
  rcases kZ with h|h
  ·exact Α (Option.some.inj h)
  ·exact Β (h nA rfl)
 have hws:=hu.size;have gK:=hC.lt;have l0:=hlt B.n0 (by simp [PB.blk]);have l1:=hlt B.ba (by simp [PB.blk]);have l4:=hlt gt (by simp [PB.blk]);have hnF:∀y,y<w.heap.size->y∉F->y∉F1:=λy hy hn hm=>by rcases hF y hm with h'|h';exact hn h';omega
 have sZ:nA∉F1:=by
  rcases hg1 with e|e
  ·rw [e];exact hnF gt l4 f.2.2
  ·exact λhm=>by have:=gK nA hm;omega
 have hb:w.heap.size<=nA\/nA=gt:=ω;have hhd:=((hM.head.upd hu f.1).upd hu2 ζ).set 2 (.slice (some ⟨nA,0,none⟩) (ag.length+1) Eo);refine ⟨rfl,B.blk F1 nA,⟨F1,nA,Eo,rfl,S,ag++[-1],⟨?_,?_,?_,hI2.upd hw3 ζ,?_,⟨hnF _ l0 f.1,hnF _ l1 f.2.1,sZ⟩,⟨q.1,ω,ω⟩⟩,HI.out⟩,?_,λy hy=>?_⟩
 ·rw [hcs,υ,List.length_singleton];refine hhd.ext (λj hj=>?_);rcases (ω:j=0\/j=1\/j=2) with rfl|rfl|rfl<;>rfl
 ·exact (hC.upd hu2 (λy hy=>by simp at hy;rw [hy];exact hnF gt l4 f.2.2)).upd hw3 (λy hy=>by simp at hy;rw [hy];exact hnF _ l0 f.1)
 ·rw [hcs];exact ((hM.ties.upd hu f.2.1).upd hu2 ζ).upd hw3 ζ
 ·rw [υ,List.length_singleton,iN,HTN.out]
 ·have u1:aa (B.blk F gt) w w1:=hu.mono (λy hy=>by simp [PB.blk,hy]);exact (u1.trans (hu2.mono (λy hy=>by simp at hy;simp [PB.blk,hy]))).trans (hw3.mono (λy hy=>by simp at hy;simp [PB.blk,hy]))
 ·simp only [PB.blk,ρ] at hy ⊢;rcases hy with rfl|rfl|rfl|hy
  ·simp
  ·simp
  ·rcases hb with h|h
   ·exact Β h
   ·exact Α (by simp [h])
  ·rcases hF y hy with h|h
   ·simp [h]
   ·exact Β h
end
section
variable {w:World} {B:PB} {F:List Nat} {gt ct:Nat} {A:NS} {st:Nat} {S:TS} {ag:List Int}
theorem Jm (h:gu w B F gt ct A st S ag) (x:Nat) (hin:bR A (x:Int)=true) (l:BT) (hl:bY S (x:Int) (S.l x) l) (hlt:∀z,z∈l.nodes->z<A.cs.length) (hsz:l.size<=65536) :
  Calls Tryz.prog 207 #[.pointer (some ⟨B.n0,0,none⟩),.int .i64 (x:Int)] w λe w'=>∃ao co,e=.returned (.slice ao (bB l).length co)/\w'.ownsRow w.heap.size 3 1 (.slice ao (bB l).length co) (bB l).length (aT (bX (bB l)))/\gu w' B F gt ct A st S ag/\aa F w w':=by
 have kh:=ic h.cells x hin;have hx:=(ay _ _).1 hin;have hA:=h.cells.ok.c1;have c0:=h.h0;have hM1:∀w1,aB w1 B.c F A st->aa F w w1->gu w1 B F gt ct A st S ag:=λw1 hC hu=>h.dV hu hC (λz hz=>Α hz) rfl rfl;have zS:(x:Int)<(A.cs.length:Int):=ω;have HL:=χ (ψ hl hlt);clear h hl hlt
 go_enter Tryz.func207,Tryz.ntmps207
 go_upto_region 5 with (first
  | ((go_at_call 124;(with_reducible refine (kh).mono ?_));rintro e w1 ⟨rfl,hC,hu1⟩)
  | fail)
 have hM:=hM1 w1 hC hu1;have c1:=hM.h1;have dl:=hM.l x hx.1;have hs1:=hu1.size;have HM:=χ (ψ hM hu1);have hlr:=HL.out.1.root;rw [hlr] at dl;clear hM hM1 hC hu1 kh;go_wp2
 go_loopg [7,8] l.size (λfu ov zv wr=>∃ (t:BT) (p:Int) (o:List Int) (k:Nat) (ao:Option Addr) (co:Nat),zv=.int .i64 t.root/\ov=.slice ao k co/\bY S p t.root t/\(∀z,z∈t.nodes->z<A.cs.length)/\wr.ownsRow w1.heap.size 3 1 (.slice ao k co) k (aT o)/\o++bX (bB t)=bX (bB l)/\t.size<=fu/\k+t.size<=65536/\aa [] w1 wr)
 case atStart=>exact ⟨l,x,[],0,none,0,rfl,rfl,by rw [←hlr];exact HL.out.1,HL.out.2,⟨rfl,Α ⟨rfl,rfl⟩⟩,rfl,Θ _,ω,aa.refl _ _⟩
 case round=>
  rename Nat=>fu;obtain ⟨t,p,o,k,ao,co,rfl,rfl,hT,hlt,ho,BX,hfu,hk,hu⟩:=hrel;rename World=>wr;cases t with
  | nil=>
   have hr:(BT.nil.root != (-1:Int))=false:=rfl;have hk2:k=(bB l).length:=by
    have h1:=ho.1;rw [fM] at h1;have h2:=congrArg List.length BX;simp [bX,bB] at h2;omega
   have hr2:(BT.nil).root=-1:=rfl;rw [hr2] at *;have HO:=χ (ψ ho (ψ BX (ψ hu hk2)));clear ho BX hT hlt;go_wp2;go_ret;obtain ⟨ho,BX,hu,hk2⟩:=HO.out;subst hk2;have e:o=bX (bB l):=by simpa [bX,bB] using BX
   rw [e] at ho;exact ⟨ao,co,rfl,lM ho hs1,HM.out.1.ai hu,HM.out.2.then hu⟩
  | node y a b=>
   have hyl:y<A.cs.length:=hlt y (by simp [BT.nodes]);have hy2:(BT.node y a b).root=(y:Int):=rfl;rw [hy2] at *;have hyb:((y:Int) != -1)=true:=σ;have U4:(y:Int)<(A.cs.length:Int):=ω;have hMw:=HM.out.1.ai hu;have e1:=hMw.h1;have e2:=hMw.r y hyl;rw [hT.2.2.2.root] at e2;have hos:=hu.size;simp only [BT.size] at hfu hk;obtain ⟨fv,rfl⟩:∃fv,fu=fv+1:=⟨fu-1,ω⟩;have HO:=χ (ψ hT (ψ hlt (ψ BX hu)));clear hT hlt BX hMw;have hb2:w1.heap.size<=wr.heap.size:=hos;have XP:B.n0<w1.heap.size/\B.ba<w1.heap.size:=⟨HM.out.1.lt _ (by simp [PB.blk]),HM.out.1.lt _ (by simp [PB.blk])⟩
   go_wp2_with (first|((at_builtin;refine aW rfl _ _ 77 rfl w1.heap.size 3 (.int .i64 0) 1 8 Tryz.underlying77 fF rfl δ _ _ _ rfl (ho) [.int .i64 (y:Int)] rfl (by simp [Value.oneCell']) (by first|rfl|(rw [Κ];rfl)) μ ω (ω) ?_;intro v2 w2 ho2 hu2 kZ);obtain ⟨a2,c2,rfl,hc2⟩:=bz ho2;(have hv2:aa [] w1 w2:=HO.out.2.2.2.own ho (Θ _) hu2);(have hn2:B.n0∉(Value.slice ao k co).ownBlock.toList:=λhm=>by (have h9:=(ho.lt B.n0 (Option.mem_toList.1 hm)).1);omega);(have Ir:B.ba∉(Value.slice ao k co).ownBlock.toList:=λhm=>by (have h9:=(ho.lt B.ba (Option.mem_toList.1 hm)).1);omega);(have e3:=hu2.kept e1 hn2);(have e4:=hu2.kept e2 Ir))|fail)
   go_roundg fv
   case rel=>
    obtain ⟨hT,hlt,BX,hu⟩:=HO.out;refine ⟨b,y,o++[(y:Int)],k+1,a2,c2,rfl,rfl,?_,λz hz=>hlt z (by simp [BT.nodes,hz]),by rw [bZ];exact ho2,?_,ω,ω,hv2⟩
    ·have h4:=hT.2.2.2;rw [h4.root] at h4;exact h4
    ·rw [←BX];simp [bX,bB,BT.root]
   all_goals omega
end
end Go.Proofs.YtnpdakpagnpanaaGreat
namespace Go.Proofs.YtnpdakpagnpanaaGreat
structure Rk (A:NS) (S:TS) (l:List BT):Prop where
 ok:∀t,t∈l->bY S (-1) t.root t/\Lone t
 nd:(fG l).Nodup
 inn:∀z,z∈fG l->bR A (z:Int)=true
theorem Rk.link {A:NS} {S S':TS} {D r:List BT} {a b:BT} (h:Rk A S (D++a::b::r)) (hT:bY S' (-1) (cK A a b).root (cK A a b)) (hs:∀z,z∉a.nodes++b.nodes->S.at S' z):Rk A S' (D++cK A a b::r):=by
 have la:=(h.ok a σ).2;have lb:=(h.ok b σ).2;have hp:(fG (D++cK A a b::r)).Perm (fG (D++a::b::r)):=by
  rw [eX,eX,bE,bE,bE,←ϋ a.nodes];exact ((jL A la lb).append_right _).append_left _
 have hnd:=h.nd;rw [eX,bE,bE] at hnd;rw [θ] at hnd;obtain ⟨_,n2,n3⟩:=hnd;rw [←ϋ,θ] at n2;obtain ⟨_,_,n4⟩:=n2;refine ⟨λt ht=>?_,hp.nodup_iff.2 h.nd,λz hz=>h.inn z (hp.mem_iff.1 hz)⟩;rcases τ.1 ht with e|e
 ·have h1:=h.ok t (by simp [e]);refine ⟨h1.1.frame (λz hz=>hs z (λhm=>?_)),h1.2⟩;refine n3 z (List.mem_flatMap.2 ⟨t,e,hz⟩) z ?_ rfl;rcases τ.1 hm with e2|e2
  ·exact τ.2 (Α e2)
  ·exact τ.2 (Β (τ.2 (Α e2)))
 ·rcases ρ.1 e with e|e
  ·rw [e];exact ⟨hT,lI A la lb⟩
  ·have h1:=h.ok t (by simp [e]);exact ⟨h1.1.frame (λz hz=>hs z (λhm=>n4 z hm z (List.mem_flatMap.2 ⟨t,e,hz⟩) rfl)),h1.2⟩
theorem Rk.two {A:NS} {S:TS} {D r:List BT} {a b:BT} (h:Rk A S (D++a::b::r)):bY S (-1) a.root a/\bY S (-1) b.root b/\Lone a/\Lone b/\(a.nodes++b.nodes).Nodup/\∀z,z∈a.nodes++b.nodes->bR A (z:Int)=true:=by
 have hnd:=h.nd;rw [eX,bE,bE,θ] at hnd;have n2:=hnd.2.1;rw [←ϋ,θ] at n2;refine ⟨(h.ok a σ).1,(h.ok b σ).1,(h.ok a σ).2,(h.ok b σ).2,n2.1,λz hz=>h.inn z ?_⟩;rw [eX,bE,bE,←ϋ];simp only [τ] at hz ⊢;rcases hz with e|e
 ·simp [e]
 ·simp [e]
theorem Jr (S:TS) (x:Nat):∀z,(fC S x []).l z=(S.aD x false (-1)).l z/\(fC S x []).r z=(S.aD x false (-1)).r z/\(fC S x []).u z=(S.aD x false (-1)).u z:=λz=>by
 unfold fC TS.aD;simp
theorem GU (S:TS) (x k j:Nat) (ks:List Int) (h:ks[j]?=some (k:Int)):∀z,(fC S x (ks.take (j+1))).l z=(((fC S x (ks.take j)).aD k true (-1)).bN k (-1)).l z/\(fC S x (ks.take (j+1))).r z=(((fC S x (ks.take j)).aD k true (-1)).bN k (-1)).r z/\(fC S x (ks.take (j+1))).u z=(((fC S x (ks.take j)).aD k true (-1)).bN k (-1)).u z:=λz=>by
 have e:ks.take (j+1)=ks.take j++[(k:Int)]:=by rw [Ϗ,h];rfl
 rw [e];unfold fC TS.aD TS.bN;have hz:((z:Int)=(k:Int))=(z=k):=propext ⟨λh=>ω,λh=>ω⟩;simp only [τ,ϒ,hz];refine ⟨σ,?_,?_⟩
 ·by_cases h1:z=k
  ·simp [h1]
  ·simp [h1]
 ·by_cases h1:z=k
  ·simp [h1]
  ·simp [h1]
theorem Ll (A:NS) {l:List BT} {j:Nat} (h:2*j+1<l.length):∃a b r,l.drop (2*j)=a::b::r/\l[2*j]?=some a/\l[2*j+1]?=some b/\r=l.drop (2*(j+1))/\(bP A l).take (j+1)=(bP A l).take j++[cK A a b]:=by
 have h1:l.drop (2*j)=l[2*j]::l[2*j+1]::l.drop (2*j+2):=by
  rw [ϛ ω,ϛ ω]
 refine ⟨l[2*j],l[2*j+1],l.drop (2*j+2),h1,ε _,ε _,by rw [show 2*(j+1)=2*j+2 by omega],?_⟩;have h2:=sJ A j l ω;rw [h1] at h2;have hl:((bP A l).take j).length=j:=by rw [ϐ,qB];omega
 have h3:(bP A l)[j]?=some (cK A l[2*j] l[2*j+1]):=by
  rw [h2,ϊ ω,hl,Nat.sub_self];rfl
 rw [Ϗ,h3];rfl
theorem Ko (A:NS) {l:List BT} {j:Nat} (h:2*j+1=l.length):∃a,l.drop (2*j)=[a]/\l[2*j]?=some a/\(bP A l).take (j+1)=(bP A l).take j++[a]/\l.drop (2*(j+1))=[]:=by
 have h1:l.drop (2*j)=[l[2*j]]:=by
  rw [ϛ ω,List.drop_eq_nil_of_le ω]
 refine ⟨l[2*j],h1,ε _,?_,List.drop_eq_nil_of_le ω⟩;have h2:=sJ A j l ω;rw [h1] at h2;have hl:((bP A l).take j).length=j:=by rw [ϐ,qB];omega
 have h3:(bP A l)[j]?=some l[2*j]:=by
  rw [h2,ϊ ω,hl,Nat.sub_self];rfl
 rw [Ϗ,h3];rfl
theorem Nv (A:NS) {l:List BT} {j:Nat} (h:l.length<=2*j):(bP A l).take j=bP A l:=List.take_of_length_le (by rw [qB];omega)
theorem rest_step (A:NS) {l:List BT} {j:Nat} (h:j<l.length):fe A (l.drop j)=cK A l[j] (fe A (l.drop (j+1))):=by
 rw [ϛ h];rfl
theorem Rk.start {A:NS} {S:TS} {x:Nat} {l:BT} (hl:bY S (x:Int) (S.l x) l) (hn:(x::l.nodes).Nodup) (hin:∀z,z∈l.nodes->bR A (z:Int)=true):Rk A (fC S x (bX (bB l))) (bB l):=by
 obtain ⟨n1,n2⟩:=Ζ.1 hn;have e:=hl.root;rw [e] at hl;have XX:∀ (t:BT) u,u∈bB t->Lone u:=by
  intro t
  induction t with
  | nil=>intro u hu;cases hu
  | node y a b _ ih=>
   intro u hu;simp only [bB,ρ] at hu;rcases hu with e|e
   ·subst e;rfl
   ·exact ih u e
 exact ⟨λt ht=>⟨EI hl n2 n1 (λz hz=>Iff.rfl) t ht,XX l t ht⟩,(iD l).nodup_iff.2 n2,λz hz=>hin z ((iD l).mem_iff.1 hz)⟩
structure Jc (A:NS) (S0 S:TS) (l:BT) (L:List BT):Prop where
 fo:Rk A S L
 sub:∀z,z∈fG L->z∈l.nodes
 fr:∀z,z∉l.nodes->S0.at S z
theorem Jc.link {A:NS} {S0 S S':TS} {l:BT} {D r:List BT} {a b:BT} (h:Jc A S0 S l (D++a::b::r)) (hT:bY S' (-1) (cK A a b).root (cK A a b)) (hs:∀z,z∉a.nodes++b.nodes->S.at S' z):Jc A S0 S' l (D++cK A a b::r):=by
 have la:=(h.fo.ok a σ).2;have lb:=(h.fo.ok b σ).2;have hp:(fG (D++cK A a b::r)).Perm (fG (D++a::b::r)):=by
  rw [eX,eX,bE,bE,bE,←ϋ a.nodes];exact ((jL A la lb).append_right _).append_left _
 refine ⟨h.fo.link hT hs,λz hz=>h.sub z (hp.mem_iff.1 hz),λz hz=>?_⟩;have h1:=h.fr z hz
 have h2:=hs z (λhm=>hz (h.sub z (by
  rw [eX,bE,bE,←ϋ];simp only [τ] at hm ⊢;rcases hm with e|e
  ·simp [e]
  ·simp [e])))
 exact ⟨h2.1.trans h1.1,h2.2.1.trans h1.2.1,h2.2.2.trans h1.2.2⟩
theorem Jc.start {A:NS} {S:TS} {x:Nat} {l:BT} (hl:bY S (x:Int) (S.l x) l) (hn:(x::l.nodes).Nodup) (hin:∀z,z∈l.nodes->bR A (z:Int)=true):Jc A (fC S x (bX (bB l))) (fC S x (bX (bB l))) l (bB l):=
 ⟨Rk.start hl hn hin,λz hz=>(iD l).mem_iff.1 hz,λz _=>⟨rfl,rfl,rfl⟩⟩
theorem Jc.nil {A:NS} {S0 S:TS} {l:BT} {L:List BT} (h:Jc A S0 S l L):Jc A S0 S l (L++[BT.nil]):=by
 have e:fG (L++[BT.nil])=fG L:=by rw [eX];simp [fG,BT.nodes]
 refine ⟨⟨λt ht=>?_,by rw [e];exact h.fo.nd,by rw [e];exact h.fo.inn⟩,by rw [e];exact h.sub,h.fr⟩;rcases τ.1 ht with e|e
 ·exact h.fo.ok t e
 ·have e2:t=.nil:=by simpa using e
  subst e2;exact ⟨rfl,trivial⟩
theorem Jc.done {A:NS} {S S':TS} {x:Nat} {l t:BT} (h:Jc A (fC S x (bX (bB l))) S' l [t]) (hx:x∉l.nodes):bY S' (-1) t.root t/\S'.l x=-1/\S'.r x=S.r x/\S'.u x=S.u x/\∀z,z∉x::l.nodes->S.at S' z:=by
 have h1:=h.fr x hx;have hk:∀z:Nat,z∉l.nodes->(z:Int)∉bX (bB l):=λz hz hm=>hz (Ij hm);have hs:∀z:Nat,z∉l.nodes->z≠x->S.at (fC S x (bX (bB l))) z:=λz hz hzx=>Ow hzx (hk z hz);refine ⟨(h.fo.ok t σ).1,?_,?_,?_,λz hz=>?_⟩
 ·rw [h1.1];simp [fC]
 ·rw [h1.2.1];simp [fC,hk x hx]
 ·rw [h1.2.2];simp [fC,hk x hx]
 ·simp only [ρ,not_or] at hz;have h2:=h.fr z hz.2;have h3:=hs z hz.2 hz.1;exact ⟨h2.1.trans h3.1,h2.2.1.trans h3.2.1,h2.2.2.trans h3.2.2⟩
theorem mq {l:List BT} {j:Nat} {t:BT} (h:l[j]?=some t):(bX l).getD j 0=t.root/\(bX l)[j]?=some t.root:=by
 unfold bX;simp [φ,h]
theorem Ha (l:List BT):(bX l).length=l.length:=by unfold bX;simp
theorem rU (a b:List BT):bX (a++b)=bX a++bX b:=by unfold bX;rw [List.map_append]
theorem Da:∀ (t:BT),(bB t).length<=t.nodes.length
 | .nil=>Θ _
 | .node x l r=>by
  have:=Da r;simp only [bB,Ω,BT.nodes,υ];omega
theorem KQ (A:NS) {tw:List BT} {i:Nat} (h:i<tw.length):tw.take (i+1)=tw.take i++[tw[i]]/\fe A (tw.drop i)=cK A tw[i] (fe A (tw.drop (i+1))):=by
 refine ⟨?_,rest_step A h⟩;rw [Ϗ,ε h];rfl
end Go.Proofs.YtnpdakpagnpanaaGreat
namespace Go.Proofs.YtnpdakpagnpanaaGreat
open Go Go.RowKit
section
variable {w:World} {B:PB} {F:List Nat} {gt ct:Nat} {A:NS} {st:Nat} {S:TS} {ag:List Int}
def J4 (w:World) (base:Nat) (v:Value) (xs:List Int):Prop:=w.ownsRow base 3 1 v xs.length (aT xs)
theorem J4.cell {W:World} {base:Nat} {a:Option Addr} {n c:Nat} {xs:List Int} (h:W.ownsRow base 3 1 (.slice a n c) n (aT xs)) {j:Nat} {y:Int} (hj:xs[j]?=some y):∃g,a=some ⟨g,0,none⟩/\base<=g/\g<W.heap.size/\∀W',aa [] W W'->W'.cell? ⟨g,j,none⟩=some (.int .i64 y):=by
 have hl:=h.1;rw [fM] at hl;have hjl:j<xs.length:=(List.getElem?_eq_some_iff.1 hj).1;obtain ⟨g,cap,e,hb,_⟩:=ed h ω
 injection e with e1 e2 e3
 subst e1;have hlt:=h.lt g rfl;refine ⟨g,rfl,hb,hlt.2,λW' hW=>hW.was ?_⟩;rw [h.cellAt j ω,jT hjl,φ,hj];rfl
theorem xN (h:gu w B F gt ct A st S ag) (x:Nat) (hin:bR A (x:Int)=true) (l:BT) (hl:bY S (x:Int) (S.l x) l) (hnd:(x::l.nodes).Nodup) (hinl:∀z,z∈l.nodes->bR A (z:Int)=true) (hsz:l.size<=65536) :
    Calls Tryz.prog 206 #[.pointer (some ⟨B.n0,0,none⟩),.int .i64 (x:Int)] w λe w'=>e=.returned (.int .i64 (fe A (bP A (bB l))).root)/\aa (B.ba::F) w w'/\∃st' S',gu w' B F gt ct A st' S' ag/\bY S' (-1) (fe A (bP A (bB l))).root (fe A (bP A (bB l)))/\S'.l x=-1/\S'.r x=S.r x/\S'.u x=S.u x/\∀z,z∉x::l.nodes->S.at S' z:=by
  have hx:=(ay _ _).1 hin;have hA:=h.cells.ok.c1;have hlt:∀z,z∈l.nodes->z<A.cs.length:=λz hz=>((ay _ _).1 (hinl z hz)).1;have kk:=Jm h x hin l hl hlt hsz;have hlen:(bB l).length<=65536:=by have:=Da l;rw [BT.jR] at this;omega
  have HS:=χ (Jc.start hl hnd hinl);have hxl:x∉l.nodes:=(Ζ.1 hnd).1;have hkr:∀ (j:Nat) (k:BT),(bB l)[j]?=some k->∃y:Nat,k.root=(y:Int)/\y<A.cs.length:=λj k hk=>by
    have h1:=Dx (Η hk);exact ⟨_,h1.2.1,hlt _ ((iD l).mem_iff.1 (List.mem_flatMap.2 ⟨k,Η hk,h1.1⟩))⟩
  have HK:=χ (ψ hkr (ψ hxl hlen));have hbl:=h.lt;have hn0:B.n0<w.heap.size/\B.ba<w.heap.size/\∀z,z∈F->z<w.heap.size:=⟨hbl _ (by simp [PB.blk]),hbl _ (by simp [PB.blk]),λz hz=>hbl z (by simp [PB.blk,hz])⟩;clear hlt hl hnd hinl hkr hxl hbl;generalize hks:bB l=ks at *
  go_enter Tryz.func206,Tryz.ntmps206
  go_upto_region 2 with (first
    | ((go_at_call 207;(with_reducible refine (kk).mono ?_));rintro e w1 ⟨ao,co,rfl,ho,hM1,hu1⟩)
    | fail)
  clear h kk;have hs1:=hu1.size;have c1:=hM1.h1;have dl:=hM1.l x hx.1;have ff:=hM1.f (x*3);have zS:(x:Int)<(A.cs.length:Int):=ω;have HO:=χ (ψ ho (ψ hM1 hu1));clear ho hM1 hu1;obtain ⟨hkr,hxl,hlen⟩:=HK.out;clear hkr hxl
  go_upto_region 3 with (fail)
  refine iR (λW=>gu W B F gt ct A st (S.aD x false (-1)) ag/\aa [B.ba] w1 W) ⟨(HO.out.2.1.Ga x (-1)).ai (by first|exact ⟨rfl,rfl,rfl,Θ _,λ_ _ _=>rfl⟩|exact ν),β⟩ ?_;rintro W ⟨jV,hu2⟩;have HW:=χ (ψ jV hu2);clear jV hu2 c1 dl ff;go_wp2
  go_loopw [7,24] (λv7 v24 wr=>∃ (j:Nat),j<=ks.length/\v24=.int .i64 (j:Int)/\gu wr B F gt ct A st (fC S x ((bX ks).take j)) ag/\aa [B.ba] w1 wr) (λ_ v24 _=>ks.length-(intOf v24).toNat)
  case atStart=>exact ⟨0,Nat.zero_le _,rfl,by rw [List.take_zero];exact HW.out.1.ext (Jr S x),HW.out.2⟩
  case round=>
    obtain ⟨j,hj,rfl,hM,hu⟩:=hrel;rename World=>wr
    by_cases hjn:j<ks.length
    · obtain ⟨t,ht⟩:∃t,ks[j]?=some t:=⟨ks[j],ε hjn⟩
      obtain ⟨y,hy,hyl⟩:=HK.out.1 j t ht;have hro:=(mq ht).2;rw [hy] at hro;obtain ⟨g,rfl,hg1,hg2,hgc⟩:=J4.cell HO.out.1 hro;have hgr:wr.cell? ⟨g,j,none⟩=some (.int .i64 (y:Int)):=hu.kept (hgc w1 (aa.refl _ _)) ζ;have c1:=hM.h1;have dr:=hM.r y hyl;have du:=hM.u y hyl;have PW:=hM.f (y*3+1);have PX:=hM.f (y*3+2);have IW:decide ((j:Int)<(ks.length:Int))=true:=ζ;have U4:(y:Int)<(A.cs.length:Int):=ω;have hn1:¬B.n0=B.ba:=hM.sep.1;have hn2:¬B.ba=B.n0:=λe=>hM.sep.1 e.symm;have HM:=χ (ψ hM (ψ hu hro));clear hM hu hro hy ht hgc;go_wp2
      go_region_law (fail)
      all_goals
        go_wp2
        go_roundw
        case rel=>
          refine ⟨j+1,ω,by go_num,?_,HM.out.2.1.trans β⟩;exact (((HM.out.1.bH y (-1)).qc y (-1)).ai (by first|exact ⟨rfl,rfl,rfl,Θ _,λ_ _ _=>rfl⟩|exact ν)).ext (GU S x y j (bX ks) HM.out.2.2)
        case measure=>simp [intOf];omega
    · obtain rfl:j=ks.length:=ω
      have IW:decide ((ks.length:Int)<(ks.length:Int))=false:=σ;have e:(bX ks).take ks.length=bX ks:=List.take_of_length_le (by rw [Ha];exact Θ _);rw [e] at hM;have HM:=χ (ψ hM hu);clear hM hu e;go_wp2;refine iR (λW=>aa [] wr W) (by first|exact ⟨rfl,rfl,rfl,Θ _,λ_ _ _=>rfl⟩|exact ν) ?_;intro W2 hW2;have pI:=χ (ψ (HM.out.1.ai hW2) (HM.out.2.trans (hW2.mono σ)));have hs2:=pI.out.2.size;clear HM hW2
      go_loopw [8,9] (λv8 v9 wr=>∃ (j m:Nat) (a2:Option Addr) (c2:Nat) (st':Nat) (S':TS),m=2*j/\j<=(bP A ks).length/\v9=.int .i64 (m:Int)/\v8=.slice a2 j c2/\wr.ownsRow W2.heap.size 3 1 (.slice a2 j c2) j (aT (bX ((bP A ks).take j)))/\gu wr B F gt ct A st' S' ag/\Jc A (fC S x (bX ks)) S' l ((bP A ks).take j++ks.drop m)/\aa [B.ba,B.c] W2 wr) (λ_ v9 _=>ks.length+2-(intOf v9).toNat)
      case atStart=>exact ⟨0,0,none,0,st,_,rfl,Nat.zero_le _,rfl,rfl,⟨rfl,Α ⟨rfl,rfl⟩⟩,pI.out.1,by simpa using HS.out,aa.refl _ _⟩
      case round=>
        obtain ⟨j,m,a2,c2,st',S',hm,hj,rfl,rfl,ho2,hM,hF,hu⟩:=hrel;rename World=>wr;have htl:=qB A ks;have hos:=hu.size;have hbl:∀z,z∈B.blk F gt->z<W2.heap.size:=pI.out.1.lt;have hgb:∀g,g∈(Value.slice a2 j c2).ownBlock.toList->W2.heap.size<=g:=λg hg=>(ho2.lt g (Option.mem_toList.1 hg)).1;have Js:B.ba<W2.heap.size/\B.c<W2.heap.size:=⟨hbl _ (by simp [PB.blk]),hbl _ (by simp [PB.blk,hM.cF])⟩;have HG:=χ (ψ hbl hgb);have hw1:aa [B.ba,B.c] w1 wr:=(pI.out.2.mono σ).trans hu
        by_cases JA:m<ks.length
        · have hmI:decide ((m:Int)<(ks.length:Int))=true:=ζ
          have hjb:j<=65536:=ω;have hwr:IntKind.i64.wrap ((m:Int)+1)=(m:Int)+1:=Μ _ ω
          by_cases hlast:m+1=ks.length
          · obtain ⟨t,l1,l2,l3,l4⟩:=Ko A (l:=ks) (j:=j) ω
            rw [←hm] at l1 l2;have hro:=(mq l2).2;obtain ⟨g,rfl,hg1,hg2,hgc⟩:=J4.cell HO.out.1 hro;have hgr:wr.cell? ⟨g,m,none⟩=some (.int .i64 t.root):=hw1.kept (hgc w1 (aa.refl _ _)) (by simp;have:=hn0.2.2 _ hM.cF;omega);have ZR:((m:Int)+1 == (ks.length:Int))=true:=ζ;have HL:=χ (ψ hM (ψ hF (ψ hu (ψ l1 (ψ l3 (ψ l4 (ψ hm htl)))))));clear hM hF hu hw1 l1 l2 l3 l4 hro hgc hm htl hlast hbl hgb Js
            go_wp2_with (first
              | ((at_builtin;refine aW rfl _ _ 77 rfl W2.heap.size 3 (.int .i64 0) 1 8 Tryz.underlying77 fF rfl δ _ _ _ rfl (ho2) [.int .i64 t.root] rfl (by simp [Value.oneCell']) (by first|rfl|(rw [Κ];rfl)) μ ω (ω) ?_;intro v2 w2 ho3 hu3 kZ);obtain ⟨a3,c3,rfl,hc3⟩:=bz ho3)
              | fail)
            go_roundw
            case rel=>
              obtain ⟨hM,hF,hu,l1,l3,l4,hm,htl⟩:=HL.out;refine ⟨j+1,m+2,a3,c3,st',S',ω,ω,by go_num,rfl,?_,hM.upd hu3 (λg hg hb=>by have:=HG.out.1 g hb;have:=HG.out.2 g hg;omega),?_,hu.joined hu3 (λg hg=>Β (HG.out.2 g hg))⟩
              · rw [l3,rU,bZ];exact ho3
              · rw [show m+2=2*(j+1) by omega,l4,l3,Υ,←l1];exact hF
            case measure=>simp [intOf];omega
          · obtain ⟨ta,tb,r,l1,l2,l2b,l3,l4⟩:=Ll A (l:=ks) (j:=j) ω
            rw [←hm] at l1 l2 l2b;have YL:=(mq l2).2;have XD:=(mq l2b).2;obtain ⟨g,rfl,hg1,hg2,hgc⟩:=J4.cell HO.out.1 YL;obtain ⟨g',e', -, -,Yn⟩:=J4.cell HO.out.1 XD;cases e';have Vy:g∉[B.ba,B.c]:=by simp;have:=hn0.2.2 _ hM.cF;omega
            have hgr:wr.cell? ⟨g,m,none⟩=some (.int .i64 ta.root):=hw1.kept (hgc w1 (aa.refl _ _)) Vy;have hgr':wr.cell? ⟨g,m+1,none⟩=some (.int .i64 tb.root):=hw1.kept (Yn w1 (aa.refl _ _)) Vy;have ZR:((m:Int)+1 == (ks.length:Int))=false:=ζ;have hm1:m+1<ks.length:=ω;have hm1I:(m:Int)+1<(ks.length:Int):=ω;have hm0I:(0:Int)<=(m:Int)+1:=ω;rw [l1] at hF;obtain ⟨t1,t2,t3,t4,t5,t6⟩:=hF.fo.two;have kl:=λW (hW:aa [] wr W)=>uh (hM.ai hW) ta tb t1 t2 t3 t4 t5 t6;have HL:=χ (ψ hF (ψ hu (ψ l3 (ψ l4 (ψ hm htl)))))
            clear hM hF hu hw1 l1 l2 l2b l3 l4 YL XD hgc Yn hm htl hlast hbl hgb t1 t2 t3 t4 t5 t6 Vy;have hcb:∀k,(Value.slice a2 j c2).ownBlock=some k->k∉[B.ba,B.c]:=λk hk=>by have:=HG.out.2 k (Option.mem_toList.2 hk);simp;omega
            have HC:=χ hcb;clear hcb
            go_upto_region 14 with (fail)
            go_region_law (first
              | (go_simp;go_at_call 205;(with_reducible refine (kl _ β).mono ?_);rintro e w3 ⟨rfl,QI,YI,S3,lq,D8,hf3⟩;(have hu3:aa [B.ba,B.c] wr w3:=aa.trans β QI);(have ho3:=au ho2 hu3 HC.out);(have hos3:=hu3.size))
              | (refine kS rfl _ _ 77 rfl W2.heap.size 3 (.int .i64 0) 1 8 Tryz.underlying77 fF rfl δ (.slice a2 j c2) j (aT (bX ((bP A ks).take j))) rfl (ho3.alloc _) w3.heap.size [.int .i64 (cK A ta tb).root] rfl rfl (λi u hi=>l8 w3 [.int .i64 (cK A ta tb).root] 3 i u hi) (by simp [Value.oneCell']) μ ω ζ ?_
                 intro v2 w2 ho4 hu4a hv2;have jJ:aa (Value.slice a2 j c2).ownBlock.toList w3 w2:=aa.trans ((aa.refl _ _).alloc _) hu4a
                 obtain ⟨a3,c3,rfl,hc3⟩:=bz ho4)
              | fail)
            all_goals
              go_wp2
              go_roundw
              case rel=>
                obtain ⟨hF,hu,l3,l4,hm,htl⟩:=HL.out;refine ⟨j+1,m+2,a3,c3,YI,S3,ω,ω,by go_num,rfl,?_,lq.upd jJ (λg hg hb=>by have:=HG.out.1 g hb;have:=HG.out.2 g hg;omega),?_,(hu.trans hu3).joined jJ (λg hg=>Β (HG.out.2 g hg))⟩
                · rw [l4,rU,bZ];exact ho4
                · rw [show m+2=2*(j+1) by omega,←l3,l4,ϋ];exact hF.link D8 hf3
              case measure=>simp [intOf];omega
        · have hmI:decide ((m:Int)<(ks.length:Int))=false:=ζ
          have hjl:j=(bP A ks).length:=ω;have hdr:ks.drop m=[]:=List.drop_eq_nil_of_le ω;rw [Nv A ω] at ho2 hF;rw [hdr,Υ] at hF;have htn:(bP A ks).length<=65536:=ω;generalize Zz:bP A ks=tw at *;subst hjl;have hF2:=hF.nil;have HL:=χ (ψ hM (ψ hF2 (ψ hw1 Zz)));have HO2:=χ ho2;clear hM hF hu hw1 hF2 ho2 hdr hm hj htl hbl hgb Zz;go_wp2;refine iR (λW=>aa [] wr W) (by first|exact ⟨rfl,rfl,rfl,Θ _,λ_ _ _=>rfl⟩|exact ν) ?_;intro W3 hW3;have HW3:=χ hW3;clear hW3
          go_loopw [10,11] (λv10 v11 wr3=>∃ (i YI:Nat) (S3:TS),i<=tw.length/\v11=.int .i64 ((i:Int)-1)/\v10=.int .i64 (fe A (tw.drop i)).root/\gu wr3 B F gt ct A YI S3 ag/\Jc A (fC S x (bX ks)) S3 l (tw.take i++[fe A (tw.drop i)])/\aa [B.ba,B.c] W3 wr3) (λ_ v11 _=>((intOf v11)+1).toNat)
          case atStart=>
            have e1:tw.drop tw.length=[]:=List.drop_length;have e2:tw.take tw.length=tw:=List.take_length;refine ⟨tw.length,st',S',Θ _,by go_num,by rw [e1];rfl,HL.out.1.ai HW3.out,?_,aa.refl _ _⟩;rw [e1,e2];exact HL.out.2.1
          case round=>
            obtain ⟨i,YI,S3,hi,hz,rfl,hM,hF,hu⟩:=hrel;rename World=>wr3;cases i with
            | zero=>
              have hz2:((0:Nat):Int)-1=-1:=rfl;rw [hz2] at hz;subst hz;rw [List.drop_zero,List.take_zero,Ϛ] at hF;simp only [List.drop_zero];have HR:=χ (ψ hM (ψ hF hu));clear hM hF hu;go_wp2;go_ret;obtain ⟨hM,hF,hu⟩:=HR.out;have Zz:=HL.out.2.2.2;subst Zz;have hc:=hM.cF;have v1:aa [B.ba,B.c] w1 wr3:=(HL.out.2.2.1.trans (HW3.out.mono σ)).trans hu;exact ⟨rfl,(HO.out.2.2.mono (by simp +contextual)).trans (v1.mono (by simp [hc])),YI,S3,hM,(show Jc A (fC S x (bX (bB l))) _ l [fe A (bP A ks)] by rw [hks];exact hF).done HK.out.2.1⟩
            | succ i0=>
              have hz2:((i0+1:Nat):Int)-1=(i0:Int):=ω;rw [hz2] at hz;subst hz;have hil:i0<tw.length:=ω;obtain ⟨q1,q2⟩:=KQ A hil;have hro:=(mq (ε hil)).2;obtain ⟨g,rfl,hg1,hg2,hgc⟩:=J4.cell HO2.out hro;have hgr:wr3.cell? ⟨g,i0,none⟩=some (.int .i64 (tw[i0]).root):=hu.kept (hgc W3 HW3.out) ζ;rw [q1,ϋ] at hF;obtain ⟨t1,t2,t3,t4,t5,t6⟩:=hF.fo.two;have kl:=uh hM tw[i0] (fe A (tw.drop (i0+1))) t1 t2 t3 t4 t5 t6;rw [←q2] at kl;have HR:=χ (ψ hF (ψ hu q2));have Uy:decide ((i0:Int)≥0)=true:=σ;clear hM hF hu hgc hro q1 q2 t1 t2 t3 t4 t5 t6;generalize yX:tw[i0]=ta at *
              generalize htb:fe A (tw.drop (i0+1))=tb at *
              go_wp2_with (first
                | (go_at_call 205;(with_reducible refine (kl).mono ?_);rintro e w3 ⟨rfl,hu3,Sr,S4,xg,PT,XG⟩)
                | fail)
              go_roundw
              case rel=>
                obtain ⟨hF,hu,q2⟩:=HR.out;refine ⟨i0,Sr,S4,ω,by go_num,rfl,xg,?_,hu.trans hu3⟩;rw [q2] at PT ⊢;exact hF.link PT XG
              case measure=>first|(simp [intOf];done)|(simp [intOf];omega)
end
theorem Di (S:TS) (p x:Nat) (s:Bool) (hpx:p≠x) (h:S.r x=-1):∀z,(jf S p s x).l z=(((S.aD p s (-1)).aD x true (-1)).bN x (-1)).l z/\(jf S p s x).r z=(((S.aD p s (-1)).aD x true (-1)).bN x (-1)).r z/\(jf S p s x).u z=(((S.aD p s (-1)).aD x true (-1)).bN x (-1)).u z:=λz=>by
 unfold jf TS.aD TS.bN;rw [h];have:¬ (z:Int)=-1:=ω;cases s<;>simp [this]
theorem ET (S:TS) (p x o:Nat) (s:Bool) (hpx:p≠x) (h:S.r x=o):∀z,(jf S p s x).l z=((((S.aD p s o).bN o p).aD x true (-1)).bN x (-1)).l z/\(jf S p s x).r z=((((S.aD p s o).bN o p).aD x true (-1)).bN x (-1)).r z/\(jf S p s x).u z=((((S.aD p s o).bN o p).aD x true (-1)).bN x (-1)).u z:=λz=>by
 unfold jf TS.aD TS.bN;rw [h];have:((z:Int)=(o:Int))=(z=o):=propext ⟨λh=>ω,λh=>ω⟩;simp only [this];cases s<;>simp
section
variable {w:World} {B:PB} {F:List Nat} {gt ct:Nat} {A:NS} {st:Nat} {S:TS} {ag:List Int}
theorem Qc (h:gu w B F gt ct A st S ag) (p x:Nat) (hp:p<A.cs.length) (hx:x<A.cs.length) (hpx:p≠x) (hkl:S.l p=x) (hu:S.u x=p) (ho:S.r x=-1) :
  Calls Tryz.prog 204 #[.pointer (some ⟨B.n0,0,none⟩),.int .i64 (x:Int)] w λe w'=>e=.returned (.tuple #[])/\gu w' B F gt ct A st (jf S p false x) ag/\aa [B.ba] w w':=by
 have hA:=h.cells.ok.c1;have c1:=h.h1;have dl:=h.l p hp;have dr:=h.r x hx;have du:=h.u x hx;rw [hu] at du;have ff:=h.f;have PW:=ff (p*3);have PX:=ff (p*3+1);have Qs:=ff (x*3+1);have Q7:=ff (x*3+2);have UU:=h.r p hp;have hsep:=h.sep;have hn1:¬B.n0=B.ba:=hsep.1;have hn2:¬B.ba=B.n0:=λe=>hsep.1 e.symm;have zS:(x:Int)<(A.cs.length:Int):=ω;have Vs:(p:Int)<(A.cs.length:Int):=ω;have m1:¬x*3+1=p*3:=ω;have m2:¬x*3+1=p*3+1:=ω;have m3:¬x*3+2=p*3:=ω;have m4:¬x*3+2=p*3+1:=ω;have m5:¬p*3=x*3+1:=ω;have m6:¬p*3=x*3+2:=ω;have m7:¬p*3+1=x*3+1:=ω;have m8:¬p*3+1=x*3+2:=ω;have HM:=χ h;clear h ff hsep
 rw [hkl] at dl;have hq:((x:Int) == (x:Int))=true:=σ;have HE:=χ (Di S p x false hpx ho);rw [ho] at dr;have hlr:((-1:Int) != -1)=false:=σ;have HQ:=χ (show (S.aD p false (-1)).r x=-1/\S.u x=p from ⟨by unfold TS.aD;(have hxp:¬x=p:=λe=>hpx e.symm);simpa [hxp] using ho,hu⟩);clear ho hu hkl;generalize S.l p=slp at *
 go_enter Tryz.func204,Tryz.ntmps204
 go_upto_region 1 with (fail)
 go_quiet (fail)
 go_upto_region 2 with (fail)
 go_cut [] (λW=>aa [] (w.setCell ⟨B.ba,p*3,none⟩ (.int .i64 (-1))) W)
 case first=>
  go_region_law (fail)
  all_goals
   go_wp2
   go_meet
   first|exact ⟨rfl,rfl,rfl,Θ _,λ_ _ _=>rfl⟩|exact ν
 case rest=>
  have hW:=hcut;clear hcut;rename World=>W;have jV:=(HM.out.Ga p (-1)).ai hW;have e1:=jV.h1;have e2:=jV.r x hx;rw [HQ.out.1] at e2;have e3:=jV.u x hx;rw [zX,HQ.out.2] at e3;have e6:=jV.f (x*3+1);have e7:=jV.f (x*3+2);have eu:aa [B.ba] w W:=aa.trans β (hW.mono σ);have HW:=χ (ψ jV eu);clear jV hW eu c1 dl dr du PW PX Qs Q7 UU;go_wp2;go_end0;refine ⟨rfl,gu.ext (((HW.out.1.bH x (-1)).qc x (-1)).ai ?_) HE.out,HW.out.2.trans ?_⟩
  ·first|exact ⟨rfl,rfl,rfl,Θ _,λ_ _ _=>rfl⟩|exact ν
  ·exact β
end
section
variable {w:World} {B:PB} {F:List Nat} {gt ct:Nat} {A:NS} {st:Nat} {S:TS} {ag:List Int}
theorem QW (h:gu w B F gt ct A st S ag) (p x:Nat) (hp:p<A.cs.length) (hx:x<A.cs.length) (hpx:p≠x) (hkl:S.l p=x) (hu:S.u x=p) (o:Nat) (uj:S.r x=o) (hol:o<A.cs.length) (hop:o≠p) (hox:o≠x) :
  Calls Tryz.prog 204 #[.pointer (some ⟨B.n0,0,none⟩),.int .i64 (x:Int)] w λe w'=>e=.returned (.tuple #[])/\gu w' B F gt ct A st (jf S p false x) ag/\aa [B.ba] w w':=by
 have hA:=h.cells.ok.c1;have c1:=h.h1;have dl:=h.l p hp;have dr:=h.r x hx;have du:=h.u x hx;rw [hu] at du;have ff:=h.f;have PW:=ff (p*3);have PX:=ff (p*3+1);have Qs:=ff (x*3+1);have Q7:=ff (x*3+2);have UU:=h.r p hp;have hsep:=h.sep;have hn1:¬B.n0=B.ba:=hsep.1;have hn2:¬B.ba=B.n0:=λe=>hsep.1 e.symm;have zS:(x:Int)<(A.cs.length:Int):=ω;have Vs:(p:Int)<(A.cs.length:Int):=ω;have m1:¬x*3+1=p*3:=ω;have m2:¬x*3+1=p*3+1:=ω;have m3:¬x*3+2=p*3:=ω;have m4:¬x*3+2=p*3+1:=ω;have m5:¬p*3=x*3+1:=ω;have m6:¬p*3=x*3+2:=ω;have m7:¬p*3+1=x*3+1:=ω;have m8:¬p*3+1=x*3+2:=ω;have HM:=χ h;clear h ff hsep
 rw [hkl] at dl;have hq:((x:Int) == (x:Int))=true:=σ;have HE:=χ (ET S p x o false hpx uj);rw [uj] at dr;have CO:((o:Int) != -1)=true:=σ;have hoI:(o:Int)<(A.cs.length:Int):=ω;have YE:=HM.out.u o hol;have ff5:=HM.out.f (o*3+2);have k1:¬o*3+2=p*3:=ω;have k2:¬o*3+2=p*3+1:=ω;have k3:¬x*3+1=o*3+2:=ω;have k4:¬x*3+2=o*3+2:=ω;have k5:¬o*3+2=x*3+1:=ω;have k6:¬o*3+2=x*3+2:=ω;have HQ:=χ (show (S.aD p false (o:Int)).r x=o/\S.u x=p from ⟨by unfold TS.aD;(have hxp:¬x=p:=λe=>hpx e.symm);simpa [hxp] using uj,hu⟩);clear uj hu hkl;generalize S.l p=slp at *
 go_enter Tryz.func204,Tryz.ntmps204
 go_upto_region 1 with (fail)
 go_quiet (fail)
 go_upto_region 2 with (fail)
 go_cut [] (λW=>aa [] (w.setCell ⟨B.ba,p*3,none⟩ (.int .i64 (o:Int))) W)
 case first=>
  go_region_law (fail)
  all_goals
   go_wp2
   go_meet
   first|exact ⟨rfl,rfl,rfl,Θ _,λ_ _ _=>rfl⟩|exact ν
 case rest=>
  have hW:=hcut;clear hcut;rename World=>W;have jV:=(HM.out.Ga p (o:Int)).ai hW;have e1:=jV.h1;have e2:=jV.r x hx;rw [HQ.out.1] at e2;have e3:=jV.u x hx;rw [zX,HQ.out.2] at e3;have e4:=jV.u o hol;have e5:=jV.f (o*3+2);have e6:=jV.f (x*3+1);have e7:=jV.f (x*3+2);have eu:aa [B.ba] w W:=aa.trans β (hW.mono σ);have HW:=χ (ψ jV eu);clear jV hW eu c1 dl dr du PW PX Qs Q7 ff5 UU YE
  go_upto_region 5 with (fail)
  go_region_law (fail)
  all_goals
   go_wp2;go_end0;refine ⟨rfl,gu.ext ((((HW.out.1.qc o p).bH x (-1)).qc x (-1)).ai ?_) HE.out,HW.out.2.trans ?_⟩
   ·first|exact ⟨rfl,rfl,rfl,Θ _,λ_ _ _=>rfl⟩|exact ν
   ·exact β
end
section
variable {w:World} {B:PB} {F:List Nat} {gt ct:Nat} {A:NS} {st:Nat} {S:TS} {ag:List Int}
theorem Q5 (h:gu w B F gt ct A st S ag) (p x:Nat) (hp:p<A.cs.length) (hx:x<A.cs.length) (hpx:p≠x) (hkr:S.r p=x) (hkl:S.l p≠x) (hu:S.u x=p) (ho:S.r x=-1) :
  Calls Tryz.prog 204 #[.pointer (some ⟨B.n0,0,none⟩),.int .i64 (x:Int)] w λe w'=>e=.returned (.tuple #[])/\gu w' B F gt ct A st (jf S p true x) ag/\aa [B.ba] w w':=by
 have hA:=h.cells.ok.c1;have c1:=h.h1;have dl:=h.l p hp;have dr:=h.r x hx;have du:=h.u x hx;rw [hu] at du;have ff:=h.f;have PW:=ff (p*3);have PX:=ff (p*3+1);have Qs:=ff (x*3+1);have Q7:=ff (x*3+2);have UU:=h.r p hp;have hsep:=h.sep;have hn1:¬B.n0=B.ba:=hsep.1;have hn2:¬B.ba=B.n0:=λe=>hsep.1 e.symm;have zS:(x:Int)<(A.cs.length:Int):=ω;have Vs:(p:Int)<(A.cs.length:Int):=ω;have m1:¬x*3+1=p*3:=ω;have m2:¬x*3+1=p*3+1:=ω;have m3:¬x*3+2=p*3:=ω;have m4:¬x*3+2=p*3+1:=ω;have m5:¬p*3=x*3+1:=ω;have m6:¬p*3=x*3+2:=ω;have m7:¬p*3+1=x*3+1:=ω;have m8:¬p*3+1=x*3+2:=ω;have HM:=χ h;clear h ff hsep
 have hq:(S.l p == (x:Int))=false:=by simpa using hkl
 have HE:=χ (Di S p x true hpx ho);rw [ho] at dr;have hlr:((-1:Int) != -1)=false:=σ;have HQ:=χ (show (S.aD p true (-1)).r x=-1/\S.u x=p from ⟨by unfold TS.aD;(have hxp:¬x=p:=λe=>hpx e.symm);simpa [hxp] using ho,hu⟩);clear ho hu hkl hkr;generalize S.l p=slp at *
 go_enter Tryz.func204,Tryz.ntmps204
 go_upto_region 1 with (fail)
 go_quiet (fail)
 go_upto_region 3 with (fail)
 go_cut [] (λW=>aa [] (w.setCell ⟨B.ba,p*3+1,none⟩ (.int .i64 (-1))) W)
 case first=>
  go_region_law (fail)
  all_goals
   go_wp2
   go_meet
   first|exact ⟨rfl,rfl,rfl,Θ _,λ_ _ _=>rfl⟩|exact ν
 case rest=>
  have hW:=hcut;clear hcut;rename World=>W;have jV:=(HM.out.bH p (-1)).ai hW;have e1:=jV.h1;have e2:=jV.r x hx;rw [HQ.out.1] at e2;have e3:=jV.u x hx;rw [zX,HQ.out.2] at e3;have e6:=jV.f (x*3+1);have e7:=jV.f (x*3+2);have eu:aa [B.ba] w W:=aa.trans β (hW.mono σ);have HW:=χ (ψ jV eu);clear jV hW eu c1 dl dr du PW PX Qs Q7 UU;go_wp2;go_end0;refine ⟨rfl,gu.ext (((HW.out.1.bH x (-1)).qc x (-1)).ai ?_) HE.out,HW.out.2.trans ?_⟩
  ·first|exact ⟨rfl,rfl,rfl,Θ _,λ_ _ _=>rfl⟩|exact ν
  ·exact β
end
section
variable {w:World} {B:PB} {F:List Nat} {gt ct:Nat} {A:NS} {st:Nat} {S:TS} {ag:List Int}
theorem QL (h:gu w B F gt ct A st S ag) (p x:Nat) (hp:p<A.cs.length) (hx:x<A.cs.length) (hpx:p≠x) (hkr:S.r p=x) (hkl:S.l p≠x) (hu:S.u x=p) (o:Nat) (uj:S.r x=o) (hol:o<A.cs.length) (hop:o≠p) (hox:o≠x) :
  Calls Tryz.prog 204 #[.pointer (some ⟨B.n0,0,none⟩),.int .i64 (x:Int)] w λe w'=>e=.returned (.tuple #[])/\gu w' B F gt ct A st (jf S p true x) ag/\aa [B.ba] w w':=by
 have hA:=h.cells.ok.c1;have c1:=h.h1;have dl:=h.l p hp;have dr:=h.r x hx;have du:=h.u x hx;rw [hu] at du;have ff:=h.f;have PW:=ff (p*3);have PX:=ff (p*3+1);have Qs:=ff (x*3+1);have Q7:=ff (x*3+2);have UU:=h.r p hp;have hsep:=h.sep;have hn1:¬B.n0=B.ba:=hsep.1;have hn2:¬B.ba=B.n0:=λe=>hsep.1 e.symm;have zS:(x:Int)<(A.cs.length:Int):=ω;have Vs:(p:Int)<(A.cs.length:Int):=ω;have m1:¬x*3+1=p*3:=ω;have m2:¬x*3+1=p*3+1:=ω;have m3:¬x*3+2=p*3:=ω;have m4:¬x*3+2=p*3+1:=ω;have m5:¬p*3=x*3+1:=ω;have m6:¬p*3=x*3+2:=ω;have m7:¬p*3+1=x*3+1:=ω;have m8:¬p*3+1=x*3+2:=ω;have HM:=χ h;clear h ff hsep
 have hq:(S.l p == (x:Int))=false:=by simpa using hkl
 have HE:=χ (ET S p x o true hpx uj);rw [uj] at dr;have CO:((o:Int) != -1)=true:=σ;have hoI:(o:Int)<(A.cs.length:Int):=ω;have YE:=HM.out.u o hol;have ff5:=HM.out.f (o*3+2);have k1:¬o*3+2=p*3:=ω;have k2:¬o*3+2=p*3+1:=ω;have k3:¬x*3+1=o*3+2:=ω;have k4:¬x*3+2=o*3+2:=ω;have k5:¬o*3+2=x*3+1:=ω;have k6:¬o*3+2=x*3+2:=ω;have HQ:=χ (show (S.aD p true (o:Int)).r x=o/\S.u x=p from ⟨by unfold TS.aD;(have hxp:¬x=p:=λe=>hpx e.symm);simpa [hxp] using uj,hu⟩);clear uj hu hkl hkr;generalize S.l p=slp at *
 go_enter Tryz.func204,Tryz.ntmps204
 go_upto_region 1 with (fail)
 go_quiet (fail)
 go_upto_region 3 with (fail)
 go_cut [] (λW=>aa [] (w.setCell ⟨B.ba,p*3+1,none⟩ (.int .i64 (o:Int))) W)
 case first=>
  go_region_law (fail)
  all_goals
   go_wp2
   go_meet
   first|exact ⟨rfl,rfl,rfl,Θ _,λ_ _ _=>rfl⟩|exact ν
 case rest=>
  have hW:=hcut;clear hcut;rename World=>W;have jV:=(HM.out.bH p (o:Int)).ai hW;have e1:=jV.h1;have e2:=jV.r x hx;rw [HQ.out.1] at e2;have e3:=jV.u x hx;rw [zX,HQ.out.2] at e3;have e4:=jV.u o hol;have e5:=jV.f (o*3+2);have e6:=jV.f (x*3+1);have e7:=jV.f (x*3+2);have eu:aa [B.ba] w W:=aa.trans β (hW.mono σ);have HW:=χ (ψ jV eu);clear jV hW eu c1 dl dr du PW PX Qs Q7 ff5 UU YE
  go_upto_region 5 with (fail)
  go_region_law (fail)
  all_goals
   go_wp2;go_end0;refine ⟨rfl,gu.ext ((((HW.out.1.qc o p).bH x (-1)).qc x (-1)).ai ?_) HE.out,HW.out.2.trans ?_⟩
   ·first|exact ⟨rfl,rfl,rfl,Θ _,λ_ _ _=>rfl⟩|exact ν
   ·exact β
end
section
variable {w:World} {B:PB} {F:List Nat} {gt ct:Nat} {A:NS} {st:Nat} {S:TS} {ag:List Int}
theorem KR (h:gu w B F gt ct A st S ag) (p x:Nat) (s:Bool) (hp:p<A.cs.length) (hx:x<A.cs.length) (hpx:p≠x) (hk:S.kid s p=x) (hs:s=true->S.l p≠x) (hu:S.u x=p) (hr:S.r x=-1\/(0<=S.r x/\S.r x<A.cs.length)) (ZH:S.r x≠p) (hrx:S.r x≠x) :
  Calls Tryz.prog 204 #[.pointer (some ⟨B.n0,0,none⟩),.int .i64 (x:Int)] w λe w'=>e=.returned (.tuple #[])/\gu w' B F gt ct A st (jf S p s x) ag/\aa [B.ba] w w':=by
 cases s with
 | false=>
  by_cases ho:S.r x=-1
  ·exact Qc h p x hp hx hpx hk hu ho
  ·obtain ⟨o,uj⟩:∃o:Nat,S.r x=o:=⟨(S.r x).toNat,ω⟩;exact QW h p x hp hx hpx hk hu o uj ω (λe=>ZH (by rw [uj,e])) (λe=>hrx (by rw [uj,e]))
 | true=>
  by_cases ho:S.r x=-1
  ·exact Q5 h p x hp hx hpx hk (hs rfl) hu ho
  ·obtain ⟨o,uj⟩:∃o:Nat,S.r x=o:=⟨(S.r x).toNat,ω⟩;exact QL h p x hp hx hpx hk (hs rfl) hu o uj ω (λe=>ZH (by rw [uj,e])) (λe=>hrx (by rw [uj,e]))
end
section
variable {w:World} {B:PB} {F:List Nat} {gt ct:Nat} {A:NS} {st:Nat} {tr:Nat->BT}
theorem gu.Xi {S:TS} {ag:List Int} (h:gu w B F gt ct A st S ag):B.n0∉[B.ba,B.c,gt]/\gt∉[B.ba,B.c]:=by
 have a1:=h.sep;have a2:B.n0≠B.c:=λe=>h.bI.1 (by rw [e];exact h.cF);have a3:gt≠B.c:=λe=>h.bI.2.2 (by rw [e];exact h.cF);constructor<;>simp<;>omega
theorem Bj (h:kV w B F gt ct A st tr) (hh x:Nat) (k s:Int) (hk:-9223372036854775808<=k/\k<=9223372036854775807/\0<=s/\s<=18446744073709551615) (hB:nX A hh x=true) :
  Calls Tryz.prog 200 #[.pointer (some ⟨B.n0,0,none⟩),.int .i64 (hh:Int),.int .i64 (x:Int),.agg #[.int .i64 k,.int .u64 s]] w λe w'=>e=.returned (.bool true)/\aa (B.blk F gt) w w'/\
   ∃st',kV w' B F gt ct (aG A hh x k s) st' (λq=>if q=hh then cK (aG A hh x k s) (tr hh) (single x) else tr q):=by
 obtain ⟨S,ag,hM,hI,hL⟩:=h;have hlt:=hM.lt;have ok:=hM.cells.ok;have ok':=xn ok hh x k s hk;obtain ⟨b1,b2,b3⟩:=(dP _ _ _).1 hB;have b4:=(aA _ _).1 b1;have hx:x<A.cs.length:=by have:=(fJ _ _).1 b2;omega
 have LQ:(A.c x).i=0:=by
  have:=(ok.nat x hx).1;have h3:¬ (0<(A.c x).i):=λh'=>by rw [(ay A x).2 ⟨hx,h'⟩] at b3;cases b3
  omega
 have hcs:(aG A hh x k s).cs.length=A.cs.length:=by unfold aG;rw [Δ hB,fD]
 have iN:(aG A hh x k s).hs.length=A.hs.length:=by unfold aG;rw [Δ hB];rfl
 have hcx:∀y,(aG A hh x k s).c y=if y=x then ⟨hh,k,s⟩ else A.c y:=λy=>by
  unfold aG;rw [Δ hB,π,jA]
  by_cases e:y=x
  ·rw [Δ ⟨e,hx⟩,Δ e]
  ·rw [Γ (λh=>e h.1),Γ e]
 have sD:x∉(tr hh).nodes:=hI.out LQ;have hX:((tr hh).nodes++(single x).nodes).Nodup:=by
  rw [θ];refine ⟨hI.nd hh,by simp [single,BT.nodes],λa ha b hb e=>?_⟩;simp only [single,BT.nodes,Υ,ϒ] at hb;exact sD (by rw [←hb,←e];exact ha)
 have hin:∀y,y∈(tr hh).nodes++(single x).nodes->bR (aG A hh x k s) (y:Int)=true:=λy hy=>by
  rw [ay,hcs,hcx];simp only [single,BT.nodes,Υ,τ,ϒ] at hy
  by_cases e:y=x
  ·rw [Δ e,e];exact ⟨hx,by show (0:Int)<(hh:Int);omega⟩
  ·rw [Γ e];have:=(hI.mem hh y).1 (hy.resolve_right e);exact ⟨this.2.1,ω⟩
 have Sy:dQ (aG A hh x k s) (tr hh):=dQ.frame (hI.heap hh) (λy hy=>by rw [hcx,Γ (λe=>sD (by rw [←e];exact hy))]);have mp:=jL (aG A hh x k s) (hL hh) (show Lone (single x) from rfl);have ml:=lI (aG A hh x k s) (hL hh) (show Lone (single x) from rfl);have mh:=nQ (hL hh) (show Lone (single x) from rfl) Sy (show dQ (aG A hh x k s) (single x) from ⟨by simp [BT.nodes],trivial,trivial⟩) hX;have hfr:=hI.free x hx LQ;have hLh:=hL hh
 have FI:Hid (∀ (W:World) (S':TS) (st':Nat),gu W B F gt ct (aG A hh x k s) st' S' (ag.set hh (cK (aG A hh x k s) (tr hh) (single x)).root)->bY S' (-1) (cK (aG A hh x k s) (tr hh) (single x)).root (cK (aG A hh x k s) (tr hh) (single x))->
   (∀y,y∉(tr hh).nodes++(single x).nodes->S.at S' y)->kV W B F gt ct (aG A hh x k s) st' (λq=>if q=hh then cK (aG A hh x k s) (tr hh) (single x) else tr q)):=λW S' st' a1 a2 a4=>by
  refine ⟨S',_,a1,hI.put ok hM.iB hB a2 mp mh a4,λq=>?_⟩
  show Lone (if q=hh then _ else _)
  split
  ·exact ml
  ·exact hL q
 have Tw:=hI.zP hh;have htop:=hI.top hh ω;have hgn:hh<ag.length:=by rw [hM.iB];omega
 have u1:aa [] w (w.alloc (.cells #[.int .i64 k,.int .u64 s] 97)):=(aa.refl _ _).alloc _;have kp:=λW (hW:aa [] (w.alloc (.cells #[.int .i64 k,.int .u64 s] 97)) W)=>lS (hM.cells.ai (u1.trans hW)) hh x k s hk hB;have h0:=hM.h0;have Nj:B.n0∉F:=hM.bI.1;have hsz:w.heap.size∉F:=λhm=>by have:=hlt w.heap.size (by simp [PB.blk,hm]);omega
 have r0:∀W,aa F (w.alloc (.cells #[.int .i64 k,.int .u64 s] 97)) W->W.cell? ⟨B.n0,0,none⟩=some (.pointer (some ⟨B.c,0,none⟩)):=λW hW=>hW.kept (u1.was h0) Nj;have r1:∀W,aa F (w.alloc (.cells #[.int .i64 k,.int .u64 s] 97)) W->W.cell? ⟨w.heap.size,0,none⟩=some (.int .i64 k):=λW h=>h.kept σ hsz;have r2:∀W,aa F (w.alloc (.cells #[.int .i64 k,.int .u64 s] 97)) W->W.cell? ⟨w.heap.size,1,none⟩=some (.int .u64 s):=λW h=>h.kept σ hsz;have HM:=χ hM;have HH:=χ (ψ hX (ψ hin (ψ Tw (ψ hLh hfr))));have hA:=ok.c1;have UX:=ok.h1
 clear hM hI hL ok ok' b1 b2 b3 LQ hcx sD hX hin Sy mp mh ml hfr h0 hlt Tw hLh;generalize hA':aG A hh x k s=A' at *;generalize htr:tr hh=th at *
 go_enter Tryz.func200,Tryz.ntmps200
 go_wp2
 go_region_held3 (aa F (w.alloc (.cells #[.int .i64 k,.int .u64 s] 97))) (exact ν)
  ((go_at_call 138;(with_reducible refine (kp _ β).mono ?_);rintro e w1 ⟨rfl,gK,hu1⟩;(have hu2:aa F (w.alloc (.cells #[.int .i64 k,.int .u64 s] 97)) w1:=ν)))
 have uF:aa F w (w.alloc (.cells #[.int .i64 k,.int .u64 s] 97)):=u1.mono σ;have hM1:=HM.out.dV (uF.trans hu2) gK (λy hy=>Α hy) hcs iN;have hw1:aa F w w1:=uF.trans hu2;clear r0 r1 r2 kp hu1 hu2 gK uF;have km:=λW (hW:aa [] w1 W)=>uh (hM1.ai hW) th (single x) HH.out.2.2.1 (si HH.out.2.2.2.2) HH.out.2.2.2.1 rfl HH.out.1 HH.out.2.1;rw [show (single x).root=(x:Int) from rfl] at km;have d4:=hM1.il.cell hh hgn;rw [htop] at d4;have f4:=hM1.il.free hh;have h3:=hM1.h2;obtain ⟨uN,hgc⟩:=hM1.Xi
 have r3:∀W,aa [B.ba,B.c] w1 W->W.cell? ⟨B.n0,2,none⟩=some (.slice (some ⟨gt,0,none⟩) ag.length ct):=λW hW=>hW.kept h3 (λhm=>uN (by simp at hm ⊢;omega));have r4:∀W,aa [B.ba,B.c] w1 W->W.cell? ⟨gt,hh,none⟩=some (.int .i64 th.root)/\W.frozen? ⟨gt,hh,none⟩=false:=λW hW=>⟨hW.kept d4 hgc,hW.aM d4 hgc f4⟩
 have zi:(0:Int)<=(hh:Int):=ω;have Bd:(hh:Int)<(ag.length:Int):=ω;generalize hmt:cK A' th (single x)=mt at *;clear hM1 f4 h3 uN hgc;have q3:=r3 _ (aa.refl _ _);have q4:=(r4 _ (aa.refl _ _)).1;go_wp2
 go_region_law
  (first
   | (go_simp;go_at_call 205;(with_reducible refine (km _ β).mono ?_);rintro e w5 ⟨rfl,vS,R5,S5,xQ,Ff,hs5⟩;(have cB:aa [B.ba,B.c] w1 w5:=aa.trans β vS);obtain ⟨d5,f5⟩:=r4 _ cB;(have q5:=r3 _ cB)))
 all_goals
  go_wp2;go_ret;have om:=HM.out.cF;have v1:aa (B.blk F gt) w w1:=hw1.mono (λy hy=>by simp only [PB.blk,ρ];simp [hy])
  have v3:aa (B.blk F gt) w w5:=v1.trans (cB.mono (λy hy=>by
   simp only [ρ,ς,or_false] at hy;simp only [PB.blk,ρ];rcases hy with rfl|rfl
   ·simp
   ·simp [om]))
  subst hmt;exact ⟨rfl,v3.setCell (Α (by simp [PB.blk])) _,R5,FI.out _ S5 R5 (xQ.mD hh _) Ff hs5⟩
end
theorem qZ {P:List Fr} {t:BT} {y:Nat}:y∈(ak P t).nodes↔y∈t.nodes\/y∈dC P:=by
 rw [(aX P t).mem_iff,τ]
theorem SV {S S' YG:TS} {x:Nat} (h:S.at S' x) (h':S'.at YG x):S.at YG x:=⟨h'.1.trans h.1,h'.2.1.trans h.2.1,h'.2.2.trans h.2.2⟩
section
variable {w:World} {B:PB} {F:List Nat} {gt ct:Nat} {A:NS} {st:Nat} {S:TS} {ag:List Int}
theorem YS (h:gu w B F gt ct A st S ag) {f:Fr} {P:List Fr} {x:Nat} {l r:BT} (hT:bY S (-1) (ak (f::P) (.node x l r)).root (ak (f::P) (.node x l r))) (hn:(ak (f::P) (.node x l r)).nodes.Nodup) (hlt:∀y,y∈(ak (f::P) (.node x l r)).nodes->y<A.cs.length) :
  Calls Tryz.prog 204 #[.pointer (some ⟨B.n0,0,none⟩),.int .i64 (x:Int)] w λe w'=>e=.returned (.tuple #[])/\gu w' B F gt ct A st (jf S f.1 f.2.1 x) ag/\aa [B.ba] w w':=by
 obtain ⟨-, -, -,k1,k2,k3⟩:=EA hT hn;have h1:=((dE _ _).1 hT).1;have hpn:=(aX (f::P) (.node x l r)).nodup_iff.1 hn;rw [θ] at hpn;obtain ⟨n1,n2,n3⟩:=hpn;simp only [BT.nodes,Ζ,τ,not_or] at n1;have hfp:f.1∈dC (f::P):=by simp [dC]
 have hfx:f.1≠x:=λe=>n3 x (by simp [BT.nodes]) f.1 hfp e.symm;have hrn:∀z:Nat,S.r x=(z:Int)->z∈r.nodes:=λz hz=>by
  have h4:S.r x=r.root:=h1.2.2.2.root;rw [h4] at hz;have h6:r≠.nil:=λe'=>by rw [e'] at hz;simp [BT.root] at hz
  have h7:=(bL h6).1;rw [hz,π] at h7;exact h7
 have hr:=oK (n:=A.cs.length) h1.2.2.2 (λz hz=>hlt z (qZ.2 (Α (by simp [BT.nodes,hz]))));exact KR h f.1 x f.2.1 (hlt _ (qZ.2 (Β hfp))) (hlt _ (qZ.2 (Α (by simp [BT.nodes])))) hfx k1 k2 k3 hr (λe=>n3 f.1 (by simp [BT.nodes,hrn _ e]) f.1 hfp rfl) (λe=>n1.1.2 (hrn _ e))
end
end Go.Proofs.YtnpdakpagnpanaaGreat
namespace Go.Proofs.YtnpdakpagnpanaaGreat
theorem AQ (A:NS):∀ (l:List BT),(∀t,t∈l->dQ A t/\Lone t)->(fG l).Nodup->∀t,t∈bP A l->dQ A t/\Lone t
 | [],_,_,t,ht=>by cases ht
 | [a],h,_,t,ht=>h t ht
 | a::b::l,h,hn,t,ht=>by
  rw [bE,bE,←ϋ,θ] at hn;have ha:=h a σ;have hb:=h b σ;rcases ρ.1 (show t∈cK A a b::bP A l from ht) with e|e
  ·subst e;exact ⟨nQ ha.2 hb.2 ha.1 hb.1 hn.1,lI A ha.2 hb.2⟩
  ·exact AQ A l (λu hu=>h u (by simp [hu])) hn.2.1 t e
theorem zT (A:NS):∀ (l:List BT),(∀t,t∈l->dQ A t/\Lone t)->(fG l).Nodup->dQ A (fe A l)
 | [],_,_=>trivial
 | a::l,h,hn=>by
  have ha:=h a σ;have hp:=vM A l (λt ht=>(h t (by simp [ht])).2);have ih:=zT A l (λu hu=>h u (by simp [hu])) (by rw [bE,θ] at hn;exact hn.2.1);exact nQ ha.2 hp.2 ha.1 ih ((hp.1.append_left a.nodes).nodup_iff.2 hn)
theorem wu {A:NS} {l:BT} (h:dQ A l) (hn:l.nodes.Nodup):(fe A (bP A (bB l))).nodes.Perm l.nodes/\Lone (fe A (bP A (bB l)))/\dQ A (fe A (bP A (bB l))):=by
 have hk:=Ah h;have hkn:=(iD l).nodup_iff.2 hn;have h2:=AQ A _ hk hkn;have p2:=zG A (bB l) (λt ht=>(hk t ht).2);have p3:=vM A (bP A (bB l)) (λt ht=>(h2 t ht).2);exact ⟨(p3.1.trans p2).trans (iD l),p3.2,zT A _ h2 (p2.nodup_iff.2 hkn)⟩
theorem zH {n:Nat} {l:List Nat} (hn:l.Nodup) (h:∀x,x∈l->x<n):l.length<=n:=by
 induction n generalizing l with
 | zero=>
  cases l with
  | nil=>simp
  | cons a l=>exact absurd (h a σ) ω
 | succ n ih=>
  by_cases hm:n∈l
  ·have h1:=ih (l:=l.erase n) (hn.erase n) (λx hx=>by
    have h2:=(hn.mem_erase_iff).1 hx;have:=h x h2.2
    omega)
   rw [List.length_erase_of_mem hm] at h1;omega
  ·have:=ih hn (λx hx=>by
    have h1:=h x hx;have h2:x≠n:=λe=>hm (by rw [←e];exact hx)
    omega)
   omega
end Go.Proofs.YtnpdakpagnpanaaGreat
namespace Go.Proofs.YtnpdakpagnpanaaGreat
open Go Go.RowKit
section
variable {w:World} {B:PB} {F:List Nat} {gt ct:Nat} {A:NS} {st:Nat} {S:TS} {ag:List Int}
theorem KX (hM:gu w B F gt ct A st S ag) {g x:Nat} {l:BT} (hg:(A.c x).i=g) (hg0:0<g) (hgt:g<ag.length) (htop:ag.getD g 0=x) (hT:bY S (-1) x (.node x l .nil)) (hn:(BT.node x l .nil).nodes.Nodup) (hall:∀y,y∈(BT.node x l .nil).nodes->bR A (y:Int)=true) :
  Calls Tryz.prog 198 #[.pointer (some ⟨B.n0,0,none⟩),.int .i64 (x:Int)] w λe w'=>e=.returned (.bool true)/\aa (B.blk F gt) w w'/\∃st' S',gu w' B F gt ct (aU A x) st' S' (ag.set g (fe A (bP A (bB l))).root)/\bY S' (-1) (fe A (bP A (bB l))).root (fe A (bP A (bB l)))/\(S'.l x=-1/\S'.r x=-1/\S'.u x=-1)/\∀y,y∉(BT.node x l .nil).nodes->S.at S' y:=by
 have hin:bR A (x:Int)=true:=hall x (by simp [BT.nodes]);have hn':(x::l.nodes).Nodup:=by simpa [BT.nodes] using hn
 have hl':∀z,z∈l.nodes->bR A (z:Int)=true:=λz hz=>hall z (by simp [BT.nodes,hz]);have hsz:l.size<=65536:=by
  rw [←BT.jR];have:=zH (n:=A.cs.length) (Ζ.1 hn').2 (λy hy=>((ay _ _).1 (hl' y hy)).1);have:=hM.cells.ok.c1;omega
 have kh:=ic hM.cells x hin;rw [hg] at kh;have h0:=hM.h0;have HM:=χ hM;have HT:=χ (ψ hT (ψ hn' (ψ hl' (ψ hsz hin))));have R6:=χ htop;have UX:=hM.cells.ok.h1;have htn:ag.length=A.hs.length:=hM.iB;have VV:(g:Int)<(ag.length:Int):=ω;have hA:=hM.cells.ok.c1;have hxl:x<A.cs.length:=((ay _ _).1 hin).1;clear hM hT hn hn' hl' hsz hin hall htop htn hg;generalize hR:fe A (bP A (bB l))=R at *;have NM:((x:Int) == (x:Int))=true:=σ
 go_enter Tryz.func198,Tryz.ntmps198
 go_wp2_with (first
  | ((go_at_call 124;(with_reducible refine (kh).mono ?_));rintro e w1 ⟨rfl,gK,hu1⟩;(have hM1:=HM.out.dV hu1 gK (λy hy=>Α hy) rfl rfl);(have g21:=hM1.h2);(have g22:=hM1.il.cell g hgt);rw [R6.out] at g22)
  | fail)
 have ks:=λW (hW:aa [] w1 W)=>xN (hM1.ai hW) x HT.out.2.2.2.2 l HT.out.1.2.2.1 HT.out.2.1 HT.out.2.2.1 HT.out.2.2.2.1;rw [hR] at ks;have f4:=hM1.il.free g;have hnn:B.n0∉B.ba::F/\gt∉B.ba::F:=by
  have a1:=hM1.sep;have a2:=hM1.bI;exact ⟨by simp only [ρ,not_or];exact ⟨a1.1,a2.1⟩,by simp only [ρ,not_or];exact ⟨λe=>a1.2.2 e.symm,a2.2.2⟩⟩
 obtain ⟨Nq,yE⟩:=hnn;have HS1:=χ hM1.sep;have h3:=hM1.h2;have h00:=hM1.h0;have r3:∀W,aa (B.ba::F) w1 W->W.cell? ⟨B.n0,2,none⟩=some (.slice (some ⟨gt,0,none⟩) ag.length ct):=λW hW=>hW.kept h3 Nq;have r4:∀W,aa (B.ba::F) w1 W->W.cell? ⟨gt,g,none⟩=some (.int .i64 (x:Int))/\W.frozen? ⟨gt,g,none⟩=false:=λW hW=>⟨hW.kept g22 yE,hW.aM g22 yE f4⟩
 have zi:(0:Int)<=(g:Int):=ω;have u01:aa (B.blk F gt) w w1:=hu1.mono (λy hy=>by simp only [PB.blk,ρ];simp [hy]);have HU:=χ u01;clear hM1 f4 h3 Nq yE gK hu1 kh u01;have q3:=r3 _ (aa.refl _ _);have q4:=(r4 _ (aa.refl _ _)).1
 go_upto_region 5 with (fail)
 go_region_law
  (first
   | (go_simp;go_at_call 206;(with_reducible refine (ks _ β).mono ?_);rintro e w5 ⟨rfl,vS,R5,S5,xQ,Ff,hl5,Fe,P5,hs5⟩;(have cB:aa (B.ba::F) w1 w5:=aa.trans β vS);obtain ⟨d5,f5⟩:=r4 _ cB;(have q5:=r3 _ cB)))
 all_goals
  have rV:=xQ.mD g R.root;have kd:=fO rV.cells x HT.out.2.2.2.2;have h06:=rV.h0
  go_wp2_with (first
   | ((go_at_call 134;(with_reducible refine (kd).mono ?_));rintro e w7 ⟨rfl,YH,ny⟩)
   | fail)
  go_ret;have hbn:∀y,y∉(BT.node x l .nil).nodes->y∉x::l.nodes:=λy hy hm=>hy (by simpa [BT.nodes] using hm);have v5:aa (B.blk F gt) w w5:=HU.out.trans (cB.mono (λy hy=>by simp only [PB.blk,ρ] at hy ⊢;rcases hy with h|h<;>simp [h]));refine ⟨rfl,(v5.setCell (Α (by simp [PB.blk])) _).trans (ny.mono (λy hy=>by simp only [PB.blk,ρ];simp [hy])),R5,S5,rV.dV ny YH (λy hy=>Α hy) (dK _ _) (by rw [gM]),Ff,⟨hl5,?_,?_⟩,λy hy=>hs5 y (hbn y hy)⟩
  ·rw [Fe];exact HT.out.1.2.2.2
  ·rw [P5];exact HT.out.1.2.1
theorem NG (hM:gu w B F gt ct A st S ag) {g x:Nat} {f:Fr} {P:List Fr} {l r:BT} (hg:(A.c x).i=g) (hg0:0<g) (hgt:g<ag.length) (htop:ag.getD g 0=(ak (f::P) (.node x l r)).root) (hT:bY S (-1) (ak (f::P) (.node x l r)).root (ak (f::P) (.node x l r))) (hn:(ak (f::P) (.node x l r)).nodes.Nodup)
  (hL:Lone (ak (f::P) (.node x l r))) (hH:dQ A (ak (f::P) (.node x l r))) (hall:∀y,y∈(ak (f::P) (.node x l r)).nodes->bR A (y:Int)=true) :
  Calls Tryz.prog 198 #[.pointer (some ⟨B.n0,0,none⟩),.int .i64 (x:Int)] w λe w'=>e=.returned (.bool true)/\aa (B.blk F gt) w w'/\∃st' S',gu w' B F gt ct (aU A x) st' S' (ag.set g (cK A (ak (f::P) r) (fe A (bP A (bB l)))).root)/\bY S' (-1) (cK A (ak (f::P) r) (fe A (bP A (bB l)))).root (cK A (ak (f::P) r) (fe A (bP A (bB l))))/\(S'.l x=-1/\S'.r x=-1/\S'.u x=-1)/\∀y,y∉(ak (f::P) (.node x l r)).nodes->S.at S' y:=by
 have hin:bR A (x:Int)=true:=hall x (qZ.2 (Α (by simp [BT.nodes])));obtain ⟨o1,o2,o3, -⟩:=EA hT hn;obtain ⟨Z6, -⟩:=ER (P:=f::P) hH;have hpm:=Ea (f::P) x l r;have Cu:((ak (f::P) r).nodes++(BT.node x l .nil).nodes).Nodup:=yE (hpm.nodup_iff.1 hn);have XH:∀y,y∈(ak (f::P) r).nodes++(BT.node x l .nil).nodes->y∈(ak (f::P) (.node x l r)).nodes:=λy hy=>by
  rw [hpm.mem_iff,τ];rw [τ] at hy;exact hy.symm
 have We:Lone (ak (f::P) r):=vE (t:=.node x l r) σ hL;have hrt:(ak (f::P) (.node x l r)).root=(ak (f::P) r).root:=oU _ _ _ _;have hroot:(ak (f::P) r).root≠(x:Int):=λe=>by
  have h6:ak (f::P) r≠.nil:=λe'=>by rw [e'] at e;simp [BT.root] at e
  have h7:=(bL h6).1;rw [e,π] at h7;rw [θ] at Cu;exact Cu.2.2 x h7 x (by simp [BT.nodes]) rfl
 rw [hrt] at htop;have hn':(x::l.nodes).Nodup:=by
  rw [θ] at Cu;simpa [BT.nodes] using Cu.2.1
 have hl':∀z,z∈l.nodes->bR A (z:Int)=true:=λz hz=>hall z (XH z (by simp [BT.nodes,hz]));have hsz:l.size<=65536:=by
  rw [←BT.jR];have:=zH (n:=A.cs.length) (Ζ.1 hn').2 (λy hy=>((ay _ _).1 (hl' y hy)).1);have:=hM.cells.ok.c1;omega
 obtain ⟨t1,t2,t3⟩:=wu Z6.2.1 (Ζ.1 hn').2;have ZB:((ak (f::P) r).nodes++(fe A (bP A (bB l))).nodes).Nodup:=by
  have h1:((ak (f::P) r).nodes++l.nodes).Nodup:=by
   rw [θ] at Cu ⊢;exact ⟨Cu.1,(Ζ.1 hn').2,λa ha b hb=>Cu.2.2 a ha b (by simp [BT.nodes,hb])⟩
  exact (t1.append_left _).nodup_iff.2 h1
 have Xz:∀y,y∈(ak (f::P) r).nodes++(fe A (bP A (bB l))).nodes->y∈(ak (f::P) (.node x l r)).nodes/\y≠x:=λy hy=>by
  rw [τ,t1.mem_iff] at hy;refine ⟨XH y (by simp only [τ,BT.nodes,Υ,ρ];rcases hy with h|h<;>simp [h]),λe=>?_⟩;subst e;rw [θ] at Cu;rcases hy with h|h
  ·exact Cu.2.2 y h y (by simp [BT.nodes]) rfl
  ·exact (Ζ.1 hn').1 h
 have hra:∀y,y∈(ak (f::P) r).nodes->y∉x::l.nodes:=λy hy hm=>by
  rw [θ] at Cu;exact Cu.2.2 y hy y (by simpa [BT.nodes] using hm) rfl
 have hsub:∀y,y∈x::l.nodes->y∈(ak (f::P) (.node x l r)).nodes:=λy hy=>XH y (by rw [τ];right;simpa [BT.nodes] using hy);have ko:=λ(w1:World) (hM1:gu w1 B F gt ct A st S ag)=>YS hM1 hT hn (λy hy=>((ay _ _).1 (hall y hy)).1);have kh:=ic hM.cells x hin;rw [hg] at kh;have h0:=hM.h0;have HM:=χ hM;have HT:=χ (ψ o1 (ψ o2 (ψ o3 (ψ hn' (ψ hl' (ψ hsz hin))))));have HX:=χ (ψ ZB (ψ Xz (ψ We (ψ t2 (ψ hra (ψ hsub hall))))));have R6:=χ htop;have UX:=hM.cells.ok.h1;have htn:ag.length=A.hs.length:=hM.iB;have VV:(g:Int)<(ag.length:Int):=ω;have hA:=hM.cells.ok.c1
 have hxl:x<A.cs.length:=((ay _ _).1 hin).1;have hr0:(ak (f::P) r).root=-1\/0<=(ak (f::P) r).root:=by
  have:=oK (n:=A.cs.length) o2 (λz hz=>((ay _ _).1 (hall z (XH z (by simp [hz])))).1);omega
 clear hM hT hn hn' hl' hsz hin hall htop htn hg o1 o2 o3 Z6 hpm Cu XH We hrt t1 t2 t3 ZB Xz hra hsub hL hH;generalize hR:fe A (bP A (bB l))=R at *;generalize yX:ak (f::P) r=ta at *;have NM:(ta.root == (x:Int))=false:=by simpa using hroot
 go_enter Tryz.func198,Tryz.ntmps198
 go_wp2_with (first
  | ((go_at_call 124;(with_reducible refine (kh).mono ?_));rintro e w1 ⟨rfl,gK,hu1⟩;(have hM1:=HM.out.dV hu1 gK (λy hy=>Α hy) rfl rfl);(have g21:=hM1.h2);(have g22:=hM1.il.cell g hgt);rw [R6.out] at g22;(have ko1:=ko w1 hM1))
  | ((go_at_call 204;(with_reducible refine (ko1).mono ?_));rintro e w3 ⟨rfl,lq,hu3⟩)
  | fail)
 have ks:=λW (hW:aa [] w3 W)=>xN (lq.ai hW) x HT.out.2.2.2.2.2.2 l HT.out.1.2.2.1 HT.out.2.2.2.1 HT.out.2.2.2.2.1 HT.out.2.2.2.2.2.1;rw [hR] at ks;have kl:Hid (∀W Sr S4,gu W B F gt ct A Sr S4 ag->bY S4 (-1) R.root R->(∀z,z∉x::l.nodes->(jf S f.1 f.2.1 x).at S4 z)->_):=λW Sr S4 xg PT hs4=>uh xg ta R (HT.out.2.1.frame (λy hy=>hs4 y (HX.out.2.2.2.2.1 y hy))) PT HX.out.2.2.1 HX.out.2.2.2.1 HX.out.1 (λy hy=>HX.out.2.2.2.2.2.2 y (HX.out.2.1 y hy).1);have d4:=lq.il.cell g hgt;rw [R6.out] at d4;have f4:=lq.il.free g;have hnn:B.n0∉B.ba::F/\gt∉B.ba::F:=by
  have a1:=lq.sep;have a2:=lq.bI;exact ⟨by simp only [ρ,not_or];exact ⟨a1.1,a2.1⟩,by simp only [ρ,not_or];exact ⟨λe=>a1.2.2 e.symm,a2.2.2⟩⟩
 obtain ⟨Nq,yE⟩:=hnn;have HS1:=χ lq.sep;have om:=lq.cF;have h3:=lq.h2;have r3:∀W,aa (B.ba::F) w3 W->W.cell? ⟨B.n0,2,none⟩=some (.slice (some ⟨gt,0,none⟩) ag.length ct):=λW hW=>hW.kept h3 Nq;have r4:∀W,aa (B.ba::F) w3 W->W.cell? ⟨gt,g,none⟩=some (.int .i64 ta.root)/\W.frozen? ⟨gt,g,none⟩=false:=λW hW=>⟨hW.kept d4 yE,hW.aM d4 yE f4⟩
 have zi:(0:Int)<=(g:Int):=ω;have u01:aa (B.blk F gt) w w1:=hu1.mono (λy hy=>by simp only [PB.blk,ρ];simp [hy]);have HU:=χ (u01.trans (hu3.mono (λy hy=>by simp at hy;simp [PB.blk,hy])));clear hM1 lq f4 h3 Nq yE gK hu1 kh u01 hu3 ko ko1 g21 g22;have q3:=r3 _ (aa.refl _ _);have q4:=(r4 _ (aa.refl _ _)).1;generalize hmt:cK A ta R=mt at *
 go_upto_region 8 with (fail)
 go_region_law
  (first
   | (go_simp;go_at_call 206;(with_reducible refine (ks _ β).mono ?_);rintro e w5 ⟨rfl,vS,R5,S5,xQ,Ff,hl5,Fe,P5,hs5⟩;(have cB:aa (B.ba::F) w3 w5:=aa.trans β vS);obtain ⟨d5,f5⟩:=r4 _ cB;(have q5:=r3 _ cB);(have km:=λW (hW:aa [] w5 W)=>kl W R5 S5 (xQ.ai hW) Ff hs5))
   | (go_simp;go_at_call 205;(with_reducible refine (km _ β).mono ?_);rintro e w6 ⟨rfl,hu6a,st6,S6,rV,Lc,hs6⟩;(have hu6b:aa [B.ba,B.c] w5 w6:=aa.trans β hu6a);(have jy:aa (B.ba::F) w3 w6:=cB.trans (hu6b.mono (λy hy=>by simp at hy;rcases hy with h|h<;>simp [h,om])));obtain ⟨d6,f6⟩:=r4 _ jy;(have q6:=r3 _ jy)))
 all_goals
  subst hmt;have E9:=rV.mD g (cK A ta R).root;have kd:=fO E9.cells x HT.out.2.2.2.2.2.2;have h06:=E9.h0
  go_wp2_with (first
   | ((go_at_call 134;(with_reducible refine (kd).mono ?_));rintro e w8 ⟨rfl,hC8,AV⟩)
   | fail)
  go_ret;have hxa:x∉ta.nodes++R.nodes:=λhm=>(HX.out.2.1 x hm).2 rfl;have a6:=hs6 x hxa;have v5:aa (B.blk F gt) w w6:=HU.out.trans (jy.mono (λy hy=>by simp only [PB.blk,ρ] at hy ⊢;rcases hy with h|h<;>simp [h]));refine ⟨rfl,(v5.setCell (Α (by simp [PB.blk])) _).trans (AV.mono (λy hy=>by simp only [PB.blk,ρ];simp [hy])),st6,S6,E9.dV AV hC8 (λy hy=>Α hy) (dK _ _) (by rw [gM]),Lc,⟨?_,?_,?_⟩,λy hy=>?_⟩
  ·rw [a6.1];exact hl5
  ·rw [a6.2.1,Fe];exact HT.out.1.2.2.2
  ·rw [a6.2.2,P5];exact HT.out.1.2.1
  ·exact SV (SV (HT.out.2.2.1 y hy) (hs5 y (λhm=>hy (HX.out.2.2.2.2.2.1 y hm)))) (hs6 y (λhm=>hy (HX.out.2.1 y hm).1))
end
section
variable {w:World} {B:PB} {F:List Nat} {gt ct:Nat} {A:NS} {st:Nat} {tr:Nat->BT}
theorem Hr {ag:List Int} {g:Nat} {v:Int} (hgt:g<ag.length):∀q,(ag.set g v).getD q 0=if q=g then v else ag.getD q 0:=λq=>by
 by_cases e:q=g
 ·rw [Δ e,e,φ,ύ,Δ rfl,Δ hgt];rfl
 ·rw [Γ e,φ,ύ,Γ (λh=>e h.symm),←φ]
theorem Kz (h:kV w B F gt ct A st tr) (g x:Nat) (hx:x∈(tr g).nodes) :
  Calls Tryz.prog 198 #[.pointer (some ⟨B.n0,0,none⟩),.int .i64 (x:Int)] w λe w'=>e=.returned (.bool true)/\aa (B.blk F gt) w w'/\∃st' KS,kV w' B F gt ct (aU A x) st' KS:=by
 obtain ⟨S,ag,hM,hI,hL⟩:=h;have hm:=(hI.mem g x).1 hx;have e:=wy hx;generalize (pathOf (tr g) x).1=P at *;generalize (pathOf (tr g) x).2.1=l at *;generalize (pathOf (tr g) x).2.2=r at *;have hgt:g<ag.length:=by rw [hM.iB];have:=(hM.cells.ok.nat x hm.2.1);omega
 have hgh:g<A.hs.length:=by rw [←hM.iB];exact hgt
 have hT:=hI.zP g;have hn:=hI.nd g;have hH:dQ A (tr g):=hI.heap g;have Ue:=hL g;have htp:=hI.top g hgh;have hall:∀y,y∈(tr g).nodes->bR A (y:Int)=true:=λy hy=>by
  have:=(hI.mem g y).1 hy;exact (ay A y).2 ⟨this.2.1,ω⟩
 rw [e] at hT hn hH Ue htp hall;cases P with
 | nil=>
  have hr:r=.nil:=Ue;subst hr;have e2:tr g=.node x l .nil:=e;refine (KX hM hm.2.2 hm.1 hgt htp hT hn hall).mono ?_;rintro e' w' ⟨rfl,hu,st',S',q1,q2,q3,q4⟩;have hn':(x::l.nodes).Nodup:=by
   have h9:(BT.node x l .nil).nodes.Nodup:=hn;simpa [BT.nodes] using h9
  have hH':dQ A (.node x l .nil):=hH;obtain ⟨t1,t2,t3⟩:=wu hH'.2.1 (Ζ.1 hn').2;have hp:(x::(fe A (bP A (bB l))).nodes).Perm (tr g).nodes:=by
   rw [e2];simp only [BT.nodes,Υ];exact List.Perm.cons x t1
  have h2:=hI.del hx (t':=fe A (bP A (bB l))) (kE:=ag.set g (fe A (bP A (bB l))).root) q2 hp t3 (λy hy=>q4 y (by rw [←e2];exact hy)) q3 (λq _=>Hr hgt q);refine ⟨rfl,hu,st',_,S',_,q1,h2,λq=>?_⟩
  show Lone (if q=g then _ else tr q)
  split
  ·exact t2
  ·exact hL q
 | cons f P2=>
  refine (NG hM hm.2.2 hm.1 hgt htp hT hn Ue hH hall).mono ?_;rintro e' w' ⟨rfl,hu,st',S',q1,q2,q3,q4⟩;have hpm:=Ea (f::P2) x l r;obtain ⟨Z6,oh2⟩:=ER (P:=f::P2) hH;have Cu:((ak (f::P2) r).nodes++(BT.node x l .nil).nodes).Nodup:=yE (hpm.nodup_iff.1 hn);have We:Lone (ak (f::P2) r):=vE (t:=.node x l r) σ Ue;have hn':(x::l.nodes).Nodup:=by
   rw [θ] at Cu;simpa [BT.nodes] using Cu.2.1
  obtain ⟨t1,t2,t3⟩:=wu Z6.2.1 (Ζ.1 hn').2;have ZB:((ak (f::P2) r).nodes++(fe A (bP A (bB l))).nodes).Nodup:=by
   have h1:((ak (f::P2) r).nodes++l.nodes).Nodup:=by
    rw [θ] at Cu ⊢;exact ⟨Cu.1,(Ζ.1 hn').2,λa ha b hb=>Cu.2.2 a ha b (by simp [BT.nodes,hb])⟩
   exact (t1.append_left _).nodup_iff.2 h1
  have hp:(x::(cK A (ak (f::P2) r) (fe A (bP A (bB l)))).nodes).Perm (tr g).nodes:=by
   rw [e];refine ((jL A We t2).cons x).trans ?_;refine ((t1.append_left _).cons x).trans ?_;refine ϝ ?_ hpm.symm;simp only [BT.nodes,Υ,List.cons_append];exact List.perm_append_comm.cons x
  have h2:=hI.del hx (t':=cK A (ak (f::P2) r) (fe A (bP A (bB l)))) (kE:=ag.set g (cK A (ak (f::P2) r) (fe A (bP A (bB l)))).root) q2 hp (nQ We t2 oh2 t3 ZB) (λy hy=>q4 y (by rw [←e];exact hy)) q3 (λq _=>Hr hgt q);refine ⟨rfl,hu,st',_,S',_,q1,h2,λq=>?_⟩
  show Lone (if q=g then _ else tr q)
  split
  ·exact lI _ We t2
  ·exact hL q
theorem yM (h:kV w B F gt ct A st tr) (g:Nat) (hn:0<bU A g) :
  Calls Tryz.prog 199 #[.pointer (some ⟨B.n0,0,none⟩),.int .i64 (g:Int)] w λe w'=>∃m:Nat,dM A g=some m/\e=.returned (.tuple #[.int .i64 (m:Int),.bool true])/\aa (B.blk F gt) w w'/\∃st' KS,kV w' B F gt ct (aU A m) st' KS:=by
 have k:=yA h g hn;have kd:=λm hm=>Kz h g m hm;have hroot:∀m:Nat,(tr g).root=m->m∈(tr g).nodes:=λm hm=>by
  have hne:tr g≠.nil:=λe=>by rw [e] at hm;have:(-1:Int)=m:=hm;omega
  have:=(bL hne).1;rw [hm] at this;simpa using this
 clear h
 go_enter Tryz.func199,Tryz.ntmps199
 go_wp2_with (first
  | ((go_at_call 203;(with_reducible refine (k).mono ?_));rintro e w1 ⟨m,hm1,hm2,rfl,rfl⟩;(have Yg:=kd m (hroot m hm2)))
  | ((go_at_call 198;(with_reducible refine (Yg).mono ?_));rintro e w2 ⟨rfl,hu2,hL2⟩)
  | fail)
 go_ret2;exact ⟨m,hm1,rfl,hu2,hL2⟩
end
theorem Gb (p c:Nat):∀W:World,W.cell? ⟨p,0,none⟩=some (.pointer (some ⟨c,0,none⟩))->(method 409 130 (.pointer (some ⟨p,0,none⟩)) "Has").run Tryz.prog W=.ok (123,.pointer (some ⟨c,0,none⟩)) W:=(by intro W h;unfold method;have hm:∃m,(Array.find? (λx=>x.name == "Has") Tryz.t130.methods)=some m/\m.path.toList=[⟨188,0,true⟩]/\m.func=some (123,true)/\m.path.isEmpty=false:=⟨(Array.find? (λx=>x.name == "Has") Tryz.t130.methods).get!,by kernel_rfl,by kernel_rfl,by kernel_rfl,by kernel_rfl⟩;obtain ⟨m,h1,h2,h3,h4⟩:=hm;go_simp;simp only [follow,Place.get];go_simp;(try unfold receiverAt);(try simp only [Place.get]);(try go_simp))
theorem Ci (p c:Nat):∀W:World,W.cell? ⟨p,0,none⟩=some (.pointer (some ⟨c,0,none⟩))->(method 409 130 (.pointer (some ⟨p,0,none⟩)) "Entry").run Tryz.prog W=.ok (121,.pointer (some ⟨c,0,none⟩)) W:=(by intro W h;unfold method;have hm:∃m,(Array.find? (λx=>x.name == "Entry") Tryz.t130.methods)=some m/\m.path.toList=[⟨188,0,true⟩]/\m.func=some (121,true)/\m.path.isEmpty=false:=⟨(Array.find? (λx=>x.name == "Entry") Tryz.t130.methods).get!,by kernel_rfl,by kernel_rfl,by kernel_rfl,by kernel_rfl⟩;obtain ⟨m,h1,h2,h3,h4⟩:=hm;go_simp;simp only [follow,Place.get];go_simp;(try unfold receiverAt);(try simp only [Place.get]);(try go_simp))
theorem QE (p:Nat):∀W:World,(method 409 130 (.pointer (some ⟨p,0,none⟩)) "Make").run Tryz.prog W=.ok (201,.pointer (some ⟨p,0,none⟩)) W:=λ_=>by kernel_rfl
theorem Kr (p:Nat):∀W:World,(method 409 130 (.pointer (some ⟨p,0,none⟩)) "Insert").run Tryz.prog W=.ok (200,.pointer (some ⟨p,0,none⟩)) W:=λ_=>by kernel_rfl
theorem Uk (p:Nat):∀W:World,(method 409 130 (.pointer (some ⟨p,0,none⟩)) "Min").run Tryz.prog W=.ok (203,.pointer (some ⟨p,0,none⟩)) W:=λ_=>by kernel_rfl
theorem Fj (p:Nat):∀W:World,(method 409 130 (.pointer (some ⟨p,0,none⟩)) "Extract").run Tryz.prog W=.ok (199,.pointer (some ⟨p,0,none⟩)) W:=λ_=>by kernel_rfl
def PaQ (w:World) (p:Nat) (F:List Nat) (A:NS):Prop:=∃B F1 gt ct st tr,p=B.n0/\F=B.blk F1 gt/\kV w B F1 gt ct A st tr
def tJ:NestQ where
 ty:=130
 at_:=PaQ
 upd:=λh hu hS=>by
  obtain ⟨B,F1,gt,ct,st,tr,rfl,rfl,hL⟩:=h;exact ⟨B,F1,gt,ct,st,tr,rfl,rfl,hL.upd hu hS⟩
 lt:=λh=>by
  obtain ⟨B,F1,gt,ct,st,tr,rfl,rfl,S,ag,hM, -⟩:=h;exact hM.lt
 ok:=λh=>by
  obtain ⟨B,F1,gt,ct,st,tr,rfl,rfl,S,ag,hM, -⟩:=h;exact hM.cells.ok
 make:=λ{w p F A} h=>by
  obtain ⟨B,F1,gt,ct,st,tr,rfl,rfl,hL⟩:=h;refine aP 201 (λ_ _=>by kernel_rfl) (QE _) (λW hW=>?_);have mg:=hL.ai hW
  by_cases hl:65536<A.hs.length
  ·have e1:bW A=0:=by unfold bW;rw [Δ hl]
   have e2:aI A=A:=by unfold aI;rw [Δ hl]
   rw [e1,e2];refine (KT mg hl).mono ?_;rintro e w' ⟨rfl,F',⟨F2,rfl,hA⟩,hu,hf⟩;exact ⟨rfl,_,⟨B,F2,gt,ct,st,tr,rfl,rfl,hA⟩,hu,hf⟩
  ·have e1:bW A=A.hs.length:=by unfold bW;rw [Γ hl]
   rw [e1];refine (GG mg hl).mono ?_;rintro e w' ⟨rfl,F',⟨F2,gt2,ct2,rfl,hA⟩,hu,hf⟩;exact ⟨rfl,_,⟨B,F2,gt2,ct2,st,tr,rfl,rfl,hA⟩,hu,hf⟩
 insert:=λ{w p F A} g y k s hk hB h=>by
  obtain ⟨B,F1,gt,ct,st,tr,rfl,rfl,hL⟩:=h;refine aP 200 (λ_ _=>by kernel_rfl) (Kr _) (λW hW=>?_);refine (Bj (hL.ai hW) g y k s hk hB).mono ?_;rintro e w' ⟨rfl,hu,st',hL2⟩;exact ⟨rfl,Goes.stay ⟨B,F1,gt,ct,_,_,rfl,rfl,hL2⟩ hu⟩
 min:=λ{w p F A} y hB h=>by
  obtain ⟨B,F1,gt,ct,st,tr,rfl,rfl,hL⟩:=h;refine aP 203 (λ_ _=>by kernel_rfl) (Uk _) (λW hW=>?_);have mg:=hL.ai hW;have hok:A.Ok:=by obtain ⟨S,ag,hM, -⟩:=hL;exact hM.cells.ok
  by_cases hl:bU A (y:Int)=0
  ·rw [gI.2 hl];have h4:=(aA _ _).1 hB;have h5:=hok.h1;refine (Fz mg y ω hl).mono ?_;rintro e w' ⟨rfl,rfl⟩;exact ⟨rfl,Goes.stay ⟨B,F1,gt,ct,st,tr,rfl,rfl,mg⟩ (aa.refl _ _)⟩
  ·refine (yA mg y ω).mono ?_;rintro e w' ⟨m,hm, -,rfl,rfl⟩;rw [hm];exact ⟨rfl,Goes.stay ⟨B,F1,gt,ct,st,tr,rfl,rfl,mg⟩ (aa.refl _ _)⟩
 extract:=λ{w p F A} y m hm h=>by
  obtain ⟨B,F1,gt,ct,st,tr,rfl,rfl,hL⟩:=h;refine aP 199 (λ_ _=>by kernel_rfl) (Fj _) (λW hW=>?_);have hl:¬bU A (y:Int)=0:=λe=>by rw [gI.2 e] at hm;cases hm
  refine (yM (hL.ai hW) y ω).mono ?_;rintro e w' ⟨m',hm',rfl,hu,st',KS,hL2⟩;rw [hm] at hm';cases hm';exact ⟨rfl,Goes.stay ⟨B,F1,gt,ct,_,_,rfl,rfl,hL2⟩ hu⟩
 has:=λx h=>by
  obtain ⟨B,F1,gt,ct,st,tr,rfl,rfl,S,ag,hM, -⟩:=h;exact gN 123 (λ_ _=>by kernel_rfl) hM.h0 (Gb _ _) (λW hW=>iM (hM.ai hW).cells x)
 entry:=λ{w p F A} x h=>by
  obtain ⟨B,F1,gt,ct,st,tr,rfl,rfl,S,ag,hM, -⟩:=h;refine gN 121 (λ_ _=>by kernel_rfl) hM.h0 (Ci _ _) (λW hW=>?_);cases hin:bR A x with
  | false=>simpa using jP (hM.ai hW).cells x hin
  | true=>
   obtain ⟨y,rfl⟩:=oW hin;simpa using iZ (hM.ai hW).cells y hin
theorem Fp (p:Nat) (w:World):Calls Tryz.prog 61 #[.pointer (some ⟨p,0,none⟩),.int .i64 0] w λe w'=>e=.returned (.tuple #[.iface 130 (.pointer (some ⟨p,0,none⟩)),.int .i64 0])/\w'=w:=by
 go_enter Tryz.func61,Tryz.ntmps61
 go_wp2;go_ret2;exact ⟨rfl,rfl⟩
theorem EZ (n:Nat) (hn:n<=65536):nW tJ 4 0 n:=by
 intro w;have kn:=λW=>JZ n W hn;have km:=Fp;have hty:tJ.ty=130:=rfl;have hat:∀w' B F gt,kV w' B F gt 1 (NS.new n) 0 (λ_=>.nil)->tJ.at_ w' B.n0 (B.blk F gt) (NS.new n)/\Ef w' B.n0 n:=λw' B F gt h=>⟨⟨B,F,gt,_,_,_,rfl,rfl,h⟩,by obtain ⟨S,ag,hM, -⟩:=h;exact ⟨_,_,hM.h0,hM.cells⟩⟩
 generalize tJ=K at *;rw [hty]
 go_enter Tryz.func35,Tryz.ntmps35
 go_wp2_with (first
  | ((go_at_call 62;(with_reducible refine (kn _).mono ?_));rintro e w1 ⟨B,F,gt,rfl,hS,hu1,hf⟩)
  | ((go_at_call 61;(with_reducible refine (km _ _).mono ?_));rintro e w2 ⟨rfl,rfl⟩)
  | fail)
 go_ret2;exact ⟨B.n0,B.blk F gt,rfl,(hat _ _ _ _ hS).1,(hat _ _ _ _ hS).2,aa.trans β hu1,λx hx=>by have:=hf x hx;simp at this;omega⟩
theorem ow {A:NS} {a b:Int} (hj:fQ A a b=true):∀ {t:BT},dQ A t->dQ (ah A a b) t
 | .nil,_=>trivial
 | .node x l r,h=>⟨λy hy=>(lY hj x y).2 (h.1 y hy),ow hj h.2.1,ow hj h.2.2⟩
section
variable {w:World} {B:PB} {F:List Nat} {gt ct:Nat} {A:NS} {st:Nat} {tr:Nat->BT}
theorem Hf (h:kV w B F gt ct A st tr) (a b:Nat) (hj:fQ A a b=true) :
  Calls Tryz.prog 202 #[.pointer (some ⟨B.n0,0,none⟩),.int .i64 (a:Int),.int .i64 (b:Int)] w λe w'=>e=.returned (.bool true)/\aa (B.blk F gt) w w'/\
   ∃st',kV w' B F gt ct (ah A a b) st' (λq=>if q=a then cK (ah A a b) (tr a) (tr b) else if q=b then .nil else tr q):=by
 obtain ⟨S,ag,hM,hI,hL⟩:=h;obtain ⟨j1,j2,j3⟩:=(cO _ _ _).1 hj;have a1:=(aA _ _).1 j1;have a2:=(aA _ _).1 j2;have hne:a≠b:=λe=>j3 (by rw [e]);have hcs:=dA A a b;have iN:(ah A a b).hs.length=A.hs.length:=by unfold ah;rw [Δ hj];simp
 have yX:=hI.top a ω;have htb:=hI.top b ω;have hX:((tr a).nodes++(tr b).nodes).Nodup:=by
  rw [θ];refine ⟨hI.nd a,hI.nd b,λx hx y hy e2=>?_⟩;have b1:=(hI.mem a x).1 hx;have b2:=(hI.mem b y).1 hy;rw [e2] at b1;omega
 have hin:∀y,y∈(tr a).nodes++(tr b).nodes->bR (ah A a b) (y:Int)=true:=λy hy=>by
  rw [ay,hcs,kY hj];rw [τ] at hy;rcases hy with hy|hy
  ·have:=(hI.mem a y).1 hy;refine ⟨this.2.1,?_⟩
   show 0<(if _ then _ else _:Int)
   split<;>omega
  ·have:=(hI.mem b y).1 hy;refine ⟨this.2.1,?_⟩
   show 0<(if _ then _ else _:Int)
   split<;>omega
 have mp:=jL (ah A a b) (hL a) (hL b);have ml:=lI (ah A a b) (hL a) (hL b);have mh:=nQ (hL a) (hL b) (ow hj (hI.heap a)) (ow hj (hI.heap b)) hX;have CY:=hI.zP a;have CJ:=hI.zP b;have hla:=hL a;have hlb:=hL b
 have FI:Hid (∀ (W:World) (S':TS) (st':Nat),gu W B F gt ct (ah A a b) st' S' ((ag.set a (cK (ah A a b) (tr a) (tr b)).root).set b (-1))->bY S' (-1) (cK (ah A a b) (tr a) (tr b)).root (cK (ah A a b) (tr a) (tr b))->
   (∀y,y∉(tr a).nodes++(tr b).nodes->S.at S' y)->kV W B F gt ct (ah A a b) st' (λq=>if q=a then cK (ah A a b) (tr a) (tr b) else if q=b then .nil else tr q)):=λW S' st' b1 b2 b4=>by
  refine ⟨S',_,b1,hI.join hj b2 mp mh b4 (λq hq=>?_),λq=>?_⟩
  ·have hl:ag.length=A.hs.length:=hM.iB;rw [φ,ύ,Ι]
   by_cases e:q=a
   ·rw [Γ ω,ύ,Δ e.symm,Δ ω,Δ e];rfl
   ·by_cases e2:q=b
    ·rw [Δ e2.symm,Δ ω,Γ e,Δ e2];rfl
    ·rw [Γ ω,ύ,Γ ω,Γ e,Γ e2,←φ]
  ·show Lone (if q=a then _ else if q=b then _ else _)
   split
   ·exact ml
   ·split
    ·trivial
    ·exact hL q
 have hga:a<ag.length:=by rw [hM.iB];omega
 have hgb:b<ag.length:=by rw [hM.iB];omega
 have kj:=jQ hM.cells a b hj;have h0:=hM.h0;have UX:=hM.cells.ok.h1;have HM:=χ hM;have om:=hM.cF;have HH:=χ (ψ hX (ψ hin (ψ (ψ CY CJ) (ψ hla hlb))));clear hM hI hL hX hin mp mh ml CY CJ hla hlb j1 j2 j3 a1 a2;generalize hA':ah A a b=A' at *;generalize Xo:tr a=ta at *;generalize XI:tr b=tb at *
 go_enter Tryz.func202,Tryz.ntmps202
 go_wp2_with (first
  | ((go_at_call 141;(with_reducible refine (kj).mono ?_));rintro e w1 ⟨rfl,gK,hu1⟩)
  | fail)
 have hM1:=HM.out.dV hu1 gK (λy hy=>Α hy) hcs iN;have km:=λW (hW:aa [] w1 W)=>uh (hM1.ai hW) ta tb HH.out.2.2.1.1 HH.out.2.2.1.2 HH.out.2.2.2.1 HH.out.2.2.2.2 HH.out.1 HH.out.2.1;have d4:=hM1.il.cell a hga;rw [yX] at d4;have TQ:=hM1.il.cell b hgb;rw [htb] at TQ;have f4:=hM1.il.free a;have YY:=hM1.il.free b;have h3:=hM1.h2;obtain ⟨uN,hgc⟩:=hM1.Xi;have r3:∀W,aa [B.ba,B.c] w1 W->W.cell? ⟨B.n0,2,none⟩=some (.slice (some ⟨gt,0,none⟩) ag.length ct):=λW hW=>hW.kept h3 (λhm=>uN (by simp at hm ⊢;omega))
 have r4:∀W,aa [B.ba,B.c] w1 W->W.cell? ⟨gt,a,none⟩=some (.int .i64 ta.root)/\W.frozen? ⟨gt,a,none⟩=false:=λW hW=>⟨hW.kept d4 hgc,hW.aM d4 hgc f4⟩
 have r5:∀W,aa [B.ba,B.c] w1 W->W.cell? ⟨gt,b,none⟩=some (.int .i64 tb.root)/\W.frozen? ⟨gt,b,none⟩=false:=λW hW=>⟨hW.kept TQ hgc,hW.aM TQ hgc YY⟩
 have zi:(0:Int)<=(a:Int):=ω;have Bd:(a:Int)<(ag.length:Int):=ω;have XE:(0:Int)<=(b:Int):=ω;have hib4:(b:Int)<(ag.length:Int):=ω;have s1:B.n0≠gt:=λe=>uN (by simp [e]);generalize hmt:cK A' ta tb=mt at *;clear hM1 f4 YY h3 uN hgc;have q3:=r3 _ (aa.refl _ _);have q4:=(r4 _ (aa.refl _ _)).1;have q4b:=(r5 _ (aa.refl _ _)).1
 go_region_law
  (first
   | (go_simp;go_at_call 205;(with_reducible refine (km _ β).mono ?_);rintro e w5 ⟨rfl,vS,R5,S5,xQ,Ff,hs5⟩;(have cB:aa [B.ba,B.c] w1 w5:=aa.trans β vS);obtain ⟨d5,f5⟩:=r4 _ cB;obtain ⟨d5b,f5b⟩:=r5 _ cB;(have q5:=r3 _ cB)))
 all_goals
  go_wp2;go_ret;have v1:aa (B.blk F gt) w w1:=hu1.mono (λy hy=>by simp only [PB.blk,ρ];simp [hy])
  have v3:aa (B.blk F gt) w w5:=v1.trans (cB.mono (λy hy=>by
   simp only [ρ,ς,or_false] at hy;simp only [PB.blk,ρ];rcases hy with rfl|rfl
   ·simp
   ·simp [om]))
  subst hmt;exact ⟨rfl,(v3.setCell (Α (by simp [PB.blk])) _).setCell (Α (by simp [PB.blk])) _,R5,FI.out _ S5 R5 ((xQ.mD a _).mD b (-1)) Ff hs5⟩
end
end Go.Proofs.YtnpdakpagnpanaaGreat
