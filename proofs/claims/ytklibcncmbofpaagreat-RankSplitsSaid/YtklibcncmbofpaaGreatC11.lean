/-
  Lemmas for RankSplits: PaP, Pa, Pa2, Pa3, Pa8, Pa7, Pa5, PaR, Pa6, Pa4o, Pa4a, Pa4b, Pa4c, Pa4d, Pa4, Pa9, Pa10, PaR2, Pa11, Pa12, PaQ. Conditions: those of each lemma.
-/
import Derived.Deep.LoopGhost
import Derived.Test.YtklibcncmbofpaaGreatC06
set_option linter.all false
set_option maxHeartbeats 8000000
set_option maxRecDepth 10000
namespace Go.Proofs.YtklibcncmbofpaaGreat
def dP (A:NS):BT->Prop
 | .nil=>True
 | .node x l r=>(∀y,y∈l.nodes->eU A x y)/\dP A l/\dP A r
theorem dP.frame {A A':NS}:∀ {t:BT},dP A t->(∀x,x∈t.nodes->A'.c x=A.c x)->dP A' t
 | .nil,_,_=>trivial
 | .node x l r,h,hs=>by
  have hx:=hs x (by simp [BT.nodes]);exact ⟨fun y hy=>(gB hx (hs y (by simp [BT.nodes,hy]))).2 (h.1 y hy),h.2.1.frame (fun y hy=>hs y (by simp [BT.nodes,hy])),h.2.2.frame (fun y hy=>hs y (by simp [BT.nodes,hy]))⟩
abbrev Hg:Q3:=⟨dP,dP.frame,fun _=>trivial⟩
def Lone:BT->Prop
 | .nil=>True
 | .node _ _ r=>r=.nil
theorem wu {A:NS}:∀ {P:List Fr} {t:BT},dP A (ag P t)->dP A t
 | [],_,h=>h
 | f::P,t,h=>by
  have h1:dP A (bf f t):=wu (P:=P) h;unfold bf at h1
  split at h1
  ·exact h1.2.2
  ·exact h1.2.1
theorem TR {A:NS}:∀ {P:List Fr} {t t':BT},dP A (ag P t)->dP A t'->(∀y,y∈t'.nodes->y∈t.nodes)->dP A (ag P t')
 | [],_,_,_,h,_=>h
 | f::P,t,t',h,h',hs=>by
  have h1:dP A (bf f t):=wu (P:=P) h;refine TR (P:=P) h ?_ (fun y hy=>?_)
  ·unfold bf at h1 ⊢
   split at h1
   ·rename_i e;rw [Δ e];exact ⟨h1.1,h1.2.1,h'⟩
   ·rename_i e;rw [Γ e];exact ⟨fun y hy=>h1.1 y (hs y hy),h',h1.2.2⟩
  ·have hy':=(iA f t').mem_iff.1 hy;refine (iA f t).mem_iff.2 ?_;simp only [ρ,τ] at hy' ⊢;rcases hy' with h|h|h
   ·exact Α h
   ·exact Β (Α (hs y h))
   ·exact Β (Β h)
theorem vX:∀ {P:List Fr} {f:Fr} {t t':BT},t≠.nil->Lone (ag (f::P) t)->Lone (ag (f::P) t')
 | [],f,t,t',ht,h=>by
  have h1:Lone (bf f t):=h
  show Lone (bf f t')
  unfold bf at h1 ⊢
  split at h1
  ·exact absurd h1 ht
  ·rename_i e;rw [Γ e];exact h1
 | g::P,f,t,t',ht,h=>vX (P:=P) (f:=g) (t:=bf f t) (t':=bf f t') (NR f t) h
/-! ### two trees become one -/
noncomputable def dA (A:NS) (a b:BT):BT:=
 match a,b with
 | .nil,t=>t
 | t,.nil=>t
 | .node x l _,.node y m _=>if eU A y x then .node y (.node x l m) .nil else .node x (.node y m l) .nil
theorem ry (A:NS) (t:BT):dA A .nil t=t:=by cases t<;>rfl
theorem oG (A:NS) (t:BT):dA A t .nil=t:=by cases t<;>rfl
theorem oF (A:NS) (x y:Nat) (l r m q:BT):dA A (.node x l r) (.node y m q)=if eU A y x then .node y (.node x l m) .nil else .node x (.node y m l) .nil:=rfl
theorem lQ (A:NS) {a b:BT} (ha:Lone a) (hb:Lone b):(dA A a b).nodes.Perm (a.nodes++b.nodes):=by
 cases a with
 | nil=>rw [ry];exact ό _
 | node x l r=>
  cases b with
  | nil=>rw [oG];simp [BT.nodes]
  | node y m q=>
   have e1:r=.nil:=ha;have e2:q=.nil:=hb;subst e1 e2;rw [oF]
   split
   ·simp only [BT.nodes,Υ];exact (Ϥ (a:=y) (l₁:=x::l.nodes) (l₂:=m.nodes)).symm
   ·simp only [BT.nodes,Υ];refine List.Perm.cons x ?_;exact ((Φ (l₁:=l.nodes) (l₂:=y::m.nodes))).symm
theorem nW (A:NS) {a b:BT} (ha:Lone a) (hb:Lone b):Lone (dA A a b):=by
 cases a with
 | nil=>rw [ry];exact hb
 | node x l r=>
  cases b with
  | nil=>rw [oG];exact ha
  | node y m q=>rw [oF];split<;>rfl
theorem YT {A:NS} {x:Nat} {l:BT} (h:dP A (.node x l .nil)):∀y,y∈(BT.node x l .nil).nodes->y=x\/eU A x y:=fun y hy=>by
 simp only [BT.nodes,Υ,ρ] at hy;rcases hy with e|e
 ·exact Α e
 ·exact Β (h.1 y e)
theorem rQ {A:NS} {a b:BT} (ha:Lone a) (hb:Lone b) (h1:dP A a) (h2:dP A b) (hn:(a.nodes++b.nodes).Nodup):dP A (dA A a b):=by
 cases a with
 | nil=>rw [ry];exact h2
 | node x l r=>
  cases b with
  | nil=>rw [oG];exact h1
  | node y m q=>
   have e1:r=.nil:=ha;have e2:q=.nil:=hb;subst e1 e2;have hxy:x≠y:=fun e=>by
    simp only [BT.nodes,Υ,θ] at hn;exact hn.2.2 x σ y σ e
   rw [oF]
   split
   ·rename_i h
    refine ⟨fun z hz=>?_,⟨h1.1,h1.2.1,h2.2.1⟩,trivial⟩;simp only [BT.nodes,ρ,τ] at hz;rcases hz with e|e|e
    ·rw [e];exact h
    ·exact dB h (h1.1 z e)
    ·exact h2.1 z e
   ·rename_i h
    have h':eU A x y:=(jQ hxy).resolve_right h;refine ⟨fun z hz=>?_,⟨h2.1,h2.2.1,h1.2.1⟩,trivial⟩;simp only [BT.nodes,ρ,τ] at hz;rcases hz with e|e|e
    ·rw [e];exact h'
    ·exact dB h' (h2.1 z e)
    ·exact h1.1 z e
def fZ (S:TS) (x y:Nat):TS:=⟨fun z=>if z=x then y else S.l z,fun z=>if z=y then S.l x else S.r z,fun z=>if z=y then x else if (z:Int)=S.l x then y else S.u z⟩
theorem DX {S:TS} {x y z:Nat} (h1:z≠x) (h2:z≠y) (h3:(z:Int)≠S.l x):S.at (fZ S x y) z:=by
 unfold fZ TS.at;simp [h1,h2,h3]
theorem Bp {S:TS} {x y:Nat} {l m:BT} (ha:bT S (-1) x (.node x l .nil)) (hb:bT S (-1) y (.node y m .nil)) (hn:((BT.node x l .nil).nodes++(BT.node y m .nil).nodes).Nodup) :
  bT (fZ S x y) (-1) x (.node x (.node y m l) .nil)/\∀z,z∉(BT.node x l .nil).nodes++(BT.node y m .nil).nodes->S.at (fZ S x y) z:=by
 simp only [BT.nodes,Υ] at hn ⊢;rw [θ,Ζ,Ζ] at hn;obtain ⟨⟨n1,n2⟩,⟨n3,n4⟩,n5⟩:=hn;obtain ⟨_,a2,a3,a4⟩:=ha;obtain ⟨_,b2,b3,b4⟩:=hb;have hxy:x≠y:=fun e=>n5 x σ y σ e;have hlx:S.l x=l.root:=a3.root;have hlr:∀z:Nat,(z:Int)=S.l x->z∈l.nodes:=fun z hz=>by
  rw [hlx] at hz
  by_cases e:l=.nil
  ·rw [e] at hz;simp [BT.root] at hz
  ·have h1:=bH e;have:l.root.toNat=z:=ω;rw [←this];exact h1.1
 have e0:(fZ S x y).l x=y:=by unfold fZ;simp
 have e1:(fZ S x y).r x=S.r x:=by unfold fZ;simp [hxy]
 have e2:(fZ S x y).u x=S.u x:=by
  have h3:(x:Int)≠S.l x:=fun e=>n1 (hlr x e);unfold fZ;simp [hxy,h3]
 have e3:(fZ S x y).l y=S.l y:=by have hyx:¬y=x:=fun e=>hxy e.symm;unfold fZ;simp [hyx]
 have e4:(fZ S x y).r y=S.l x:=by unfold fZ;simp
 have e5:(fZ S x y).u y=x:=by unfold fZ;simp
 refine ⟨⟨rfl,by rw [e2];exact a2,?_,by rw [e1];exact a4⟩,fun z hz=>?_⟩
 ·rw [e0];refine ⟨rfl,e5,?_,?_⟩
  ·rw [e3];refine b3.frame (fun z hz=>DX (fun e=>n5 x σ z (by simp [hz]) e.symm) (fun e=>n3 (by rw [←e];exact hz)) (fun e=>n5 z (by simp [hlr z e]) z (by simp [hz]) rfl))
  ·rw [e4];refine a3.Kq n2 (fun z hz=>?_) (fun hl=>?_)
   ·have z1:z≠x:=fun e=>n1 (by rw [←e];exact hz);have z2:z≠y:=fun e=>n5 z (by simp [hz]) y σ e;refine ⟨by unfold fZ;simp [z1],by unfold fZ;simp [z2],fun hr=>?_⟩;have z3:(z:Int)≠S.l x:=fun e=>hr (by rw [←hlx,←e];simp);unfold fZ;simp [z2,z3]
   ·have h1:=bH hl;have z2:l.root.toNat≠y:=fun e=>n5 _ (Λ _ h1.1) y σ e
    show (if l.root.toNat=y then (x:Int) else if ((l.root.toNat:Nat):Int)=S.l x then (y:Int) else S.u l.root.toNat)=y
    rw [Γ z2,Δ (by rw [hlx];exact h1.2.symm)]
 ·simp only [τ,ρ,not_or] at hz;exact DX hz.1.1 hz.2.1 (fun e=>hz.1.2 (hlr z e))
/-! ### a tree comes off -/
def iX (S:TS) (p:Nat) (s:Bool) (x:Nat):TS:=
 ⟨fun z=>if s=false/\z=p then S.r x else S.l z,fun z=>if z=x then -1 else if s=true/\z=p then S.r x else S.r z,fun z=>if z=x then -1 else if (z:Int)=S.r x then p else S.u z⟩
theorem Eg {S:TS} {f:Fr} {P:List Fr} {x:Nat} {l r:BT} (h:bT S (-1) (ag (f::P) (.node x l r)).root (ag (f::P) (.node x l r))) (hn:(ag (f::P) (.node x l r)).nodes.Nodup) :
  bT (iX S f.1 f.2.1 x) (-1) x (.node x l .nil)/\bT (iX S f.1 f.2.1 x) (-1) (ag (f::P) r).root (ag (f::P) r)/\(∀y,y∉(ag (f::P) (.node x l r)).nodes->S.at (iX S f.1 f.2.1 x) y)/\
   S.kid f.2.1 f.1=x/\(f.2.1=true->S.l f.1≠x)/\S.u x=f.1:=by
 obtain ⟨h1,h2⟩:=(cZ _ _).1 h;have VO:=(aW (f::P) (.node x l r)).nodup_iff.1 hn;have hmem:∀y,y∈(ag (f::P) (.node x l r)).nodes↔y∈(BT.node x l r).nodes\/y∈cK (f::P):=fun y=>by rw [(aW (f::P) (.node x l r)).mem_iff,τ]
 rw [θ] at VO;obtain ⟨n1,n2,n3⟩:=VO;obtain ⟨_,g2,g3,g4⟩:=h1;obtain ⟨k1,k2,k3,k4⟩:=h2;simp only [BT.nodes,Ζ,τ,not_or,θ] at n1;obtain ⟨⟨m1,m2⟩,m3,m4,m5⟩:=n1;have hfx:f.1≠x:=fun e=>n3 x (by simp [BT.nodes]) f.1 (by simp [cK]) e.symm;have hrx:S.r x=r.root:=g4.root;have hrr:∀z:Nat,(z:Int)=S.r x->z∈r.nodes:=fun z hz=>by
  rw [hrx] at hz
  by_cases e:r=.nil
  ·rw [e] at hz;simp [BT.root] at hz
  ·have h1:=bH e;have:r.root.toNat=z:=ω;rw [←this];exact h1.1
 have hat:∀z,z≠f.1->z≠x->(z:Int)≠S.r x->S.at (iX S f.1 f.2.1 x) z:=fun z z1 z2 z3=>by
  unfold iX TS.at;simp [z1,z2,z3]
 have hnot:f.2.1=true->S.l f.1≠x:=fun e hl=>by
  rw [e] at k2;have h4:=k2.root;have h5:f.2.2.root=(x:Int):=by rw [←h4];simpa [TS.kid] using hl
  have h6:f.2.2≠.nil:=fun e=>by rw [e] at h5;simp [BT.root] at h5
  have h7:=(bH h6).1;rw [h5,π] at h7;exact n3 x (by simp [BT.nodes]) x (by simp [cK,h7]) rfl
 have U5:∀z,z∈cK (f::P)->z≠x/\(z:Int)≠S.r x:=fun z hz=>⟨fun e=>n3 x (by simp [BT.nodes]) z hz e.symm,fun e=>n3 z (by simp [BT.nodes,hrr z e]) z hz rfl⟩
 refine ⟨⟨rfl,by unfold iX;simp,?_,?_⟩,(cZ _ _).2 ⟨?_,?_⟩,fun y hy=>?_,k1,hnot,g2⟩
 ·have e:(iX S f.1 f.2.1 x).l x=S.l x:=by have hyx:¬x=f.1:=fun e=>hfx e.symm;unfold iX;simp [hyx]
  rw [e];refine g3.frame (fun z hz=>hat z (fun e=>n3 z (by simp [BT.nodes,hz]) f.1 (by simp [cK]) e) (fun e=>m1 (by rw [←e];exact hz)) (fun e=>m5 z hz z (hrr z e) rfl))
 ·show (iX S f.1 f.2.1 x).r x=-1
  unfold iX;simp
 ·rw [←hrx];refine g4.Kq m4 (fun z hz=>?_) (fun hr=>?_)
  ·have z1:z≠f.1:=fun e=>n3 z (by simp [BT.nodes,hz]) f.1 (by simp [cK]) e;have z2:z≠x:=fun e=>m2 (by rw [←e];exact hz);refine ⟨by unfold iX;simp [z1],by unfold iX;simp [z1,z2],fun hr=>?_⟩;have z3:(z:Int)≠S.r x:=fun e=>hr (by rw [←hrx,←e];simp);unfold iX;simp [z2,z3]
  ·have h1:=bH hr;have z2:r.root.toNat≠x:=fun e=>m2 (by rw [←e];exact h1.1)
   show (if r.root.toNat=x then (-1:Int) else if ((r.root.toNat:Nat):Int)=S.r x then (f.1:Int) else S.u r.root.toNat)=f.1
   rw [Γ z2,Δ (by rw [hrx];exact h1.2.symm)]
 ·have hf:=U5 f.1 (by simp [cK]);refine NT.other (S:=S) (z:=x) ⟨k1,k2,k3,k4⟩ n2 ?_ ?_ ?_ (fun z z1 z2=>hat z z1 (U5 z z2).1 (U5 z z2).2)
  ·unfold TS.kid iX;cases f.2.1<;>simp [hfx,hrx]
  ·unfold TS.kid iX;cases f.2.1<;>simp [hfx]
  ·unfold iX;simp [hf.1,hf.2]
 ·rw [hmem,not_or] at hy;exact hat y (fun e=>hy.2 (by simp [cK,e])) (fun e=>hy.1 (by simp [BT.nodes,e])) (fun e=>hy.1 (by simp [BT.nodes,hrr y e]))
theorem FE (P:List Fr) (x:Nat) (l r:BT):(ag P (.node x l r)).nodes.Perm ((BT.node x l .nil).nodes++(ag P r).nodes):=by
 refine (aW P _).trans ?_;refine ϣ ?_ ((aW P r).symm.append_left _);simp [BT.nodes,ϋ]
theorem DJ {A:NS} {P:List Fr} {x:Nat} {l r:BT} (h:dP A (ag P (.node x l r))):dP A (.node x l .nil)/\dP A (ag P r):=by
 have h1:=wu h;exact ⟨⟨h1.1,h1.2.1,trivial⟩,TR h h1.2.2 (fun y hy=>by simp [BT.nodes,hy])⟩
/-! ### what is below a thing comes off it -/
def bu:BT->List BT
 | .nil=>[]
 | .node x l r=>.node x l .nil::bu r
def fA (l:List BT):List Nat:=l.flatMap BT.nodes
theorem iH:∀ (t:BT),(fA (bu t)).Perm t.nodes
 | .nil=>ό _
 | .node x l r=>by
  unfold fA;simp only [bu,List.flatMap_cons,BT.nodes,Υ,List.cons_append];exact List.Perm.cons x ((iH r).append_left _)
theorem Ay {A:NS}:∀ {t:BT},dP A t->∀u,u∈bu t->dP A u/\Lone u
 | .nil,_,u,hu=>by cases hu
 | .node x l r,h,u,hu=>by
  simp only [bu,ρ] at hu;rcases hu with e|e
  ·subst e;exact ⟨⟨h.1,h.2.1,trivial⟩,rfl⟩
  ·exact Ay h.2.2 u e
def bP (l:List BT):List Int:=l.map BT.root
def fe (S:TS) (x:Nat) (ks:List Int):TS:=⟨fun z=>if z=x then -1 else S.l z,fun z=>if (z:Int)∈ks then -1 else S.r z,fun z=>if (z:Int)∈ks then -1 else S.u z⟩
theorem D7 {t u:BT} (hu:u∈bu t):u.root.toNat∈u.nodes/\u.root=(u.root.toNat:Int)/\u.root∈bP (bu t):=by
 refine ⟨?_,?_,List.mem_map.2 ⟨u,hu,rfl⟩⟩
 all_goals
  induction t with
  | nil=>cases hu
  | node x l r _ ih=>
   simp only [bu,ρ] at hu;rcases hu with e|e
   ·subst e;simp [BT.root,BT.nodes]
   ·exact ih e
theorem JY {t:BT} {z:Nat} (h:(z:Int)∈bP (bu t)):z∈t.nodes:=by
 obtain ⟨u,hu,e⟩:=List.mem_map.1 h;have h1:=D7 hu;refine (iH t).mem_iff.1 (List.mem_flatMap.2 ⟨u,hu,?_⟩);rw [←show u.root.toNat=z by omega];exact h1.1
theorem FM {S:TS} {x:Nat} {ks:List Int}:∀ {t:BT} {p:Int},bT S p t.root t->t.nodes.Nodup->x∉t.nodes->(∀z:Nat,z∈t.nodes->((z:Int)∈ks↔(z:Int)∈bP (bu t)))->
  ∀u,u∈bu t->bT (fe S x ks) (-1) u.root u
 | .nil,_,_,_,_,_,u,hu=>by cases hu
 | .node y l r,p,h,hn,hx,hk,u,hu=>by
  simp only [BT.nodes,ρ,τ,not_or] at hx;simp only [BT.nodes,Ζ,τ,not_or,θ] at hn;obtain ⟨⟨m1,m2⟩,m3,m4,m5⟩:=hn;obtain ⟨_,h2,h3,h4⟩:=h;have hl:∀z:Nat,z∈l.nodes->(z:Int)∉ks:=fun z hz hm=>by
   have:=(hk z (by simp [BT.nodes,hz])).1 hm;simp only [bP,bu,List.map_cons,ρ,BT.root] at this;rcases this with e|e
   ·have:z=y:=ω;exact m1 (by rw [←this];exact hz)
   ·exact m5 z hz z (JY e) rfl
  simp only [bu,ρ] at hu;rcases hu with e|e
  ·subst e;have hyk:(y:Int)∈ks:=(hk y (by simp [BT.nodes])).2 (by simp [bP,bu,BT.root]);refine ⟨rfl,by simp [fe,hyk],?_,by simp [fe,hyk,bT]⟩;have e1:(fe S x ks).l y=S.l y:=by have hyx:¬y=x:=fun e=>hx.1 e.symm;simp [fe,hyx]
   rw [e1];exact h3.frame (fun z hz=>⟨by simp [fe,show z≠x from fun e=>hx.2.1 (by rw [←e];exact hz)],by simp [fe,hl z hz],by simp [fe,hl z hz]⟩)
  ·have e4:=h4.root;rw [e4] at h4;refine FM h4 m4 hx.2.2 (fun z hz=>?_) u e;rw [hk z (by simp [BT.nodes,hz])];simp only [bP,bu,List.map_cons,ρ,BT.root];constructor
   ·rintro (e|e)
    ·have:z=y:=ω;exact absurd (by rw [←this];exact hz) m2
    ·exact e
   ·exact Β
theorem P7 {S:TS} {x z:Nat} {ks:List Int} (h1:z≠x) (h2:(z:Int)∉ks):S.at (fe S x ks) z:=by unfold fe TS.at;simp [h1,h2]
noncomputable def bK (A:NS):List BT->List BT
 | []=>[]
 | [a]=>[a]
 | a::b::l=>dA A a b::bK A l
noncomputable def eH (A:NS) (l:List BT):BT:=l.foldr (dA A) .nil
theorem bC (t:BT) (l:List BT):fA (t::l)=t.nodes++fA l:=rfl
theorem dW (l m:List BT):fA (l++m)=fA l++fA m:=by unfold fA;rw [List.flatMap_append]
theorem qz (A:NS):∀ (l:List BT),(bK A l).length=(l.length+1) / 2
 | []=>rfl
 | [_]=>by simp [bK]
 | a::b::l=>by
  show (bK A l).length+1=_
  rw [qz A l];simp;omega
theorem AV (A:NS):∀ (l:List BT),(∀t,t∈l->Lone t)->(fA (bK A l)).Perm (fA l)
 | [],_=>ό _
 | [_],_=>ό _
 | a::b::l,h=>by
  show (fA (dA A a b::bK A l)).Perm _
  rw [bC,bC,bC,←ϋ];exact (lQ A (h a σ) (h b σ)).append (AV A l (fun t ht=>h t (by simp [ht])))
theorem vB (A:NS):∀ (l:List BT),(∀t,t∈l->Lone t)->(eH A l).nodes.Perm (fA l)/\Lone (eH A l)
 | [],_=>⟨ό _,trivial⟩
 | a::l,h=>by
  have ih:=vB A l (fun t ht=>h t (by simp [ht]));exact ⟨(lQ A (h a σ) ih.2).trans (ih.1.append_left _),nW A (h a σ) ih.2⟩
theorem sN (A:NS):∀ (k:Nat) (l:List BT),2*k<=l.length->bK A l=(bK A l).take k++bK A (l.drop (2*k))
 | 0,l,_=>σ
 | k+1,[],h=>by simp at h
 | k+1,[_],h=>by simp at h;omega
 | k+1,a::b::l,h=>by
  have h1:=sN A k l (by simp at h;omega)
  show dA A a b::bK A l=_
  rw [show 2*(k+1)=2*k+2 by omega];simp only [bK,List.take_succ_cons,List.cons_append,List.drop_succ_cons];rw [←h1]
end Go.Proofs.YtklibcncmbofpaaGreat
namespace Go.Proofs.YtklibcncmbofpaaGreat
open Go Go.RowKit
structure PB where
 n0:Nat
 c:Nat
 ba:Nat
structure fV (w:World) (B:PB) (F:List Nat) (gt ct:Nat) (A:NS) (st:Nat) (S:TS) (af:List Int):Prop where
 head:aG w B.n0 215 3 (fun j=>[Value.pointer (some ⟨B.c,0,none⟩),.slice (some ⟨B.ba,0,none⟩) A.cs.length A.cs.length,.slice (some ⟨gt,0,none⟩) af.length ct].getD j undef)
 cells:aD w B.c F A st
 ties:aG w B.ba 217 (A.cs.length*3) (bW S)
 jC:IZ w gt ct af
 jA:af.length=A.hs.length
 bI:B.n0∉F/\B.ba∉F/\gt∉F
 sep:B.n0≠B.ba/\B.n0≠gt/\B.ba≠gt
section
variable {w:World} {B:PB} {F:List Nat} {gt ct:Nat} {A:NS} {st:Nat} {S:TS} {af:List Int}
def PB.blk (B:PB) (F:List Nat) (gt:Nat):List Nat:=B.n0::B.ba::gt::F
theorem fV.upd {w':World} {G:List Nat} (h:fV w B F gt ct A st S af) (hu:aa G w w') (hG:∀x,x∈G->x∉B.blk F gt):fV w' B F gt ct A st S af:=by
 have h1:∀x,x∈B.blk F gt->x∉G:=fun x hx hg=>hG x hg hx;exact ⟨h.head.upd hu (h1 _ (by simp [PB.blk])),h.cells.upd hu (fun x hx=>fun hm=>hG x hx (by simp [PB.blk,hm])),h.ties.upd hu (h1 _ (by simp [PB.blk])),h.jC.upd hu (h1 _ (by simp [PB.blk])),h.jA,h.bI,h.sep⟩
theorem fV.ae {w':World} (h:fV w B F gt ct A st S af) (hu:aa [] w w'):fV w' B F gt ct A st S af:=h.upd hu σ
theorem fV.lt (h:fV w B F gt ct A st S af):∀x,x∈B.blk F gt->x<w.heap.size:=by
 intro x hx;have:=h.head.lt;have:=h.ties.lt;have:=h.jC.lt;simp only [PB.blk,ρ] at hx;rcases hx with rfl|rfl|rfl|hx
 ·assumption
 ·assumption
 ·assumption
 ·exact h.cells.lt x hx
theorem fV.cF (h:fV w B F gt ct A st S af):B.c∈F:=h.cells.mem
theorem fV.h0 (h:fV w B F gt ct A st S af):w.cell? ⟨B.n0,0,none⟩=some (.pointer (some ⟨B.c,0,none⟩)):=h.head.cellAt 0 ω rfl
theorem fV.h1 (h:fV w B F gt ct A st S af):w.cell? ⟨B.n0,1,none⟩=some (.slice (some ⟨B.ba,0,none⟩) A.cs.length A.cs.length):=h.head.cellAt 1 ω rfl
theorem fV.h2 (h:fV w B F gt ct A st S af):w.cell? ⟨B.n0,2,none⟩=some (.slice (some ⟨gt,0,none⟩) af.length ct):=h.head.cellAt 2 ω rfl
theorem fV.l (h:fV w B F gt ct A st S af) (x:Nat) (hx:x<A.cs.length):w.cell? ⟨B.ba,x*3,none⟩=some (.int .i64 (S.l x)):=h.ties.cellAt _ ω (nU S x)
theorem fV.r (h:fV w B F gt ct A st S af) (x:Nat) (hx:x<A.cs.length):w.cell? ⟨B.ba,x*3+1,none⟩=some (.int .i64 (S.r x)):=h.ties.cellAt _ ω (nN S x)
theorem fV.u (h:fV w B F gt ct A st S af) (x:Nat) (hx:x<A.cs.length):w.cell? ⟨B.ba,x*3+2,none⟩=some (.int .i64 (S.u x)):=h.ties.cellAt _ ω (qK S x)
theorem fV.f (h:fV w B F gt ct A st S af) (j:Nat):w.frozen? ⟨B.ba,j,none⟩=false:=h.ties.free j
theorem fV.il {w':World} {S':TS} (h:fV w B F gt ct A st S af) (hu:aa [B.ba] w w') (hT:aG w' B.ba 217 (A.cs.length*3) (bW S')):fV w' B F gt ct A st S' af:=by
 have s:=h.sep;have f:=h.bI;exact ⟨h.head.upd hu ζ,h.cells.upd hu (fun x hx=>by simp at hx;rw [hx];exact f.2.1),hT,h.jC.upd hu ζ,h.jA,f,s⟩
theorem fV.ext {S':TS} (h:fV w B F gt ct A st S af) (hS:∀x,S'.l x=S.l x/\S'.r x=S.r x/\S'.u x=S.u x):fV w B F gt ct A st S' af:=by
 have e:S'=S:=by
  cases S;cases S';simp only [TS.mk.injEq];exact ⟨funext fun x=>(hS x).1,funext fun x=>(hS x).2.1,funext fun x=>(hS x).2.2⟩
 rw [e];exact h
theorem Rw (S:TS) (p:Nat) (v:Int) (j:Nat):(if j=p*3 then Value.int .i64 v else bW S j)=bW (S.aB p false v) j:=by
 unfold bW TS.aB
 by_cases hj2:j=p*3
 ·subst hj2;simp
 ·by_cases h0:j % 3=0
  ·simp [hj2,h0];intro hh;exfalso;omega
  ·simp [hj2,h0]
theorem Sq (S:TS) (p:Nat) (v:Int) (j:Nat):(if j=p*3+1 then Value.int .i64 v else bW S j)=bW (S.aB p true v) j:=by
 unfold bW TS.aB
 by_cases hj2:j=p*3+1
 ·subst hj2;simp;intro hh;exfalso;omega
 ·by_cases h0:j % 3=1
  ·simp [hj2,h0];intro hh;exfalso;omega
  ·simp [hj2,h0]
theorem SH (S:TS) (p:Nat) (v:Int) (j:Nat):(if j=p*3+2 then Value.int .i64 v else bW S j)=bW (S.bJ p v) j:=by
 unfold bW TS.bJ
 by_cases hj2:j=p*3+2
 ·subst hj2;simp;intro hh;exfalso;omega
 ·by_cases h0:j % 3=0
  ·simp [hj2,h0]
  ·by_cases h1:j % 3=1
   ·simp [hj2,h1]
   ·simp [hj2,h0,h1];intro hh;exfalso;omega
theorem fV.GJ (h:fV w B F gt ct A st S af) (p:Nat) (v:Int):fV (w.setCell ⟨B.ba,p*3,none⟩ (.int .i64 v)) B F gt ct A st (S.aB p false v) af:=
 h.il β ((h.ties.set _ _).ext (fun j _=>Rw S p v j))
theorem fV.dw (h:fV w B F gt ct A st S af) (p:Nat) (v:Int):fV (w.setCell ⟨B.ba,p*3+1,none⟩ (.int .i64 v)) B F gt ct A st (S.aB p true v) af:=
 h.il β ((h.ties.set _ _).ext (fun j _=>Sq S p v j))
theorem fV.qB (h:fV w B F gt ct A st S af) (p:Nat) (v:Int):fV (w.setCell ⟨B.ba,p*3+2,none⟩ (.int .i64 v)) B F gt ct A st (S.bJ p v) af:=
 h.il β ((h.ties.set _ _).ext (fun j _=>SH S p v j))
theorem fV.tH (h:fV w B F gt ct A st S af) (x:Nat) (k:Int):fV (w.setCell ⟨gt,x,none⟩ (.int .i64 k)) B F gt ct A st S (af.set x k):=by
 have s:=h.sep;have f:=h.bI;have hu:aa [gt] w (w.setCell ⟨gt,x,none⟩ (.int .i64 k)):=β;exact ⟨by rw [Ι];exact h.head.upd hu ζ,h.cells.upd hu (fun x hx=>by simp at hx;rw [hx];exact f.2.2),h.ties.upd hu ζ,h.jC.set x k,by rw [Ι];exact h.jA,f,s⟩
theorem fV.fH {w':World} {F':List Nat} {A':NS} {st':Nat} (h:fV w B F gt ct A st S af) (hu:aa F w w') (hC:aD w' B.c F' A' st') (hF:∀x,x∈F'->x∈F\/w.heap.size<=x) (h1:A'.cs.length=A.cs.length) (h2:A'.hs.length=A.hs.length):fV w' B F' gt ct A' st' S af:=by
 have f:=h.bI;have g:=h.lt;have hf:∀x,x<w.heap.size->x∉F->x∉F':=fun x hx hn hm=>by rcases hF x hm with h'|h';exact hn h';omega
 have l0:=g B.n0 (by simp [PB.blk]);have l1:=g B.ba (by simp [PB.blk]);have l4:=g gt (by simp [PB.blk]);exact ⟨by rw [h1];exact h.head.upd hu f.1,hC,by rw [h1];exact h.ties.upd hu f.2.1,h.jC.upd hu f.2.2,by rw [h2];exact h.jA,⟨hf _ l0 f.1,hf _ l1 f.2.1,hf _ l4 f.2.2⟩,h.sep⟩
end
def mD (w:World) (B:PB) (F:List Nat) (gt ct:Nat) (A:NS) (st:Nat) (tr:Nat->BT):Prop:=∃S af,fV w B F gt ct A st S af/\wU Hg A S af tr/\∀h,Lone (tr h)
theorem mD.upd {w w':World} {B:PB} {F G:List Nat} {gt ct st:Nat} {A:NS} {tr:Nat->BT} (h:mD w B F gt ct A st tr) (hu:aa G w w') (hG:∀x,x∈G->x∉B.blk F gt):mD w' B F gt ct A st tr:=by
 obtain ⟨S,af,hM,hI⟩:=h;exact ⟨S,af,hM.upd hu hG,hI⟩
theorem mD.ae {w w':World} {B:PB} {F:List Nat} {gt ct st:Nat} {A:NS} {tr:Nat->BT} (h:mD w B F gt ct A st tr) (hu:aa [] w w'):mD w' B F gt ct A st tr:=h.upd hu σ
section
variable {w:World} {B:PB} {F:List Nat} {gt ct:Nat} {A:NS} {st:Nat} {S:TS} {af:List Int}
theorem Aw (S:TS) (x y:Nat) (h:S.l x=-1):∀z,(fZ S x y).l z=((((S.aB y true (S.l x)).bJ y x).aB x false y)).l z/\(fZ S x y).r z=((((S.aB y true (S.l x)).bJ y x).aB x false y)).r z/\(fZ S x y).u z=((((S.aB y true (S.l x)).bJ y x).aB x false y)).u z:=fun z=>by
 unfold fZ TS.aB TS.bJ;rw [h];refine ⟨σ,σ,?_⟩;have:¬ (z:Int)=-1:=ω;simp [this]
theorem A7 (S:TS) (x y o:Nat) (h:S.l x=o) (hoy:o≠y):∀z,(fZ S x y).l z=(((((S.aB y true (S.l x)).bJ y x).bJ o y).aB x false y)).l z/\(fZ S x y).r z=(((((S.aB y true (S.l x)).bJ y x).bJ o y).aB x false y)).r z/\(fZ S x y).u z=(((((S.aB y true (S.l x)).bJ y x).bJ o y).aB x false y)).u z:=fun z=>by
 unfold fZ TS.aB TS.bJ;rw [h];refine ⟨σ,σ,?_⟩;simp only [ϥ,if_false,if_true]
 by_cases h1:z=y
 ·subst h1;rw [Δ rfl,Γ (fun e=>hoy e.symm),Δ rfl]
 ·rw [Γ h1]
  by_cases h2:z=o
  ·subst h2;simp
  ·rw [Γ (show ¬ (z:Int)=(o:Int) by omega),Γ h2,Γ h1]
theorem uj (b:Int) (w:World) (n0:Nat):Calls Tryz.prog 215 #[.pointer (some ⟨n0,0,none⟩),.int .i64 (-1),.int .i64 b] w fun e w'=>e=.returned (.int .i64 b)/\w'=w:=by
 go_enter Tryz.func215,Tryz.ntmps215
 go_wp2;go_ret;exact ⟨rfl,rfl⟩
theorem Ca (a:Int) (w:World) (n0:Nat):Calls Tryz.prog 215 #[.pointer (some ⟨n0,0,none⟩),.int .i64 a,.int .i64 (-1)] w fun e w'=>e=.returned (.int .i64 a)/\w'=w:=by
 by_cases h:a=-1
 ·subst h;exact uj (-1) w n0
 ·have hb:(a == -1)=false:=by simpa using h
  go_enter Tryz.func215,Tryz.ntmps215
  go_wp2;go_ret;exact ⟨rfl,rfl⟩
theorem ER (h:fV w B F gt ct A st S af) (x y:Nat) (hx:bV A (x:Int)=true) (hy:bV A (y:Int)=true) (hxy:x≠y) (hkx:S.l x=-1\/(0<=S.l x/\S.l x<A.cs.length)) (hky:S.l y=-1\/(0<=S.l y/\S.l y<A.cs.length)) (hnx:S.l x≠y) (hny:S.l y≠x) :
  Calls Tryz.prog 215 #[.pointer (some ⟨B.n0,0,none⟩),.int .i64 (x:Int),.int .i64 (y:Int)] w fun e w'=>e=.returned (.int .i64 ((if eU A y x then y else x:Nat):Int))/\(∃st',fV w' B F gt ct A st' (if eU A y x then fZ S y x else fZ S x y) af)/\aa [B.ba,B.c] w w':=by
 have ka:=gZ h.cells y x hy hx;have hx2:=(aj _ _).1 hx;have hy2:=(aj _ _).1 hy;have hA:=h.cells.ok.c1;have c0:=h.h0;have hM1:∀w1,aD w1 B.c F A (dF st 1)->aa [B.c] w w1->fV w1 B F gt ct A (dF st 1) S af:=fun w1 hC hu=>h.fH (hu.mono (fun z hz=>by simp at hz;rw [hz];exact h.cF)) hC (fun z hz=>Α hz) rfl rfl;have hb1:((x:Int) == -1)=false:=σ;have hb2:((y:Int) == -1)=false:=σ;have HX:=χ (ψ hM1 h.sep);have FX:(x:Int)<(A.cs.length:Int):=ω;have Xa:(y:Int)<(A.cs.length:Int):=ω;clear h hx hy hM1
 by_cases hlt:eU A y x
 ·rw [Ν hlt] at ka;rw [Δ hlt,Δ hlt];clear hlt hkx
  go_enter Tryz.func215,Tryz.ntmps215
  go_upto_region 7 with (first
   | ((go_at_call 174;(with_reducible refine (ka).mono ?_));rintro e w1 ⟨rfl,hC,hu1⟩)
   | fail)
  obtain ⟨hM1,hsep⟩:=HX.out;have hM:=hM1 w1 hC hu1;have c1:=hM.h1;have dl:=hM.l y hy2.1;have dr:=hM.r x hx2.1;have du:=hM.u x hx2.1;have ff:=hM.f;have QV:=ff (x*3+1);have QY:=ff (x*3+2);have Q5:=ff (y*3);have hn1:¬B.n0=B.ba:=hsep.1;have hn2:¬B.ba=B.n0:=fun e=>hsep.1 e.symm;have HM:=χ (ψ hM hu1);have nb1:¬y*3=x*3+1:=ω;have nb2:¬y*3=x*3+2:=ω;have nbl:y*3<A.cs.length*3:=ω;clear hM hu1 hC hM1 hsep ka
  by_cases ho:S.l y=-1
  ·have HO:=χ ho;have he:=Aw S y x ho;rw [ho] at dl he;have HE:=χ he;have hlr:((-1:Int) != -1)=false:=σ;clear ho he hky hny
   go_upto_region 8 with (fail)
   go_region_law (fail)
   all_goals
    go_wp2;go_ret;refine ⟨rfl,⟨_,fV.ext ((((HM.out.1.dw x (-1)).qB x y).GJ y x).ae ?_) HE.out⟩,(HM.out.2.mono σ).trans ?_⟩
    ·exact ν
    ·exact β
  ·obtain ⟨o,uM⟩:∃o:Nat,S.l y=o:=⟨(S.l y).toNat,ω⟩;have hol:o<A.cs.length:=ω;have hoy:o≠x:=fun e=>hny (by rw [uM,e]);have he:=A7 S y x o uM hoy;rw [uM] at dl he;have HE:=χ he;have DW:((o:Int) != -1)=true:=σ;have Ow:(o:Int)<(A.cs.length:Int):=ω;have YO:=HM.out.1.u o hol;have Q8:=ff (o*3+2);have no1:¬o*3+2=x*3+1:=ω;have no2:¬o*3+2=x*3+2:=ω;have no3:¬y*3=o*3+2:=ω;clear ho he uM hky hny
   go_upto_region 8 with (fail)
   go_region_law (fail)
   all_goals
    go_wp2;go_ret;refine ⟨rfl,⟨_,fV.ext (((((HM.out.1.dw x (o:Int)).qB x y).qB o x).GJ y x).ae ?_) HE.out⟩,(HM.out.2.mono σ).trans ?_⟩
    ·exact ν
    ·exact β
 ·rw [Ξ hlt] at ka;rw [Γ hlt,Γ hlt];clear hlt hky
  go_enter Tryz.func215,Tryz.ntmps215
  go_upto_region 7 with (first
   | ((go_at_call 174;(with_reducible refine (ka).mono ?_));rintro e w1 ⟨rfl,hC,hu1⟩)
   | fail)
  obtain ⟨hM1,hsep⟩:=HX.out;have hM:=hM1 w1 hC hu1;have c1:=hM.h1;have dl:=hM.l x hx2.1;have dr:=hM.r y hy2.1;have du:=hM.u y hy2.1;have ff:=hM.f;have QV:=ff (y*3+1);have QY:=ff (y*3+2);have Q5:=ff (x*3);have hn1:¬B.n0=B.ba:=hsep.1;have hn2:¬B.ba=B.n0:=fun e=>hsep.1 e.symm;have HM:=χ (ψ hM hu1);have nb1:¬x*3=y*3+1:=ω;have nb2:¬x*3=y*3+2:=ω;have nbl:x*3<A.cs.length*3:=ω;clear hM hu1 hC hM1 hsep ka
  by_cases ho:S.l x=-1
  ·have HO:=χ ho;have he:=Aw S x y ho;rw [ho] at dl he;have HE:=χ he;have hlr:((-1:Int) != -1)=false:=σ;clear ho he hkx hnx
   go_upto_region 8 with (fail)
   go_region_law (fail)
   all_goals
    go_wp2;go_ret;refine ⟨rfl,⟨_,fV.ext ((((HM.out.1.dw y (-1)).qB y x).GJ x y).ae ?_) HE.out⟩,(HM.out.2.mono σ).trans ?_⟩
    ·exact ν
    ·exact β
  ·obtain ⟨o,uM⟩:∃o:Nat,S.l x=o:=⟨(S.l x).toNat,ω⟩;have hol:o<A.cs.length:=ω;have hoy:o≠y:=fun e=>hnx (by rw [uM,e]);have he:=A7 S x y o uM hoy;rw [uM] at dl he;have HE:=χ he;have DW:((o:Int) != -1)=true:=σ;have Ow:(o:Int)<(A.cs.length:Int):=ω;have YO:=HM.out.1.u o hol;have Q8:=ff (o*3+2);have no1:¬o*3+2=y*3+1:=ω;have no2:¬o*3+2=y*3+2:=ω;have no3:¬x*3=o*3+2:=ω;clear ho he uM hkx hnx
   go_upto_region 8 with (fail)
   go_region_law (fail)
   all_goals
    go_wp2;go_ret;refine ⟨rfl,⟨_,fV.ext (((((HM.out.1.dw y (o:Int)).qB y x).qB o y).GJ x y).ae ?_) HE.out⟩,(HM.out.2.mono σ).trans ?_⟩
    ·exact ν
    ·exact β
end
theorem yO {a b:List Nat} (h:(a++b).Nodup):(b++a).Nodup:=(Φ (l₁:=a) (l₂:=b)).nodup_iff.1 h
theorem ou {S:TS} {p z:Int} {t:BT} {n:Nat} (h:bT S p z t) (hl:∀y,y∈t.nodes->y<n):z=-1\/(0<=z/\z<n):=by
 rw [h.root]
 by_cases e:t=.nil
 ·left;rw [e];rfl
 ·right;have h1:=bH e;have:=hl _ h1.1;omega
section
variable {w:World} {B:PB} {F:List Nat} {gt ct:Nat} {A:NS} {st:Nat} {S:TS} {af:List Int}
theorem xC (h:fV w B F gt ct A st S af) (a b:BT) (ha:bT S (-1) a.root a) (hb:bT S (-1) b.root b) (la:Lone a) (lb:Lone b) (hn:(a.nodes++b.nodes).Nodup) (hin:∀z,z∈a.nodes++b.nodes->bV A (z:Int)=true) :
  Calls Tryz.prog 215 #[.pointer (some ⟨B.n0,0,none⟩),.int .i64 a.root,.int .i64 b.root] w fun e w'=>e=.returned (.int .i64 (dA A a b).root)/\aa [B.ba,B.c] w w'/\∃st' S',fV w' B F gt ct A st' S' af/\bT S' (-1) (dA A a b).root (dA A a b)/\∀z,z∉a.nodes++b.nodes->S.at S' z:=by
 cases a with
 | nil=>
  rw [ry];refine (uj b.root w B.n0).mono ?_;rintro e w' ⟨rfl,rfl⟩;exact ⟨rfl,aa.refl _ _,st,S,h,hb,fun z _=>⟨rfl,rfl,rfl⟩⟩
 | node x l r=>
  cases b with
  | nil=>
   rw [oG];refine (Ca (BT.node x l r).root w B.n0).mono ?_;rintro e w' ⟨rfl,rfl⟩;exact ⟨rfl,aa.refl _ _,st,S,h,ha,fun z _=>⟨rfl,rfl,rfl⟩⟩
  | node y m q=>
   have e1:r=.nil:=la;have e2:q=.nil:=lb;subst e1 e2;have hlt:∀z,z∈(BT.node x l .nil).nodes++(BT.node y m .nil).nodes->z<A.cs.length:=fun z hz=>((aj _ _).1 (hin z hz)).1;have hxy:x≠y:=fun e=>by
    rw [θ] at hn;exact hn.2.2 x (by simp [BT.nodes]) y (by simp [BT.nodes]) e
   have hrx:=ou (n:=A.cs.length) ha.2.2.1 (fun z hz=>hlt z (by simp [BT.nodes,hz]));have Yc:=ou (n:=A.cs.length) hb.2.2.1 (fun z hz=>hlt z (by simp [BT.nodes,hz]));have hne:∀ {u:Nat} {t t':BT},S.l u=t.root->(∀z,z∈t.nodes->z∉t'.nodes)->∀v,v∈t'.nodes->S.l u≠(v:Int):=fun {u t t'} h1 h2 v hv e=>by
    rw [h1] at e;have h6:t≠.nil:=fun e'=>by rw [e'] at e;simp [BT.root] at e
    have h7:=(bH h6).1;rw [e,π] at h7;exact h2 v h7 hv
   have hnn:=hn;rw [θ] at hnn;have hnx:S.l x≠(y:Int):=hne (t':=.node y m .nil) ha.2.2.1.root (fun z hz hm=>hnn.2.2 z (by simp [BT.nodes,hz]) z hm rfl) y (by simp [BT.nodes]);have hny:S.l y≠(x:Int):=hne (t':=.node x l .nil) hb.2.2.1.root (fun z hz hm=>hnn.2.2 z hm z (by simp [BT.nodes,hz]) rfl) x (by simp [BT.nodes]);refine (ER h x y (hin x (by simp [BT.nodes])) (hin y (by simp [BT.nodes])) hxy hrx Yc hnx hny).mono ?_;rintro e w' ⟨rfl,⟨st',hM⟩,hu⟩;rw [oF]
   by_cases hc:eU A y x
   ·simp only [Δ hc] at hM ⊢;obtain ⟨h1,h2⟩:=Bp hb ha (yO hn);exact ⟨rfl,hu,st',_,hM,h1,fun z hz=>h2 z (fun hm=>hz (by rw [τ] at hm ⊢;exact hm.symm))⟩
   ·simp only [Γ hc] at hM ⊢;obtain ⟨h1,h2⟩:=Bp ha hb hn;exact ⟨rfl,hu,st',_,hM,h1,h2⟩
end
theorem Su:(Tryz.prog.info? 217).map (fun i=>(i.zero,i.size,i.bytes))=some (some (.agg #[.int .i64 0,.int .i64 0,.int .i64 0]),3,24):=by kernel_rfl
theorem MB (n:Nat):wU Hg (NS.new n) TS.none [-1] (fun _=>.nil):=Cv n
theorem MO (n:Nat) (w:World) (h:n<=65536) :
  Calls Tryz.prog 96 #[.int .i64 (n:Int)] w fun e w'=>∃B F gt,e=.returned (.tuple #[.pointer (some ⟨B.n0,0,none⟩),.int .i64 0])/\mD w' B F gt 1 (NS.new n) 0 (fun _=>.nil)/\aa [] w w'/\∀x,x∈B.blk F gt->w.heap.size<=x:=by
 have hcs:(NS.new n).cs.length=n:=by simp [NS.new]
 have HCS:=χ hcs;clear hcs
 go_enter Tryz.func96,Tryz.ntmps96
 go_wp2_with (first
  | ((go_at_call 107;(with_reducible refine (lV n _ h).mono ?_));rintro e w1 ⟨c,F,rfl,hC,hu1,hF⟩)
  | (at_make;refine wpList_make_row rfl _ 213 rfl 217 (.agg #[.int .i64 0,.int .i64 0,.int .i64 0]) 3 24 Tryz.underlying213 Su n rfl ω μ ?_;intro w3 hr3 hu3))
 have l1:=hu1.size;have l3:=hu3.size;have l4:=hr3.lt;have l7:=hC.lt;have lc:=l7 c hC.mem;have e3:((w3.alloc (.cells #[.int .i64 (-1)] 3)).heap.size)=w3.heap.size+1:=by rw [Κ]
 have hv:aa [] w3 (w3.alloc (.cells #[.int .i64 (-1)] 3)):=(aa.refl _ _).alloc _;obtain ⟨W4,XA⟩:∃W4,W4=(w3.alloc (.cells #[.int .i64 (-1)] 3)).alloc (.cells #[.pointer (some ⟨c,0,none⟩),.slice (some ⟨w1.heap.size,0,none⟩) n n,.slice (some ⟨w3.heap.size,0,none⟩) 1 1] 215):=⟨_,rfl⟩;have hw:aa [] w3 W4:=by rw [XA];exact hv.alloc _
 have hh:=dC (w3.alloc (.cells #[.int .i64 (-1)] 3)) [.pointer (some ⟨c,0,none⟩),.slice (some ⟨w1.heap.size,0,none⟩) n n,.slice (some ⟨w3.heap.size,0,none⟩) 1 1] 215;rw [e3] at hh;rw [←XA] at hh;have hi:IZ W4 w3.heap.size 1 [-1]:=by rw [XA];exact (IZ.lit w3 [-1] σ).upd ((aa.refl [] _).alloc _) σ
 have Um:aD W4 c F (NS.new n) 0:=(hC.ae hu3).ae hw;have hr4:=hr3.upd hw σ;have u4:aa [] w W4:=(hu1.trans hu3).trans hw;have hF':∀x,x∈F->x<w1.heap.size:=l7;have hnF:∀x,w1.heap.size<=x->x∉F:=fun x hx hm=>by have:=hF' x hm;omega
 have l5:=hw.size;rw [←XA];clear XA e3 hv hu3 hr3 hw hC;have H4:=χ (ψ Um (ψ hi (ψ u4 (ψ hF (ψ hF' hnF)))));clear Um hi u4 hF hF' hnF hu1 l7;go_wp2
 go_loopw [7,27] (fun v7 i wr=>∃ (k:Nat) (f:Nat->Value),k<=n/\i=.int .i64 k/\aG wr (w3.heap.size+1) 215 3 (fun j=>[Value.pointer (some ⟨c,0,none⟩),.slice (some ⟨w1.heap.size,0,none⟩) n n,.slice (some ⟨w3.heap.size,0,none⟩) 1 1].getD j undef)/\aG wr w1.heap.size 217 (n*3) f/\(∀j,j<k*3->f j=.int .i64 (-1))/\aa [w1.heap.size] W4 wr) (fun _ i _=>n-(intOf i).toNat)
 case atStart=>exact ⟨0,_,ω,rfl,hh.ext (fun j hj=>by (have h3:j<3:=by simpa using hj);rcases (ω:j=0\/j=1\/j=2) with rfl|rfl|rfl<;>rfl),hr4,ω,aa.refl _ _⟩
 case round=>
  obtain ⟨k,f,hk,rfl,hH,hR,hf,hu⟩:=hrel;rename World=>wr
  by_cases hkn:k<n
  ·have c0:=hH.cellAt 1 ω rfl;have d0:=hR.cell (k*3) ω;have d1:=hR.cell (k*3+1) ω;have d2:=hR.cell (k*3+2) ω;have e0:=hR.free (k*3);have e1:=hR.free (k*3+1);have e2:=hR.free (k*3+2);have HF:=χ (ψ hf (ψ hH (ψ hR hu)));have Gd:decide ((k:Int)<(n:Int))=true:=ζ;clear hf hH hR hu hh hr4;go_wp2
   go_roundw
   case rel=>
    obtain ⟨hf,hH,hR,hu⟩:=HF.out;refine ⟨k+1,_,ω,by go_num,((hH.far _ _ ζ).far _ _ ζ).far _ _ ζ,((hR.set _ _).set _ _).set _ _,fun j hj=>?_,((hu.setCell (Α σ) _).setCell (Α σ) _).setCell (Α σ) _⟩
    show (if j=k*3+2 then _ else if j=k*3+1 then _ else if j=k*3 then _ else f j)=_
    split
    ·rfl
    ·split
     ·rfl
     ·split
      ·rfl
      ·exact hf j ω
   case measure=>simp [intOf];omega
  ·obtain rfl:k=n:=ω;have Gd:decide ((k:Int)<(k:Int))=false:=σ;have HF:=χ (ψ hf (ψ hH (ψ hR hu)));clear hf hH hR hu hh hr4;go_wp2;go_ret2;obtain ⟨hf,hH,hR,hu⟩:=HF.out;obtain ⟨Um,hi,u4,hF,hF',hnF⟩:=H4.out;have hcs:=HCS.out
   refine ⟨⟨w3.heap.size+1,c,w1.heap.size⟩,F,w3.heap.size,rfl,⟨TS.none,[-1],⟨by rw [hcs];exact hH,Um.upd hu (fun x hx=>by simp at hx;rw [hx];exact hnF _ (Θ _)),?_,hi.upd hu ζ,rfl,⟨hnF _ (by simp only;omega),hnF _ (by simp only;omega),hnF _ ω⟩,⟨by simp only;omega,by simp only;omega,by simp only;omega⟩⟩,MB _,fun _=>trivial⟩,u4.joined hu (fun x hx=>Β (by simp at hx;omega)),fun x hx=>?_⟩
   ·rw [hcs];exact hR.ext (fun j hj=>by rw [hf j hj];unfold bW TS.none;simp)
   ·simp only [PB.blk,ρ] at hx;rcases hx with rfl|rfl|rfl|hx
    ·omega
    ·omega
    ·omega
    ·exact hF x hx
theorem wU.VD {A:NS} {S:TS} {af:List Int} {tr:Nat->BT} (h:wU Hg A S af tr) (hL:∀h,Lone (tr h)) {g:Nat} (hg:0<dG A g):∃m:Nat,(tr g).root=m/\bB A g=some m:=by
 obtain ⟨x,hx,hi,h0⟩:=dL.1 hg;have hxm:x∈(tr g).nodes:=(h.mem g x).2 ⟨ω,hx,hi⟩;cases ht:tr g with
 | nil=>rw [ht] at hxm;cases hxm
 | node m l r=>
  have hm:=(h.mem g m).1 (by rw [ht];simp [BT.nodes]);have hH:dP A (tr g):=h.heap g;have hl:=hL g;rw [ht] at hH hl;have hr:r=.nil:=hl;subst hr;refine ⟨m,rfl,(dD h0).2 ⟨hm.2.1,hm.2.2,fun y hy hyi=>?_⟩⟩;have hym:=(h.mem g y).2 ⟨ω,hy,hyi⟩;rw [ht] at hym;exact YT hH y hym
section
variable {w:World} {B:PB} {F:List Nat} {gt ct:Nat} {A:NS} {st:Nat} {tr:Nat->BT}
theorem y7 (h:mD w B F gt ct A st tr) (g:Nat) (hn:0<dG A g) :
  Calls Tryz.prog 213 #[.pointer (some ⟨B.n0,0,none⟩),.int .i64 (g:Int)] w fun e w'=>∃m:Nat,bB A g=some m/\(tr g).root=m/\e=.returned (.tuple #[.int .i64 (m:Int),.bool true])/\w'=w:=by
 obtain ⟨S,af,hM,hI,hL⟩:=h;obtain ⟨m,hm,hf⟩:=hI.VD hL hn;obtain ⟨x,hx,hi,h0⟩:=dL.1 hn;have ok:=hM.cells.ok;have hgl:g<A.hs.length:=by have:=(ok.nat x hx).2;omega
 have XZ:=ok.h1;have k:=nZ hM.cells (g:Int) ω;have hh0:=hM.h0;have h3:=hM.h2;have d:=hM.jC.cell g (by rw [hM.jA];exact hgl);rw [hI.top g hgl,hm] at d;have htl:g<af.length:=by rw [hM.jA];exact hgl
 generalize hl:dG A (g:Int)=n at *;have hb:((n:Int) == 0)=false:=ζ;have HF:=χ (ψ hf hm);clear hM hI hm hf hx hi h0 ok hl
 go_enter Tryz.func213,Tryz.ntmps213
 go_wp2_with (first|(go_at_call 142;(with_reducible refine (k).mono ?_);rintro e w9 ⟨rfl,aS⟩;rw [aS];clear aS w9))
 go_ret2;exact ⟨m,HF.out.1,HF.out.2,rfl,rfl⟩
theorem IG (h:mD w B F gt ct A st tr) (x:Int) (hx:-9223372036854775808<=x/\x<=9223372036854775807) (hn:dG A x=0) :
  Calls Tryz.prog 213 #[.pointer (some ⟨B.n0,0,none⟩),.int .i64 x] w fun e w'=>e=.returned (.tuple #[.int .i64 0,.bool false])/\w'=w:=by
 obtain ⟨S,af,hM, -⟩:=h;have k:=nZ hM.cells x hx;rw [hn] at k;have h0:=hM.h0;clear hM hn
 go_enter Tryz.func213,Tryz.ntmps213
 go_wp2_with (first|(go_at_call 142;(with_reducible refine (k).mono ?_);rintro e w9 ⟨rfl,aS⟩;rw [aS];clear aS w9))
 go_ret2;exact ⟨rfl,rfl⟩
theorem Km (h:mD w B F gt ct A st tr) (hl:65536<A.hs.length) :
  Calls Tryz.prog 211 #[.pointer (some ⟨B.n0,0,none⟩)] w fun e w'=>e=.returned (.int .i64 0)/\Goes (B.blk F gt) w w' (fun F'=>∃F1,F'=B.blk F1 gt/\mD w' B F1 gt ct A st tr):=by
 obtain ⟨S,af,hM,hI⟩:=h;have k:=gQ hM.cells;have e1:bS A=0:=by unfold bS;rw [Δ hl]
 have e2:aC A=A:=by unfold aC;rw [Δ hl]
 rw [e1,e2] at k;have h0:=hM.h0;have HM:=χ hM;have HI:=χ hI;clear hM hI e1 e2
 go_enter Tryz.func211,Tryz.ntmps211
 go_wp2_with (first|((go_at_call 156;(with_reducible refine (k).mono ?_));rintro e w1 ⟨rfl,F1,hC,hu,hF⟩))
 go_ret
 exact ⟨rfl,B.blk F1 gt,⟨F1,rfl,S,af,HM.out.fH hu hC hF rfl rfl,HI.out⟩,hu.mono (fun y hy=>by simp [PB.blk,hy]),fun x hx=>by
  simp only [PB.blk,ρ] at hx ⊢;rcases hx with rfl|rfl|rfl|hx
  ·simp
  ·simp
  ·simp
  ·rcases hF x hx with h|h
   ·simp [h]
   ·exact Β h⟩
theorem Hf (h:mD w B F gt ct A st tr) (hl:¬65536<A.hs.length) :
  Calls Tryz.prog 211 #[.pointer (some ⟨B.n0,0,none⟩)] w fun e w'=>e=.returned (.int .i64 (A.hs.length:Int))/\Goes (B.blk F gt) w w' (fun F'=>∃F1 nH DK,F'=B.blk F1 nH/\mD w' B F1 nH DK (aC A) st tr):=by
 obtain ⟨S,af,hM,hI,hL⟩:=h;have k:=gQ hM.cells;have e1:bS A=A.hs.length:=by unfold bS;rw [Γ hl]
 rw [e1] at k;have hcs:(aC A).cs.length=A.cs.length:=by unfold aC;rw [Γ hl]
 have nG:(aC A).hs.length=A.hs.length+1:=by unfold aC;rw [Γ hl];simp
 have hI2:=hI.make hM.cells.ok hM.jA hl;have h0:=hM.h0;have hh0:=hM.cells.ok.h0;have HTN:=χ hM.jA;have htb:af.length<=65536:=by rw [hM.jA];omega
 have HM:=χ hM;have HI:=χ (ψ hI2 hL);clear hM hI hL e1 hI2
 go_enter Tryz.func211,Tryz.ntmps211
 go_wp2_with (first
  | ((go_at_call 156;(with_reducible refine (k).mono ?_));rintro e w1 ⟨rfl,F1,hC,hu,hF⟩;(have d3:=hu.kept HM.out.h2 HM.out.bI.1);(have f3:=hu.aP HM.out.h2 HM.out.bI.1 (HM.out.head.free 2));(have ho1:=(HM.out.jC.upd hu HM.out.bI.2.2).own);(have g0:B.n0≠gt:=HM.out.sep.2.1);(have gl:=(HM.out.jC.upd hu HM.out.bI.2.2).lt))
  | ((at_builtin;refine aI rfl _ _ 26 rfl 0 3 (.int .i64 0) 1 8 Tryz.underlying26 dX rfl δ _ _ _ rfl (ho1) [.int .i64 (-1)] rfl (by simp [Value.oneCell']) (by first|rfl|(rw [Κ];rfl)) μ ω (ω) ?_;intro v2 w2 ho2 hu2 lF);(have hu2:aa [gt] w1 w2:=hu2);obtain ⟨nH,DK,ev,hI2, -⟩:=IZ.fQ (l:=af++[-1]) (by rw [bz,υ];exact ho2) σ;rw [υ,List.length_singleton] at ev;subst ev;(have d4:=hu2.kept d3 ζ);(have f4:=hu2.aP d3 ζ f3)))
 go_ret;have hM:=HM.out;have hlt:=hM.lt;have f:=hM.bI;have q:=hM.sep;have hw3:aa [B.n0] w2 (w2.setCell ⟨B.n0,2,none⟩ (.slice (some ⟨nH,0,none⟩) (af.length+1) DK)):=β;have hg1:nH=gt\/w1.heap.size<nH:=by
  rcases lF with h|h
  ·exact Α (Option.some.inj h)
  ·exact Β (h nH rfl)
 have hws:=hu.size;have jN:=hC.lt;have l0:=hlt B.n0 (by simp [PB.blk]);have l1:=hlt B.ba (by simp [PB.blk]);have l4:=hlt gt (by simp [PB.blk]);have hnF:∀y,y<w.heap.size->y∉F->y∉F1:=fun y hy hn hm=>by rcases hF y hm with h'|h';exact hn h';omega
 have xB:nH∉F1:=by
  rcases hg1 with e|e
  ·rw [e];exact hnF gt l4 f.2.2
  ·exact fun hm=>by have:=jN nH hm;omega
 have hb:w.heap.size<=nH\/nH=gt:=ω;have hhd:=((hM.head.upd hu f.1).upd hu2 ζ).set 2 (.slice (some ⟨nH,0,none⟩) (af.length+1) DK);refine ⟨rfl,B.blk F1 nH,⟨F1,nH,DK,rfl,S,af++[-1],⟨?_,?_,?_,hI2.upd hw3 ζ,?_,⟨hnF _ l0 f.1,hnF _ l1 f.2.1,xB⟩,⟨q.1,ω,ω⟩⟩,HI.out⟩,?_,fun y hy=>?_⟩
 ·rw [hcs,υ,List.length_singleton];refine hhd.ext (fun j hj=>?_);rcases (ω:j=0\/j=1\/j=2) with rfl|rfl|rfl<;>rfl
 ·exact (hC.upd hu2 (fun y hy=>by simp at hy;rw [hy];exact hnF gt l4 f.2.2)).upd hw3 (fun y hy=>by simp at hy;rw [hy];exact hnF _ l0 f.1)
 ·rw [hcs];exact ((hM.ties.upd hu f.2.1).upd hu2 ζ).upd hw3 ζ
 ·rw [υ,List.length_singleton,nG,HTN.out]
 ·have u1:aa (B.blk F gt) w w1:=hu.mono (fun y hy=>by simp [PB.blk,hy]);exact (u1.trans (hu2.mono (fun y hy=>by simp at hy;simp [PB.blk,hy]))).trans (hw3.mono (fun y hy=>by simp at hy;simp [PB.blk,hy]))
 ·simp only [PB.blk,ρ] at hy ⊢;rcases hy with rfl|rfl|rfl|hy
  ·simp
  ·simp
  ·rcases hb with h|h
   ·exact Β h
   ·exact Α (by simp [h])
  ·rcases hF y hy with h|h
   ·simp [h]
   ·exact Β h
end
section
variable {w:World} {B:PB} {F:List Nat} {gt ct:Nat} {A:NS} {st:Nat} {S:TS} {af:List Int}
theorem KE (h:fV w B F gt ct A st S af) (x:Nat) (hin:bV A (x:Int)=true) (l:BT) (hl:bT S (x:Int) (S.l x) l) (hlt:∀z,z∈l.nodes->z<A.cs.length) (hsz:l.size<=65536) :
  Calls Tryz.prog 217 #[.pointer (some ⟨B.n0,0,none⟩),.int .i64 (x:Int)] w fun e w'=>∃ao co,e=.returned (.slice ao (bu l).length co)/\w'.ownsRow w.heap.size 3 1 (.slice ao (bu l).length co) (bu l).length (aM (bP (bu l)))/\fV w' B F gt ct A st S af/\aa F w w':=by
 have kh:=jq h.cells x hin;have hx:=(aj _ _).1 hin;have hA:=h.cells.ok.c1;have c0:=h.h0;have hM1:∀w1,aD w1 B.c F A st->aa F w w1->fV w1 B F gt ct A st S af:=fun w1 hC hu=>h.fH hu hC (fun z hz=>Α hz) rfl rfl;have FX:(x:Int)<(A.cs.length:Int):=ω;have HL:=χ (ψ hl hlt);clear h hl hlt
 go_enter Tryz.func217,Tryz.ntmps217
 go_upto_region 5 with (first
  | ((go_at_call 140;(with_reducible refine (kh).mono ?_));rintro e w1 ⟨rfl,hC,hu1⟩)
  | fail)
 have hM:=hM1 w1 hC hu1;have c1:=hM.h1;have dl:=hM.l x hx.1;have hs1:=hu1.size;have HM:=χ (ψ hM hu1);have hlr:=HL.out.1.root;rw [hlr] at dl;clear hM hM1 hC hu1 kh;go_wp2
 go_loopg [7,8] l.size (fun fu ov zv wr=>∃ (t:BT) (p:Int) (o:List Int) (k:Nat) (ao:Option Addr) (co:Nat),zv=.int .i64 t.root/\ov=.slice ao k co/\bT S p t.root t/\(∀z,z∈t.nodes->z<A.cs.length)/\wr.ownsRow w1.heap.size 3 1 (.slice ao k co) k (aM o)/\o++bP (bu t)=bP (bu l)/\t.size<=fu/\k+t.size<=65536/\aa [] w1 wr)
 case atStart=>exact ⟨l,x,[],0,none,0,rfl,rfl,by rw [←hlr];exact HL.out.1,HL.out.2,⟨rfl,Α ⟨rfl,rfl⟩⟩,rfl,Θ _,ω,aa.refl _ _⟩
 case round=>
  rename Nat=>fu;obtain ⟨t,p,o,k,ao,co,rfl,rfl,hT,hlt,ho,Cb,hfu,hk,hu⟩:=hrel;rename World=>wr;cases t with
  | nil=>
   have hr:(BT.nil.root != (-1:Int))=false:=rfl;have hk2:k=(bu l).length:=by
    have h1:=ho.1;rw [dO] at h1;have h2:=congrArg List.length Cb;simp [bP,bu] at h2;omega
   have hr2:(BT.nil).root=-1:=rfl;rw [hr2] at *;have HO:=χ (ψ ho (ψ Cb (ψ hu hk2)));clear ho Cb hT hlt;go_wp2;go_ret;obtain ⟨ho,Cb,hu,hk2⟩:=HO.out;subst hk2;have e:o=bP (bu l):=by simpa [bP,bu] using Cb
   rw [e] at ho;exact ⟨ao,co,rfl,jT ho hs1,HM.out.1.ae hu,HM.out.2.then hu⟩
  | node y a b=>
   have hyl:y<A.cs.length:=hlt y (by simp [BT.nodes]);have hy2:(BT.node y a b).root=(y:Int):=rfl;rw [hy2] at *;have hyb:((y:Int) != -1)=true:=σ;have Xa:(y:Int)<(A.cs.length:Int):=ω;have hMw:=HM.out.1.ae hu;have e1:=hMw.h1;have e2:=hMw.r y hyl;rw [hT.2.2.2.root] at e2;have hos:=hu.size;simp only [BT.size] at hfu hk;obtain ⟨fv,rfl⟩:∃fv,fu=fv+1:=⟨fu-1,ω⟩;have HO:=χ (ψ hT (ψ hlt (ψ Cb hu)));clear hT hlt Cb hMw;have hb2:w1.heap.size<=wr.heap.size:=hos;have hnba:B.n0<w1.heap.size/\B.ba<w1.heap.size:=⟨HM.out.1.lt _ (by simp [PB.blk]),HM.out.1.lt _ (by simp [PB.blk])⟩
   go_wp2_with (first|((at_builtin;refine aI rfl _ _ 26 rfl w1.heap.size 3 (.int .i64 0) 1 8 Tryz.underlying26 dX rfl δ _ _ _ rfl (ho) [.int .i64 (y:Int)] rfl (by simp [Value.oneCell']) (by first|rfl|(rw [Κ];rfl)) μ ω (ω) ?_;intro v2 w2 ho2 hu2 lF);obtain ⟨a2,c2,rfl,hc2⟩:=aU ho2;(have hv2:aa [] w1 w2:=HO.out.2.2.2.own ho (Θ _) hu2);(have hn2:B.n0∉(Value.slice ao k co).ownBlock.toList:=fun hm=>by (have h9:=(ho.lt B.n0 (Option.mem_toList.1 hm)).1);omega);(have JF:B.ba∉(Value.slice ao k co).ownBlock.toList:=fun hm=>by (have h9:=(ho.lt B.ba (Option.mem_toList.1 hm)).1);omega);(have e3:=hu2.kept e1 hn2);(have e4:=hu2.kept e2 JF))|fail)
   go_roundg fv
   case rel=>
    obtain ⟨hT,hlt,Cb,hu⟩:=HO.out;refine ⟨b,y,o++[(y:Int)],k+1,a2,c2,rfl,rfl,?_,fun z hz=>hlt z (by simp [BT.nodes,hz]),by rw [bz];exact ho2,?_,ω,ω,hv2⟩
    ·have h4:=hT.2.2.2;rw [h4.root] at h4;exact h4
    ·rw [←Cb];simp [bP,bu,BT.root]
   all_goals omega
end
end Go.Proofs.YtklibcncmbofpaaGreat
namespace Go.Proofs.YtklibcncmbofpaaGreat
structure Rl (A:NS) (S:TS) (l:List BT):Prop where
 ok:∀t,t∈l->bT S (-1) t.root t/\Lone t
 nd:(fA l).Nodup
 inn:∀z,z∈fA l->bV A (z:Int)=true
theorem Rl.link {A:NS} {S S':TS} {D r:List BT} {a b:BT} (h:Rl A S (D++a::b::r)) (hT:bT S' (-1) (dA A a b).root (dA A a b)) (hs:∀z,z∉a.nodes++b.nodes->S.at S' z):Rl A S' (D++dA A a b::r):=by
 have la:=(h.ok a σ).2;have lb:=(h.ok b σ).2;have hp:(fA (D++dA A a b::r)).Perm (fA (D++a::b::r)):=by
  rw [dW,dW,bC,bC,bC,←ϋ a.nodes];exact ((lQ A la lb).append_right _).append_left _
 have hnd:=h.nd;rw [dW,bC,bC] at hnd;rw [θ] at hnd;obtain ⟨_,n2,n3⟩:=hnd;rw [←ϋ,θ] at n2;obtain ⟨_,_,n4⟩:=n2;refine ⟨fun t ht=>?_,hp.nodup_iff.2 h.nd,fun z hz=>h.inn z (hp.mem_iff.1 hz)⟩;rcases τ.1 ht with e|e
 ·have h1:=h.ok t (by simp [e]);refine ⟨h1.1.frame (fun z hz=>hs z (fun hm=>?_)),h1.2⟩;refine n3 z (List.mem_flatMap.2 ⟨t,e,hz⟩) z ?_ rfl;rcases τ.1 hm with e2|e2
  ·exact τ.2 (Α e2)
  ·exact τ.2 (Β (τ.2 (Α e2)))
 ·rcases ρ.1 e with e|e
  ·rw [e];exact ⟨hT,nW A la lb⟩
  ·have h1:=h.ok t (by simp [e]);exact ⟨h1.1.frame (fun z hz=>hs z (fun hm=>n4 z hm z (List.mem_flatMap.2 ⟨t,e,hz⟩) rfl)),h1.2⟩
theorem Rl.two {A:NS} {S:TS} {D r:List BT} {a b:BT} (h:Rl A S (D++a::b::r)):bT S (-1) a.root a/\bT S (-1) b.root b/\Lone a/\Lone b/\(a.nodes++b.nodes).Nodup/\∀z,z∈a.nodes++b.nodes->bV A (z:Int)=true:=by
 have hnd:=h.nd;rw [dW,bC,bC,θ] at hnd;have n2:=hnd.2.1;rw [←ϋ,θ] at n2;refine ⟨(h.ok a σ).1,(h.ok b σ).1,(h.ok a σ).2,(h.ok b σ).2,n2.1,fun z hz=>h.inn z ?_⟩;rw [dW,bC,bC,←ϋ];simp only [τ] at hz ⊢;rcases hz with e|e
 ·simp [e]
 ·simp [e]
theorem Mq (S:TS) (x:Nat):∀z,(fe S x []).l z=(S.aB x false (-1)).l z/\(fe S x []).r z=(S.aB x false (-1)).r z/\(fe S x []).u z=(S.aB x false (-1)).u z:=fun z=>by
 unfold fe TS.aB;simp
theorem Ik (S:TS) (x k j:Nat) (ks:List Int) (h:ks[j]?=some (k:Int)):∀z,(fe S x (ks.take (j+1))).l z=(((fe S x (ks.take j)).aB k true (-1)).bJ k (-1)).l z/\(fe S x (ks.take (j+1))).r z=(((fe S x (ks.take j)).aB k true (-1)).bJ k (-1)).r z/\(fe S x (ks.take (j+1))).u z=(((fe S x (ks.take j)).aB k true (-1)).bJ k (-1)).u z:=fun z=>by
 have e:ks.take (j+1)=ks.take j++[(k:Int)]:=by rw [ϐ,h];rfl
 rw [e];unfold fe TS.aB TS.bJ;have hz:((z:Int)=(k:Int))=(z=k):=propext ⟨fun h=>ω,fun h=>ω⟩;simp only [τ,ϕ,hz];refine ⟨σ,?_,?_⟩
 ·by_cases h1:z=k
  ·simp [h1]
  ·simp [h1]
 ·by_cases h1:z=k
  ·simp [h1]
  ·simp [h1]
theorem La (A:NS) {l:List BT} {j:Nat} (h:2*j+1<l.length):∃a b r,l.drop (2*j)=a::b::r/\l[2*j]?=some a/\l[2*j+1]?=some b/\r=l.drop (2*(j+1))/\(bK A l).take (j+1)=(bK A l).take j++[dA A a b]:=by
 have h1:l.drop (2*j)=l[2*j]::l[2*j+1]::l.drop (2*j+2):=by
  rw [Ϣ ω,Ϣ ω]
 refine ⟨l[2*j],l[2*j+1],l.drop (2*j+2),h1,ε _,ε _,by rw [show 2*(j+1)=2*j+2 by omega],?_⟩;have h2:=sN A j l ω;rw [h1] at h2;have hl:((bK A l).take j).length=j:=by rw [ϑ,qz];omega
 have h3:(bK A l)[j]?=some (dA A l[2*j] l[2*j+1]):=by
  rw [h2,ϊ ω,hl,Nat.sub_self];rfl
 rw [ϐ,h3];rfl
theorem LP (A:NS) {l:List BT} {j:Nat} (h:2*j+1=l.length):∃a,l.drop (2*j)=[a]/\l[2*j]?=some a/\(bK A l).take (j+1)=(bK A l).take j++[a]/\l.drop (2*(j+1))=[]:=by
 have h1:l.drop (2*j)=[l[2*j]]:=by
  rw [Ϣ ω,List.drop_eq_nil_of_le ω]
 refine ⟨l[2*j],h1,ε _,?_,List.drop_eq_nil_of_le ω⟩;have h2:=sN A j l ω;rw [h1] at h2;have hl:((bK A l).take j).length=j:=by rw [ϑ,qz];omega
 have h3:(bK A l)[j]?=some l[2*j]:=by
  rw [h2,ϊ ω,hl,Nat.sub_self];rfl
 rw [ϐ,h3];rfl
theorem O4 (A:NS) {l:List BT} {j:Nat} (h:l.length<=2*j):(bK A l).take j=bK A l:=List.take_of_length_le (by rw [qz];omega)
theorem rest_step (A:NS) {l:List BT} {j:Nat} (h:j<l.length):eH A (l.drop j)=dA A l[j] (eH A (l.drop (j+1))):=by
 rw [Ϣ h];rfl
theorem Rl.start {A:NS} {S:TS} {x:Nat} {l:BT} (hl:bT S (x:Int) (S.l x) l) (hn:(x::l.nodes).Nodup) (hin:∀z,z∈l.nodes->bV A (z:Int)=true):Rl A (fe S x (bP (bu l))) (bu l):=by
 obtain ⟨n1,n2⟩:=List.nodup_cons.1 hn;have e:=hl.root;rw [e] at hl;have YI:∀ (t:BT) u,u∈bu t->Lone u:=by
  intro t
  induction t with
  | nil=>intro u hu;cases hu
  | node y a b _ ih=>
   intro u hu;simp only [bu,ρ] at hu;rcases hu with e|e
   ·subst e;rfl
   ·exact ih u e
 exact ⟨fun t ht=>⟨FM hl n2 n1 (fun z hz=>Iff.rfl) t ht,YI l t ht⟩,(iH l).nodup_iff.2 n2,fun z hz=>hin z ((iH l).mem_iff.1 hz)⟩
structure Jw (A:NS) (S0 S:TS) (l:BT) (L:List BT):Prop where
 fo:Rl A S L
 sub:∀z,z∈fA L->z∈l.nodes
 fr:∀z,z∉l.nodes->S0.at S z
theorem Jw.link {A:NS} {S0 S S':TS} {l:BT} {D r:List BT} {a b:BT} (h:Jw A S0 S l (D++a::b::r)) (hT:bT S' (-1) (dA A a b).root (dA A a b)) (hs:∀z,z∉a.nodes++b.nodes->S.at S' z):Jw A S0 S' l (D++dA A a b::r):=by
 have la:=(h.fo.ok a σ).2;have lb:=(h.fo.ok b σ).2;have hp:(fA (D++dA A a b::r)).Perm (fA (D++a::b::r)):=by
  rw [dW,dW,bC,bC,bC,←ϋ a.nodes];exact ((lQ A la lb).append_right _).append_left _
 refine ⟨h.fo.link hT hs,fun z hz=>h.sub z (hp.mem_iff.1 hz),fun z hz=>?_⟩;have h1:=h.fr z hz
 have h2:=hs z (fun hm=>hz (h.sub z (by
  rw [dW,bC,bC,←ϋ];simp only [τ] at hm ⊢;rcases hm with e|e
  ·simp [e]
  ·simp [e])))
 exact ⟨h2.1.trans h1.1,h2.2.1.trans h1.2.1,h2.2.2.trans h1.2.2⟩
theorem Jw.start {A:NS} {S:TS} {x:Nat} {l:BT} (hl:bT S (x:Int) (S.l x) l) (hn:(x::l.nodes).Nodup) (hin:∀z,z∈l.nodes->bV A (z:Int)=true):Jw A (fe S x (bP (bu l))) (fe S x (bP (bu l))) l (bu l):=
 ⟨Rl.start hl hn hin,fun z hz=>(iH l).mem_iff.1 hz,fun z _=>⟨rfl,rfl,rfl⟩⟩
theorem Jw.nil {A:NS} {S0 S:TS} {l:BT} {L:List BT} (h:Jw A S0 S l L):Jw A S0 S l (L++[BT.nil]):=by
 have e:fA (L++[BT.nil])=fA L:=by rw [dW];simp [fA,BT.nodes]
 refine ⟨⟨fun t ht=>?_,by rw [e];exact h.fo.nd,by rw [e];exact h.fo.inn⟩,by rw [e];exact h.sub,h.fr⟩;rcases τ.1 ht with e|e
 ·exact h.fo.ok t e
 ·have e2:t=.nil:=by simpa using e
  subst e2;exact ⟨rfl,trivial⟩
theorem Jw.done {A:NS} {S S':TS} {x:Nat} {l t:BT} (h:Jw A (fe S x (bP (bu l))) S' l [t]) (hx:x∉l.nodes):bT S' (-1) t.root t/\S'.l x=-1/\S'.r x=S.r x/\S'.u x=S.u x/\∀z,z∉x::l.nodes->S.at S' z:=by
 have h1:=h.fr x hx;have hk:∀z:Nat,z∉l.nodes->(z:Int)∉bP (bu l):=fun z hz hm=>hz (JY hm);have hs:∀z:Nat,z∉l.nodes->z≠x->S.at (fe S x (bP (bu l))) z:=fun z hz hzx=>P7 hzx (hk z hz);refine ⟨(h.fo.ok t σ).1,?_,?_,?_,fun z hz=>?_⟩
 ·rw [h1.1];simp [fe]
 ·rw [h1.2.1];simp [fe,hk x hx]
 ·rw [h1.2.2];simp [fe,hk x hx]
 ·simp only [ρ,not_or] at hz;have h2:=h.fr z hz.2;have h3:=hs z hz.2 hz.1;exact ⟨h2.1.trans h3.1,h2.2.1.trans h3.2.1,h2.2.2.trans h3.2.2⟩
theorem lZ {l:List BT} {j:Nat} {t:BT} (h:l[j]?=some t):(bP l).getD j 0=t.root/\(bP l)[j]?=some t.root:=by
 unfold bP;simp [φ,h]
theorem Gr (l:List BT):(bP l).length=l.length:=by unfold bP;simp
theorem sG (a b:List BT):bP (a++b)=bP a++bP b:=by unfold bP;rw [List.map_append]
theorem Et:∀ (t:BT),(bu t).length<=t.nodes.length
 | .nil=>Θ _
 | .node x l r=>by
  have:=Et r;simp only [bu,Ω,BT.nodes,υ];omega
theorem LZ (A:NS) {tw:List BT} {i:Nat} (h:i<tw.length):tw.take (i+1)=tw.take i++[tw[i]]/\eH A (tw.drop i)=dA A tw[i] (eH A (tw.drop (i+1))):=by
 refine ⟨?_,rest_step A h⟩;rw [ϐ,ε h];rfl
end Go.Proofs.YtklibcncmbofpaaGreat
namespace Go.Proofs.YtklibcncmbofpaaGreat
open Go Go.RowKit
section
variable {w:World} {B:PB} {F:List Nat} {gt ct:Nat} {A:NS} {st:Nat} {S:TS} {af:List Int}
def KV (w:World) (base:Nat) (v:Value) (xs:List Int):Prop:=w.ownsRow base 3 1 v xs.length (aM xs)
theorem KV.cell {W:World} {base:Nat} {a:Option Addr} {n c:Nat} {xs:List Int} (h:W.ownsRow base 3 1 (.slice a n c) n (aM xs)) {j:Nat} {y:Int} (hj:xs[j]?=some y):∃g,a=some ⟨g,0,none⟩/\base<=g/\g<W.heap.size/\∀W',aa [] W W'->W'.cell? ⟨g,j,none⟩=some (.int .i64 y):=by
 have hl:=h.1;rw [dO] at hl;have hjl:j<xs.length:=(List.getElem?_eq_some_iff.1 hj).1;obtain ⟨g,cap,e,hb,_⟩:=dH h ω
 injection e with e1 e2 e3
 subst e1;have hlt:=h.lt g rfl;refine ⟨g,rfl,hb,hlt.2,fun W' hW=>hW.was ?_⟩;rw [h.cellAt j ω,jg hjl,φ,hj];rfl
theorem yH (h:fV w B F gt ct A st S af) (x:Nat) (hin:bV A (x:Int)=true) (l:BT) (hl:bT S (x:Int) (S.l x) l) (hnd:(x::l.nodes).Nodup) (hinl:∀z,z∈l.nodes->bV A (z:Int)=true) (hsz:l.size<=65536) :
    Calls Tryz.prog 216 #[.pointer (some ⟨B.n0,0,none⟩),.int .i64 (x:Int)] w fun e w'=>e=.returned (.int .i64 (eH A (bK A (bu l))).root)/\aa (B.ba::F) w w'/\∃st' S',fV w' B F gt ct A st' S' af/\bT S' (-1) (eH A (bK A (bu l))).root (eH A (bK A (bu l)))/\S'.l x=-1/\S'.r x=S.r x/\S'.u x=S.u x/\∀z,z∉x::l.nodes->S.at S' z:=by
  have hx:=(aj _ _).1 hin;have hA:=h.cells.ok.c1;have hlt:∀z,z∈l.nodes->z<A.cs.length:=fun z hz=>((aj _ _).1 (hinl z hz)).1;have kk:=KE h x hin l hl hlt hsz;have hlen:(bu l).length<=65536:=by have:=Et l;rw [BT.jP] at this;omega
  have HS:=χ (Jw.start hl hnd hinl);have hxl:x∉l.nodes:=(List.nodup_cons.1 hnd).1;have hkr:∀ (j:Nat) (k:BT),(bu l)[j]?=some k->∃y:Nat,k.root=(y:Int)/\y<A.cs.length:=fun j k hk=>by
    have h1:=D7 (Η hk);exact ⟨_,h1.2.1,hlt _ ((iH l).mem_iff.1 (List.mem_flatMap.2 ⟨k,Η hk,h1.1⟩))⟩
  have HK:=χ (ψ hkr (ψ hxl hlen));have hbl:=h.lt;have hn0:B.n0<w.heap.size/\B.ba<w.heap.size/\∀z,z∈F->z<w.heap.size:=⟨hbl _ (by simp [PB.blk]),hbl _ (by simp [PB.blk]),fun z hz=>hbl z (by simp [PB.blk,hz])⟩;clear hlt hl hnd hinl hkr hxl hbl;generalize hks:bu l=ks at *
  go_enter Tryz.func216,Tryz.ntmps216
  go_upto_region 2 with (first
    | ((go_at_call 217;(with_reducible refine (kk).mono ?_));rintro e w1 ⟨ao,co,rfl,ho,hM1,hu1⟩)
    | fail)
  clear h kk;have hs1:=hu1.size;have c1:=hM1.h1;have dl:=hM1.l x hx.1;have ff:=hM1.f (x*3);have FX:(x:Int)<(A.cs.length:Int):=ω;have HO:=χ (ψ ho (ψ hM1 hu1));clear ho hM1 hu1;obtain ⟨hkr,hxl,hlen⟩:=HK.out;clear hkr hxl
  go_upto_region 3 with (fail)
  refine eY (fun W=>fV W B F gt ct A st (S.aB x false (-1)) af/\aa [B.ba] w1 W) ⟨(HO.out.2.1.GJ x (-1)).ae (by first|exact ⟨rfl,rfl,rfl,Θ _,fun _ _ _=>rfl⟩|exact ν),β⟩ ?_;rintro W ⟨lu,hu2⟩;have HW:=χ (ψ lu hu2);clear lu hu2 c1 dl ff;go_wp2
  go_loopw [7,24] (fun v7 v24 wr=>∃ (j:Nat),j<=ks.length/\v24=.int .i64 (j:Int)/\fV wr B F gt ct A st (fe S x ((bP ks).take j)) af/\aa [B.ba] w1 wr) (fun _ v24 _=>ks.length-(intOf v24).toNat)
  case atStart=>exact ⟨0,Nat.zero_le _,rfl,by rw [List.take_zero];exact HW.out.1.ext (Mq S x),HW.out.2⟩
  case round=>
    obtain ⟨j,hj,rfl,hM,hu⟩:=hrel;rename World=>wr
    by_cases hjn:j<ks.length
    · obtain ⟨t,ht⟩:∃t,ks[j]?=some t:=⟨ks[j],ε hjn⟩
      obtain ⟨y,hy,hyl⟩:=HK.out.1 j t ht;have hro:=(lZ ht).2;rw [hy] at hro;obtain ⟨g,rfl,hg1,hg2,hgc⟩:=KV.cell HO.out.1 hro;have hgr:wr.cell? ⟨g,j,none⟩=some (.int .i64 (y:Int)):=hu.kept (hgc w1 (aa.refl _ _)) ζ;have c1:=hM.h1;have dr:=hM.r y hyl;have du:=hM.u y hyl;have QV:=hM.f (y*3+1);have QY:=hM.f (y*3+2);have J3:decide ((j:Int)<(ks.length:Int))=true:=ζ;have Xa:(y:Int)<(A.cs.length:Int):=ω;have hn1:¬B.n0=B.ba:=hM.sep.1;have hn2:¬B.ba=B.n0:=fun e=>hM.sep.1 e.symm;have HM:=χ (ψ hM (ψ hu hro));clear hM hu hro hy ht hgc;go_wp2
      go_region_law (fail)
      all_goals
        go_wp2
        go_roundw
        case rel=>
          refine ⟨j+1,ω,by go_num,?_,HM.out.2.1.trans β⟩;exact (((HM.out.1.dw y (-1)).qB y (-1)).ae (by first|exact ⟨rfl,rfl,rfl,Θ _,fun _ _ _=>rfl⟩|exact ν)).ext (Ik S x y j (bP ks) HM.out.2.2)
        case measure=>simp [intOf];omega
    · obtain rfl:j=ks.length:=ω
      have J3:decide ((ks.length:Int)<(ks.length:Int))=false:=σ;have e:(bP ks).take ks.length=bP ks:=List.take_of_length_le (by rw [Gr];exact Θ _);rw [e] at hM;have HM:=χ (ψ hM hu);clear hM hu e;go_wp2;refine eY (fun W=>aa [] wr W) (by first|exact ⟨rfl,rfl,rfl,Θ _,fun _ _ _=>rfl⟩|exact ν) ?_;intro W2 hW2;have vv:=χ (ψ (HM.out.1.ae hW2) (HM.out.2.trans (hW2.mono σ)));have hs2:=vv.out.2.size;clear HM hW2
      go_loopw [8,9] (fun v8 v9 wr=>∃ (j m:Nat) (a2:Option Addr) (c2:Nat) (st':Nat) (S':TS),m=2*j/\j<=(bK A ks).length/\v9=.int .i64 (m:Int)/\v8=.slice a2 j c2/\wr.ownsRow W2.heap.size 3 1 (.slice a2 j c2) j (aM (bP ((bK A ks).take j)))/\fV wr B F gt ct A st' S' af/\Jw A (fe S x (bP ks)) S' l ((bK A ks).take j++ks.drop m)/\aa [B.ba,B.c] W2 wr) (fun _ v9 _=>ks.length+2-(intOf v9).toNat)
      case atStart=>exact ⟨0,0,none,0,st,_,rfl,Nat.zero_le _,rfl,rfl,⟨rfl,Α ⟨rfl,rfl⟩⟩,vv.out.1,by simpa using HS.out,aa.refl _ _⟩
      case round=>
        obtain ⟨j,m,a2,c2,st',S',hm,hj,rfl,rfl,ho2,hM,hF,hu⟩:=hrel;rename World=>wr;have htl:=qz A ks;have hos:=hu.size;have hbl:∀z,z∈B.blk F gt->z<W2.heap.size:=vv.out.1.lt;have hgb:∀g,g∈(Value.slice a2 j c2).ownBlock.toList->W2.heap.size<=g:=fun g hg=>(ho2.lt g (Option.mem_toList.1 hg)).1;have xA:B.ba<W2.heap.size/\B.c<W2.heap.size:=⟨hbl _ (by simp [PB.blk]),hbl _ (by simp [PB.blk,hM.cF])⟩;have HG:=χ (ψ hbl hgb);have hw1:aa [B.ba,B.c] w1 wr:=(vv.out.2.mono σ).trans hu
        by_cases CW:m<ks.length
        · have hmI:decide ((m:Int)<(ks.length:Int))=true:=ζ
          have hjb:j<=65536:=ω;have hwr:IntKind.i64.wrap ((m:Int)+1)=(m:Int)+1:=Μ _ ω
          by_cases hlast:m+1=ks.length
          · obtain ⟨t,l1,l2,l3,l4⟩:=LP A (l:=ks) (j:=j) ω
            rw [←hm] at l1 l2;have hro:=(lZ l2).2;obtain ⟨g,rfl,hg1,hg2,hgc⟩:=KV.cell HO.out.1 hro;have hgr:wr.cell? ⟨g,m,none⟩=some (.int .i64 t.root):=hw1.kept (hgc w1 (aa.refl _ _)) (by simp;have:=hn0.2.2 _ hM.cF;omega);have hqI:((m:Int)+1 == (ks.length:Int))=true:=ζ;have HL:=χ (ψ hM (ψ hF (ψ hu (ψ l1 (ψ l3 (ψ l4 (ψ hm htl)))))));clear hM hF hu hw1 l1 l2 l3 l4 hro hgc hm htl hlast hbl hgb xA
            go_wp2_with (first
              | ((at_builtin;refine aI rfl _ _ 26 rfl W2.heap.size 3 (.int .i64 0) 1 8 Tryz.underlying26 dX rfl δ _ _ _ rfl (ho2) [.int .i64 t.root] rfl (by simp [Value.oneCell']) (by first|rfl|(rw [Κ];rfl)) μ ω (ω) ?_;intro v2 w2 ho3 hu3 lF);obtain ⟨a3,c3,rfl,hc3⟩:=aU ho3)
              | fail)
            go_roundw
            case rel=>
              obtain ⟨hM,hF,hu,l1,l3,l4,hm,htl⟩:=HL.out;refine ⟨j+1,m+2,a3,c3,st',S',ω,ω,by go_num,rfl,?_,hM.upd hu3 (fun g hg hb=>by have:=HG.out.1 g hb;have:=HG.out.2 g hg;omega),?_,hu.joined hu3 (fun g hg=>Β (HG.out.2 g hg))⟩
              · rw [l3,sG,bz];exact ho3
              · rw [show m+2=2*(j+1) by omega,l4,l3,Υ,←l1];exact hF
            case measure=>simp [intOf];omega
          · obtain ⟨ta,tb,r,l1,l2,l2b,l3,l4⟩:=La A (l:=ks) (j:=j) ω
            rw [←hm] at l1 l2 l2b;have Y1:=(lZ l2).2;have Yf:=(lZ l2b).2;obtain ⟨g,rfl,hg1,hg2,hgc⟩:=KV.cell HO.out.1 Y1;obtain ⟨g',e', -, -,Zh⟩:=KV.cell HO.out.1 Yf;cases e';have UJ:g∉[B.ba,B.c]:=by simp;have:=hn0.2.2 _ hM.cF;omega
            have hgr:wr.cell? ⟨g,m,none⟩=some (.int .i64 ta.root):=hw1.kept (hgc w1 (aa.refl _ _)) UJ;have hgr':wr.cell? ⟨g,m+1,none⟩=some (.int .i64 tb.root):=hw1.kept (Zh w1 (aa.refl _ _)) UJ;have hqI:((m:Int)+1 == (ks.length:Int))=false:=ζ;have hm1:m+1<ks.length:=ω;have hm1I:(m:Int)+1<(ks.length:Int):=ω;have hm0I:(0:Int)<=(m:Int)+1:=ω;rw [l1] at hF;obtain ⟨t1,t2,t3,t4,t5,t6⟩:=hF.fo.two;have kl:=fun W (hW:aa [] wr W)=>xC (hM.ae hW) ta tb t1 t2 t3 t4 t5 t6;have HL:=χ (ψ hF (ψ hu (ψ l3 (ψ l4 (ψ hm htl)))))
            clear hM hF hu hw1 l1 l2 l2b l3 l4 Y1 Yf hgc Zh hm htl hlast hbl hgb t1 t2 t3 t4 t5 t6 UJ;have hcb:∀k,(Value.slice a2 j c2).ownBlock=some k->k∉[B.ba,B.c]:=fun k hk=>by have:=HG.out.2 k (Option.mem_toList.2 hk);simp;omega
            have HC:=χ hcb;clear hcb
            go_upto_region 14 with (fail)
            go_region_law (first
              | (go_simp;go_at_call 215;(with_reducible refine (kl _ β).mono ?_);rintro e w3 ⟨rfl,Rk,ZC,S3,oP,Ai,hf3⟩;(have hu3:aa [B.ba,B.c] wr w3:=aa.trans β Rk);(have ho3:=ay ho2 hu3 HC.out);(have hos3:=hu3.size))
              | (refine iV rfl _ _ 26 rfl W2.heap.size 3 (.int .i64 0) 1 8 Tryz.underlying26 dX rfl δ (.slice a2 j c2) j (aM (bP ((bK A ks).take j))) rfl (ho3.alloc _) w3.heap.size [.int .i64 (dA A ta tb).root] rfl rfl (fun i u hi=>kQ w3 [.int .i64 (dA A ta tb).root] 3 i u hi) (by simp [Value.oneCell']) μ ω ζ ?_
                 intro v2 w2 Zn hu4a hv2;have om:aa (Value.slice a2 j c2).ownBlock.toList w3 w2:=aa.trans ((aa.refl _ _).alloc _) hu4a
                 obtain ⟨a3,c3,rfl,hc3⟩:=aU Zn)
              | fail)
            all_goals
              go_wp2
              go_roundw
              case rel=>
                obtain ⟨hF,hu,l3,l4,hm,htl⟩:=HL.out;refine ⟨j+1,m+2,a3,c3,ZC,S3,ω,ω,by go_num,rfl,?_,oP.upd om (fun g hg hb=>by have:=HG.out.1 g hb;have:=HG.out.2 g hg;omega),?_,(hu.trans hu3).joined om (fun g hg=>Β (HG.out.2 g hg))⟩
                · rw [l4,sG,bz];exact Zn
                · rw [show m+2=2*(j+1) by omega,←l3,l4,ϋ];exact hF.link Ai hf3
              case measure=>simp [intOf];omega
        · have hmI:decide ((m:Int)<(ks.length:Int))=false:=ζ
          have hjl:j=(bK A ks).length:=ω;have hdr:ks.drop m=[]:=List.drop_eq_nil_of_le ω;rw [O4 A ω] at ho2 hF;rw [hdr,Υ] at hF;have htn:(bK A ks).length<=65536:=ω;generalize htw:bK A ks=tw at *;subst hjl;have hF2:=hF.nil;have HL:=χ (ψ hM (ψ hF2 (ψ hw1 htw)));have HO2:=χ ho2;clear hM hF hu hw1 hF2 ho2 hdr hm hj htl hbl hgb htw;go_wp2;refine eY (fun W=>aa [] wr W) (by first|exact ⟨rfl,rfl,rfl,Θ _,fun _ _ _=>rfl⟩|exact ν) ?_;intro W3 hW3;have HW3:=χ hW3;clear hW3
          go_loopw [10,11] (fun v10 v11 wr3=>∃ (i ZC:Nat) (S3:TS),i<=tw.length/\v11=.int .i64 ((i:Int)-1)/\v10=.int .i64 (eH A (tw.drop i)).root/\fV wr3 B F gt ct A ZC S3 af/\Jw A (fe S x (bP ks)) S3 l (tw.take i++[eH A (tw.drop i)])/\aa [B.ba,B.c] W3 wr3) (fun _ v11 _=>((intOf v11)+1).toNat)
          case atStart=>
            have e1:tw.drop tw.length=[]:=List.drop_length;have e2:tw.take tw.length=tw:=List.take_length;refine ⟨tw.length,st',S',Θ _,by go_num,by rw [e1];rfl,HL.out.1.ae HW3.out,?_,aa.refl _ _⟩;rw [e1,e2];exact HL.out.2.1
          case round=>
            obtain ⟨i,ZC,S3,hi,hz,rfl,hM,hF,hu⟩:=hrel;rename World=>wr3;cases i with
            | zero=>
              have hz2:((0:Nat):Int)-1=-1:=rfl;rw [hz2] at hz;subst hz;rw [List.drop_zero,List.take_zero,Ϡ] at hF;simp only [List.drop_zero];have HR:=χ (ψ hM (ψ hF hu));clear hM hF hu;go_wp2;go_ret;obtain ⟨hM,hF,hu⟩:=HR.out;have htw:=HL.out.2.2.2;subst htw;have hc:=hM.cF;have v1:aa [B.ba,B.c] w1 wr3:=(HL.out.2.2.1.trans (HW3.out.mono σ)).trans hu;exact ⟨rfl,(HO.out.2.2.mono (by simp +contextual)).trans (v1.mono (by simp [hc])),ZC,S3,hM,(show Jw A (fe S x (bP (bu l))) _ l [eH A (bK A ks)] by rw [hks];exact hF).done HK.out.2.1⟩
            | succ i0=>
              have hz2:((i0+1:Nat):Int)-1=(i0:Int):=ω;rw [hz2] at hz;subst hz;have hil:i0<tw.length:=ω;obtain ⟨q1,q2⟩:=LZ A hil;have hro:=(lZ (ε hil)).2;obtain ⟨g,rfl,hg1,hg2,hgc⟩:=KV.cell HO2.out hro;have hgr:wr3.cell? ⟨g,i0,none⟩=some (.int .i64 (tw[i0]).root):=hu.kept (hgc W3 HW3.out) ζ;rw [q1,ϋ] at hF;obtain ⟨t1,t2,t3,t4,t5,t6⟩:=hF.fo.two;have kl:=xC hM tw[i0] (eH A (tw.drop (i0+1))) t1 t2 t3 t4 t5 t6;rw [←q2] at kl;have HR:=χ (ψ hF (ψ hu q2));have NH:decide ((i0:Int)≥0)=true:=σ;clear hM hF hu hgc hro q1 q2 t1 t2 t3 t4 t5 t6;generalize Es:tw[i0]=ta at *
              generalize htb:eH A (tw.drop (i0+1))=tb at *
              go_wp2_with (first
                | (go_at_call 215;(with_reducible refine (kl).mono ?_);rintro e w3 ⟨rfl,hu3,TY,S4,zG,QP,hf4⟩)
                | fail)
              go_roundw
              case rel=>
                obtain ⟨hF,hu,q2⟩:=HR.out;refine ⟨i0,TY,S4,ω,by go_num,rfl,zG,?_,hu.trans hu3⟩;rw [q2] at QP ⊢;exact hF.link QP hf4
              case measure=>first|(simp [intOf];done)|(simp [intOf];omega)
end
theorem Eh (S:TS) (p x:Nat) (s:Bool) (hpx:p≠x) (h:S.r x=-1):∀z,(iX S p s x).l z=(((S.aB p s (-1)).aB x true (-1)).bJ x (-1)).l z/\(iX S p s x).r z=(((S.aB p s (-1)).aB x true (-1)).bJ x (-1)).r z/\(iX S p s x).u z=(((S.aB p s (-1)).aB x true (-1)).bJ x (-1)).u z:=fun z=>by
 unfold iX TS.aB TS.bJ;rw [h];have:¬ (z:Int)=-1:=ω;cases s<;>simp [this]
theorem E5 (S:TS) (p x o:Nat) (s:Bool) (hpx:p≠x) (h:S.r x=o):∀z,(iX S p s x).l z=((((S.aB p s o).bJ o p).aB x true (-1)).bJ x (-1)).l z/\(iX S p s x).r z=((((S.aB p s o).bJ o p).aB x true (-1)).bJ x (-1)).r z/\(iX S p s x).u z=((((S.aB p s o).bJ o p).aB x true (-1)).bJ x (-1)).u z:=fun z=>by
 unfold iX TS.aB TS.bJ;rw [h];have:((z:Int)=(o:Int))=(z=o):=propext ⟨fun h=>ω,fun h=>ω⟩;simp only [this];cases s<;>simp
section
variable {w:World} {B:PB} {F:List Nat} {gt ct:Nat} {A:NS} {st:Nat} {S:TS} {af:List Int}
theorem TC (h:fV w B F gt ct A st S af) (p x:Nat) (hp:p<A.cs.length) (hx:x<A.cs.length) (hpx:p≠x) (hkl:S.l p=x) (hu:S.u x=p) (ho:S.r x=-1) :
  Calls Tryz.prog 214 #[.pointer (some ⟨B.n0,0,none⟩),.int .i64 (x:Int)] w fun e w'=>e=.returned (.tuple #[])/\fV w' B F gt ct A st (iX S p false x) af/\aa [B.ba] w w':=by
 have hA:=h.cells.ok.c1;have c1:=h.h1;have dl:=h.l p hp;have dr:=h.r x hx;have du:=h.u x hx;rw [hu] at du;have ff:=h.f;have QV:=ff (p*3);have QY:=ff (p*3+1);have Q5:=ff (x*3+1);have Q8:=ff (x*3+2);have VN:=h.r p hp;have hsep:=h.sep;have hn1:¬B.n0=B.ba:=hsep.1;have hn2:¬B.ba=B.n0:=fun e=>hsep.1 e.symm;have FX:(x:Int)<(A.cs.length:Int):=ω;have Yn:(p:Int)<(A.cs.length:Int):=ω;have m1:¬x*3+1=p*3:=ω;have m2:¬x*3+1=p*3+1:=ω;have m3:¬x*3+2=p*3:=ω;have m4:¬x*3+2=p*3+1:=ω;have m5:¬p*3=x*3+1:=ω;have m6:¬p*3=x*3+2:=ω;have m7:¬p*3+1=x*3+1:=ω;have m8:¬p*3+1=x*3+2:=ω;have HM:=χ h;clear h ff hsep
 rw [hkl] at dl;have hq:((x:Int) == (x:Int))=true:=σ;have HE:=χ (Eh S p x false hpx ho);rw [ho] at dr;have hlr:((-1:Int) != -1)=false:=σ;have HQ:=χ (show (S.aB p false (-1)).r x=-1/\S.u x=p from ⟨by unfold TS.aB;(have hxp:¬x=p:=fun e=>hpx e.symm);simpa [hxp] using ho,hu⟩);clear ho hu hkl;generalize S.l p=slp at *
 go_enter Tryz.func214,Tryz.ntmps214
 go_upto_region 1 with (fail)
 go_quiet (fail)
 go_upto_region 2 with (fail)
 go_cut [] (fun W=>aa [] (w.setCell ⟨B.ba,p*3,none⟩ (.int .i64 (-1))) W)
 case first=>
  go_region_law (fail)
  all_goals
   go_wp2
   go_meet
   first|exact ⟨rfl,rfl,rfl,Θ _,fun _ _ _=>rfl⟩|exact ν
 case rest=>
  have hW:=hcut;clear hcut;rename World=>W;have lu:=(HM.out.GJ p (-1)).ae hW;have e1:=lu.h1;have e2:=lu.r x hx;rw [HQ.out.1] at e2;have e3:=lu.u x hx;rw [AB,HQ.out.2] at e3;have e6:=lu.f (x*3+1);have e7:=lu.f (x*3+2);have eu:aa [B.ba] w W:=aa.trans β (hW.mono σ);have HW:=χ (ψ lu eu);clear lu hW eu c1 dl dr du QV QY Q5 Q8 VN;go_wp2;go_end0;refine ⟨rfl,fV.ext (((HW.out.1.dw x (-1)).qB x (-1)).ae ?_) HE.out,HW.out.2.trans ?_⟩
  ·first|exact ⟨rfl,rfl,rfl,Θ _,fun _ _ _=>rfl⟩|exact ν
  ·exact β
end
section
variable {w:World} {B:PB} {F:List Nat} {gt ct:Nat} {A:NS} {st:Nat} {S:TS} {af:List Int}
theorem Sn (h:fV w B F gt ct A st S af) (p x:Nat) (hp:p<A.cs.length) (hx:x<A.cs.length) (hpx:p≠x) (hkl:S.l p=x) (hu:S.u x=p) (o:Nat) (uM:S.r x=o) (hol:o<A.cs.length) (hop:o≠p) (hox:o≠x) :
  Calls Tryz.prog 214 #[.pointer (some ⟨B.n0,0,none⟩),.int .i64 (x:Int)] w fun e w'=>e=.returned (.tuple #[])/\fV w' B F gt ct A st (iX S p false x) af/\aa [B.ba] w w':=by
 have hA:=h.cells.ok.c1;have c1:=h.h1;have dl:=h.l p hp;have dr:=h.r x hx;have du:=h.u x hx;rw [hu] at du;have ff:=h.f;have QV:=ff (p*3);have QY:=ff (p*3+1);have Q5:=ff (x*3+1);have Q8:=ff (x*3+2);have VN:=h.r p hp;have hsep:=h.sep;have hn1:¬B.n0=B.ba:=hsep.1;have hn2:¬B.ba=B.n0:=fun e=>hsep.1 e.symm;have FX:(x:Int)<(A.cs.length:Int):=ω;have Yn:(p:Int)<(A.cs.length:Int):=ω;have m1:¬x*3+1=p*3:=ω;have m2:¬x*3+1=p*3+1:=ω;have m3:¬x*3+2=p*3:=ω;have m4:¬x*3+2=p*3+1:=ω;have m5:¬p*3=x*3+1:=ω;have m6:¬p*3=x*3+2:=ω;have m7:¬p*3+1=x*3+1:=ω;have m8:¬p*3+1=x*3+2:=ω;have HM:=χ h;clear h ff hsep
 rw [hkl] at dl;have hq:((x:Int) == (x:Int))=true:=σ;have HE:=χ (E5 S p x o false hpx uM);rw [uM] at dr;have DW:((o:Int) != -1)=true:=σ;have Ow:(o:Int)<(A.cs.length:Int):=ω;have YO:=HM.out.u o hol;have ff5:=HM.out.f (o*3+2);have k1:¬o*3+2=p*3:=ω;have k2:¬o*3+2=p*3+1:=ω;have k3:¬x*3+1=o*3+2:=ω;have k4:¬x*3+2=o*3+2:=ω;have k5:¬o*3+2=x*3+1:=ω;have k6:¬o*3+2=x*3+2:=ω;have HQ:=χ (show (S.aB p false (o:Int)).r x=o/\S.u x=p from ⟨by unfold TS.aB;(have hxp:¬x=p:=fun e=>hpx e.symm);simpa [hxp] using uM,hu⟩);clear uM hu hkl;generalize S.l p=slp at *
 go_enter Tryz.func214,Tryz.ntmps214
 go_upto_region 1 with (fail)
 go_quiet (fail)
 go_upto_region 2 with (fail)
 go_cut [] (fun W=>aa [] (w.setCell ⟨B.ba,p*3,none⟩ (.int .i64 (o:Int))) W)
 case first=>
  go_region_law (fail)
  all_goals
   go_wp2
   go_meet
   first|exact ⟨rfl,rfl,rfl,Θ _,fun _ _ _=>rfl⟩|exact ν
 case rest=>
  have hW:=hcut;clear hcut;rename World=>W;have lu:=(HM.out.GJ p (o:Int)).ae hW;have e1:=lu.h1;have e2:=lu.r x hx;rw [HQ.out.1] at e2;have e3:=lu.u x hx;rw [AB,HQ.out.2] at e3;have e4:=lu.u o hol;have e5:=lu.f (o*3+2);have e6:=lu.f (x*3+1);have e7:=lu.f (x*3+2);have eu:aa [B.ba] w W:=aa.trans β (hW.mono σ);have HW:=χ (ψ lu eu);clear lu hW eu c1 dl dr du QV QY Q5 Q8 ff5 VN YO
  go_upto_region 5 with (fail)
  go_region_law (fail)
  all_goals
   go_wp2;go_end0;refine ⟨rfl,fV.ext ((((HW.out.1.qB o p).dw x (-1)).qB x (-1)).ae ?_) HE.out,HW.out.2.trans ?_⟩
   ·first|exact ⟨rfl,rfl,rfl,Θ _,fun _ _ _=>rfl⟩|exact ν
   ·exact β
end
section
variable {w:World} {B:PB} {F:List Nat} {gt ct:Nat} {A:NS} {st:Nat} {S:TS} {af:List Int}
theorem Rt (h:fV w B F gt ct A st S af) (p x:Nat) (hp:p<A.cs.length) (hx:x<A.cs.length) (hpx:p≠x) (hkr:S.r p=x) (hkl:S.l p≠x) (hu:S.u x=p) (ho:S.r x=-1) :
  Calls Tryz.prog 214 #[.pointer (some ⟨B.n0,0,none⟩),.int .i64 (x:Int)] w fun e w'=>e=.returned (.tuple #[])/\fV w' B F gt ct A st (iX S p true x) af/\aa [B.ba] w w':=by
 have hA:=h.cells.ok.c1;have c1:=h.h1;have dl:=h.l p hp;have dr:=h.r x hx;have du:=h.u x hx;rw [hu] at du;have ff:=h.f;have QV:=ff (p*3);have QY:=ff (p*3+1);have Q5:=ff (x*3+1);have Q8:=ff (x*3+2);have VN:=h.r p hp;have hsep:=h.sep;have hn1:¬B.n0=B.ba:=hsep.1;have hn2:¬B.ba=B.n0:=fun e=>hsep.1 e.symm;have FX:(x:Int)<(A.cs.length:Int):=ω;have Yn:(p:Int)<(A.cs.length:Int):=ω;have m1:¬x*3+1=p*3:=ω;have m2:¬x*3+1=p*3+1:=ω;have m3:¬x*3+2=p*3:=ω;have m4:¬x*3+2=p*3+1:=ω;have m5:¬p*3=x*3+1:=ω;have m6:¬p*3=x*3+2:=ω;have m7:¬p*3+1=x*3+1:=ω;have m8:¬p*3+1=x*3+2:=ω;have HM:=χ h;clear h ff hsep
 have hq:(S.l p == (x:Int))=false:=by simpa using hkl
 have HE:=χ (Eh S p x true hpx ho);rw [ho] at dr;have hlr:((-1:Int) != -1)=false:=σ;have HQ:=χ (show (S.aB p true (-1)).r x=-1/\S.u x=p from ⟨by unfold TS.aB;(have hxp:¬x=p:=fun e=>hpx e.symm);simpa [hxp] using ho,hu⟩);clear ho hu hkl hkr;generalize S.l p=slp at *
 go_enter Tryz.func214,Tryz.ntmps214
 go_upto_region 1 with (fail)
 go_quiet (fail)
 go_upto_region 3 with (fail)
 go_cut [] (fun W=>aa [] (w.setCell ⟨B.ba,p*3+1,none⟩ (.int .i64 (-1))) W)
 case first=>
  go_region_law (fail)
  all_goals
   go_wp2
   go_meet
   first|exact ⟨rfl,rfl,rfl,Θ _,fun _ _ _=>rfl⟩|exact ν
 case rest=>
  have hW:=hcut;clear hcut;rename World=>W;have lu:=(HM.out.dw p (-1)).ae hW;have e1:=lu.h1;have e2:=lu.r x hx;rw [HQ.out.1] at e2;have e3:=lu.u x hx;rw [AB,HQ.out.2] at e3;have e6:=lu.f (x*3+1);have e7:=lu.f (x*3+2);have eu:aa [B.ba] w W:=aa.trans β (hW.mono σ);have HW:=χ (ψ lu eu);clear lu hW eu c1 dl dr du QV QY Q5 Q8 VN;go_wp2;go_end0;refine ⟨rfl,fV.ext (((HW.out.1.dw x (-1)).qB x (-1)).ae ?_) HE.out,HW.out.2.trans ?_⟩
  ·first|exact ⟨rfl,rfl,rfl,Θ _,fun _ _ _=>rfl⟩|exact ν
  ·exact β
end
section
variable {w:World} {B:PB} {F:List Nat} {gt ct:Nat} {A:NS} {st:Nat} {S:TS} {af:List Int}
theorem Tx (h:fV w B F gt ct A st S af) (p x:Nat) (hp:p<A.cs.length) (hx:x<A.cs.length) (hpx:p≠x) (hkr:S.r p=x) (hkl:S.l p≠x) (hu:S.u x=p) (o:Nat) (uM:S.r x=o) (hol:o<A.cs.length) (hop:o≠p) (hox:o≠x) :
  Calls Tryz.prog 214 #[.pointer (some ⟨B.n0,0,none⟩),.int .i64 (x:Int)] w fun e w'=>e=.returned (.tuple #[])/\fV w' B F gt ct A st (iX S p true x) af/\aa [B.ba] w w':=by
 have hA:=h.cells.ok.c1;have c1:=h.h1;have dl:=h.l p hp;have dr:=h.r x hx;have du:=h.u x hx;rw [hu] at du;have ff:=h.f;have QV:=ff (p*3);have QY:=ff (p*3+1);have Q5:=ff (x*3+1);have Q8:=ff (x*3+2);have VN:=h.r p hp;have hsep:=h.sep;have hn1:¬B.n0=B.ba:=hsep.1;have hn2:¬B.ba=B.n0:=fun e=>hsep.1 e.symm;have FX:(x:Int)<(A.cs.length:Int):=ω;have Yn:(p:Int)<(A.cs.length:Int):=ω;have m1:¬x*3+1=p*3:=ω;have m2:¬x*3+1=p*3+1:=ω;have m3:¬x*3+2=p*3:=ω;have m4:¬x*3+2=p*3+1:=ω;have m5:¬p*3=x*3+1:=ω;have m6:¬p*3=x*3+2:=ω;have m7:¬p*3+1=x*3+1:=ω;have m8:¬p*3+1=x*3+2:=ω;have HM:=χ h;clear h ff hsep
 have hq:(S.l p == (x:Int))=false:=by simpa using hkl
 have HE:=χ (E5 S p x o true hpx uM);rw [uM] at dr;have DW:((o:Int) != -1)=true:=σ;have Ow:(o:Int)<(A.cs.length:Int):=ω;have YO:=HM.out.u o hol;have ff5:=HM.out.f (o*3+2);have k1:¬o*3+2=p*3:=ω;have k2:¬o*3+2=p*3+1:=ω;have k3:¬x*3+1=o*3+2:=ω;have k4:¬x*3+2=o*3+2:=ω;have k5:¬o*3+2=x*3+1:=ω;have k6:¬o*3+2=x*3+2:=ω;have HQ:=χ (show (S.aB p true (o:Int)).r x=o/\S.u x=p from ⟨by unfold TS.aB;(have hxp:¬x=p:=fun e=>hpx e.symm);simpa [hxp] using uM,hu⟩);clear uM hu hkl hkr;generalize S.l p=slp at *
 go_enter Tryz.func214,Tryz.ntmps214
 go_upto_region 1 with (fail)
 go_quiet (fail)
 go_upto_region 3 with (fail)
 go_cut [] (fun W=>aa [] (w.setCell ⟨B.ba,p*3+1,none⟩ (.int .i64 (o:Int))) W)
 case first=>
  go_region_law (fail)
  all_goals
   go_wp2
   go_meet
   first|exact ⟨rfl,rfl,rfl,Θ _,fun _ _ _=>rfl⟩|exact ν
 case rest=>
  have hW:=hcut;clear hcut;rename World=>W;have lu:=(HM.out.dw p (o:Int)).ae hW;have e1:=lu.h1;have e2:=lu.r x hx;rw [HQ.out.1] at e2;have e3:=lu.u x hx;rw [AB,HQ.out.2] at e3;have e4:=lu.u o hol;have e5:=lu.f (o*3+2);have e6:=lu.f (x*3+1);have e7:=lu.f (x*3+2);have eu:aa [B.ba] w W:=aa.trans β (hW.mono σ);have HW:=χ (ψ lu eu);clear lu hW eu c1 dl dr du QV QY Q5 Q8 ff5 VN YO
  go_upto_region 5 with (fail)
  go_region_law (fail)
  all_goals
   go_wp2;go_end0;refine ⟨rfl,fV.ext ((((HW.out.1.qB o p).dw x (-1)).qB x (-1)).ae ?_) HE.out,HW.out.2.trans ?_⟩
   ·first|exact ⟨rfl,rfl,rfl,Θ _,fun _ _ _=>rfl⟩|exact ν
   ·exact β
end
section
variable {w:World} {B:PB} {F:List Nat} {gt ct:Nat} {A:NS} {st:Nat} {S:TS} {af:List Int}
theorem Li (h:fV w B F gt ct A st S af) (p x:Nat) (s:Bool) (hp:p<A.cs.length) (hx:x<A.cs.length) (hpx:p≠x) (hk:S.kid s p=x) (hs:s=true->S.l p≠x) (hu:S.u x=p) (hr:S.r x=-1\/(0<=S.r x/\S.r x<A.cs.length)) (hrp:S.r x≠p) (hrx:S.r x≠x) :
  Calls Tryz.prog 214 #[.pointer (some ⟨B.n0,0,none⟩),.int .i64 (x:Int)] w fun e w'=>e=.returned (.tuple #[])/\fV w' B F gt ct A st (iX S p s x) af/\aa [B.ba] w w':=by
 cases s with
 | false=>
  by_cases ho:S.r x=-1
  ·exact TC h p x hp hx hpx hk hu ho
  ·obtain ⟨o,uM⟩:∃o:Nat,S.r x=o:=⟨(S.r x).toNat,ω⟩;exact Sn h p x hp hx hpx hk hu o uM ω (fun e=>hrp (by rw [uM,e])) (fun e=>hrx (by rw [uM,e]))
 | true=>
  by_cases ho:S.r x=-1
  ·exact Rt h p x hp hx hpx hk (hs rfl) hu ho
  ·obtain ⟨o,uM⟩:∃o:Nat,S.r x=o:=⟨(S.r x).toNat,ω⟩;exact Tx h p x hp hx hpx hk (hs rfl) hu o uM ω (fun e=>hrp (by rw [uM,e])) (fun e=>hrx (by rw [uM,e]))
end
section
variable {w:World} {B:PB} {F:List Nat} {gt ct:Nat} {A:NS} {st:Nat} {tr:Nat->BT}
theorem fV.sepc {S:TS} {af:List Int} (h:fV w B F gt ct A st S af):B.n0∉[B.ba,B.c,gt]/\gt∉[B.ba,B.c]:=by
 have a1:=h.sep;have a2:B.n0≠B.c:=fun e=>h.bI.1 (by rw [e];exact h.cF);have a3:gt≠B.c:=fun e=>h.bI.2.2 (by rw [e];exact h.cF);constructor<;>simp<;>omega
theorem CJ (h:mD w B F gt ct A st tr) (hh x:Nat) (k s:Int) (hk:-9223372036854775808<=k/\k<=9223372036854775807/\0<=s/\s<=18446744073709551615) (hB:iM A hh x=true) :
  Calls Tryz.prog 210 #[.pointer (some ⟨B.n0,0,none⟩),.int .i64 (hh:Int),.int .i64 (x:Int),.agg #[.int .i64 k,.int .u64 s]] w fun e w'=>e=.returned (.bool true)/\aa (B.blk F gt) w w'/\
   ∃st',mD w' B F gt ct (az A hh x k s) st' (fun q=>if q=hh then dA (az A hh x k s) (tr hh) (single x) else tr q):=by
 obtain ⟨S,af,hM,hI,hL⟩:=h;have hlt:=hM.lt;have ok:=hM.cells.ok;have ok':=rD ok hh x k s hk;obtain ⟨b1,b2,b3⟩:=(bX _ _ _).1 hB;have b4:=(aQ _ _).1 b1;have hx:x<A.cs.length:=by have:=(dE _ _).1 b2;omega
 have Na:(A.c x).i=0:=by
  have:=(ok.nat x hx).1;have h3:¬ (0<(A.c x).i):=fun h'=>by rw [(aj A x).2 ⟨hx,h'⟩] at b3;cases b3
  omega
 have hcs:(az A hh x k s).cs.length=A.cs.length:=by unfold az;rw [Δ hB,fq]
 have nG:(az A hh x k s).hs.length=A.hs.length:=by unfold az;rw [Δ hB];rfl
 have hcx:∀y,(az A hh x k s).c y=if y=x then ⟨hh,k,s⟩ else A.c y:=fun y=>by
  unfold az;rw [Δ hB,π,iN]
  by_cases e:y=x
  ·rw [Δ ⟨e,hx⟩,Δ e]
  ·rw [Γ (fun h=>e h.1),Γ e]
 have tY:x∉(tr hh).nodes:=hI.out Na;have hX:((tr hh).nodes++(single x).nodes).Nodup:=by
  rw [θ];refine ⟨hI.nd hh,by simp [single,BT.nodes],fun a ha b hb e=>?_⟩;simp only [single,BT.nodes,Υ,ϕ] at hb;exact tY (by rw [←hb,←e];exact ha)
 have hin:∀y,y∈(tr hh).nodes++(single x).nodes->bV (az A hh x k s) (y:Int)=true:=fun y hy=>by
  rw [aj,hcs,hcx];simp only [single,BT.nodes,Υ,τ,ϕ] at hy
  by_cases e:y=x
  ·rw [Δ e,e];exact ⟨hx,by show (0:Int)<(hh:Int);omega⟩
  ·rw [Γ e];have:=(hI.mem hh y).1 (hy.resolve_right e);exact ⟨this.2.1,ω⟩
 have UA:dP (az A hh x k s) (tr hh):=dP.frame (hI.heap hh) (fun y hy=>by rw [hcx,Γ (fun e=>tY (by rw [←e];exact hy))]);have mp:=lQ (az A hh x k s) (hL hh) (show Lone (single x) from rfl);have ml:=nW (az A hh x k s) (hL hh) (show Lone (single x) from rfl);have mh:=rQ (hL hh) (show Lone (single x) from rfl) UA (show dP (az A hh x k s) (single x) from ⟨by simp [BT.nodes],trivial,trivial⟩) hX;have hfr:=hI.free x hx Na;have hLh:=hL hh
 have FI:Hid (∀ (W:World) (S':TS) (st':Nat),fV W B F gt ct (az A hh x k s) st' S' (af.set hh (dA (az A hh x k s) (tr hh) (single x)).root)->bT S' (-1) (dA (az A hh x k s) (tr hh) (single x)).root (dA (az A hh x k s) (tr hh) (single x))->
   (∀y,y∉(tr hh).nodes++(single x).nodes->S.at S' y)->mD W B F gt ct (az A hh x k s) st' (fun q=>if q=hh then dA (az A hh x k s) (tr hh) (single x) else tr q)):=fun W S' st' a1 a2 a4=>by
  refine ⟨S',_,a1,hI.put ok hM.jA hB a2 mp mh a4,fun q=>?_⟩
  show Lone (if q=hh then _ else _)
  split
  ·exact ml
  ·exact hL q
 have T9:=hI.I7 hh;have htop:=hI.top hh ω;have hgn:hh<af.length:=by rw [hM.jA];omega
 have u1:aa [] w (w.alloc (.cells #[.int .i64 k,.int .u64 s] 129)):=(aa.refl _ _).alloc _;have kp:=fun W (hW:aa [] (w.alloc (.cells #[.int .i64 k,.int .u64 s] 129)) W)=>l9 (hM.cells.ae (u1.trans hW)) hh x k s hk hB;have h0:=hM.h0;have wC:B.n0∉F:=hM.bI.1;have hsz:w.heap.size∉F:=fun hm=>by have:=hlt w.heap.size (by simp [PB.blk,hm]);omega
 have r0:∀W,aa F (w.alloc (.cells #[.int .i64 k,.int .u64 s] 129)) W->W.cell? ⟨B.n0,0,none⟩=some (.pointer (some ⟨B.c,0,none⟩)):=fun W hW=>hW.kept (u1.was h0) wC;have r1:∀W,aa F (w.alloc (.cells #[.int .i64 k,.int .u64 s] 129)) W->W.cell? ⟨w.heap.size,0,none⟩=some (.int .i64 k):=fun W h=>h.kept σ hsz;have r2:∀W,aa F (w.alloc (.cells #[.int .i64 k,.int .u64 s] 129)) W->W.cell? ⟨w.heap.size,1,none⟩=some (.int .u64 s):=fun W h=>h.kept σ hsz;have HM:=χ hM;have HH:=χ (ψ hX (ψ hin (ψ T9 (ψ hLh hfr))));have hA:=ok.c1;have XZ:=ok.h1
 clear hM hI hL ok ok' b1 b2 b3 Na hcx tY hX hin UA mp mh ml hfr h0 hlt T9 hLh;generalize hA':az A hh x k s=A' at *;generalize htr:tr hh=th at *
 go_enter Tryz.func210,Tryz.ntmps210
 go_wp2
 go_region_held3 (aa F (w.alloc (.cells #[.int .i64 k,.int .u64 s] 129))) (exact ν)
  ((go_at_call 154;(with_reducible refine (kp _ β).mono ?_);rintro e w1 ⟨rfl,jN,hu1⟩;(have hu2:aa F (w.alloc (.cells #[.int .i64 k,.int .u64 s] 129)) w1:=ν)))
 have uF:aa F w (w.alloc (.cells #[.int .i64 k,.int .u64 s] 129)):=u1.mono σ;have hM1:=HM.out.fH (uF.trans hu2) jN (fun y hy=>Α hy) hcs nG;have hw1:aa F w w1:=uF.trans hu2;clear r0 r1 r2 kp hu1 hu2 jN uF;have km:=fun W (hW:aa [] w1 W)=>xC (hM1.ae hW) th (single x) HH.out.2.2.1 (sU HH.out.2.2.2.2) HH.out.2.2.2.1 rfl HH.out.1 HH.out.2.1;rw [show (single x).root=(x:Int) from rfl] at km;have d4:=hM1.jC.cell hh hgn;rw [htop] at d4;have f4:=hM1.jC.free hh;have h3:=hM1.h2;obtain ⟨Q9,hgc⟩:=hM1.sepc
 have r3:∀W,aa [B.ba,B.c] w1 W->W.cell? ⟨B.n0,2,none⟩=some (.slice (some ⟨gt,0,none⟩) af.length ct):=fun W hW=>hW.kept h3 (fun hm=>Q9 (by simp at hm ⊢;omega));have r4:∀W,aa [B.ba,B.c] w1 W->W.cell? ⟨gt,hh,none⟩=some (.int .i64 th.root)/\W.frozen? ⟨gt,hh,none⟩=false:=fun W hW=>⟨hW.kept d4 hgc,hW.aP d4 hgc f4⟩
 have IA:(0:Int)<=(hh:Int):=ω;have J7:(hh:Int)<(af.length:Int):=ω;generalize hmt:dA A' th (single x)=mt at *;clear hM1 f4 h3 Q9 hgc;have q3:=r3 _ (aa.refl _ _);have q4:=(r4 _ (aa.refl _ _)).1;go_wp2
 go_region_law
  (first
   | (go_simp;go_at_call 215;(with_reducible refine (km _ β).mono ?_);rintro e w5 ⟨rfl,CO,Xf,S5,Dk,MV,hs5⟩;(have dJ:aa [B.ba,B.c] w1 w5:=aa.trans β CO);obtain ⟨d5,f5⟩:=r4 _ dJ;(have q5:=r3 _ dJ)))
 all_goals
  go_wp2;go_ret;have su:=HM.out.cF;have v1:aa (B.blk F gt) w w1:=hw1.mono (fun y hy=>by simp only [PB.blk,ρ];simp [hy])
  have v3:aa (B.blk F gt) w w5:=v1.trans (dJ.mono (fun y hy=>by
   simp only [ρ,ς,or_false] at hy;simp only [PB.blk,ρ];rcases hy with rfl|rfl
   ·simp
   ·simp [su]))
  subst hmt;exact ⟨rfl,v3.setCell (Α (by simp [PB.blk])) _,Xf,FI.out _ S5 Xf (Dk.tH hh _) MV hs5⟩
end
theorem rH {P:List Fr} {t:BT} {y:Nat}:y∈(ag P t).nodes↔y∈t.nodes\/y∈cK P:=by
 rw [(aW P t).mem_iff,τ]
theorem TU {S S' XO:TS} {x:Nat} (h:S.at S' x) (h':S'.at XO x):S.at XO x:=⟨h'.1.trans h.1,h'.2.1.trans h.2.1,h'.2.2.trans h.2.2⟩
section
variable {w:World} {B:PB} {F:List Nat} {gt ct:Nat} {A:NS} {st:Nat} {S:TS} {af:List Int}
theorem YL (h:fV w B F gt ct A st S af) {f:Fr} {P:List Fr} {x:Nat} {l r:BT} (hT:bT S (-1) (ag (f::P) (.node x l r)).root (ag (f::P) (.node x l r))) (hn:(ag (f::P) (.node x l r)).nodes.Nodup) (hlt:∀y,y∈(ag (f::P) (.node x l r)).nodes->y<A.cs.length) :
  Calls Tryz.prog 214 #[.pointer (some ⟨B.n0,0,none⟩),.int .i64 (x:Int)] w fun e w'=>e=.returned (.tuple #[])/\fV w' B F gt ct A st (iX S f.1 f.2.1 x) af/\aa [B.ba] w w':=by
 obtain ⟨-, -, -,k1,k2,k3⟩:=Eg hT hn;have h1:=((cZ _ _).1 hT).1;have hpn:=(aW (f::P) (.node x l r)).nodup_iff.1 hn;rw [θ] at hpn;obtain ⟨n1,n2,n3⟩:=hpn;simp only [BT.nodes,Ζ,τ,not_or] at n1;have hfp:f.1∈cK (f::P):=by simp [cK]
 have hfx:f.1≠x:=fun e=>n3 x (by simp [BT.nodes]) f.1 hfp e.symm;have hrn:∀z:Nat,S.r x=(z:Int)->z∈r.nodes:=fun z hz=>by
  have h4:S.r x=r.root:=h1.2.2.2.root;rw [h4] at hz;have h6:r≠.nil:=fun e'=>by rw [e'] at hz;simp [BT.root] at hz
  have h7:=(bH h6).1;rw [hz,π] at h7;exact h7
 have hr:=ou (n:=A.cs.length) h1.2.2.2 (fun z hz=>hlt z (rH.2 (Α (by simp [BT.nodes,hz]))));exact Li h f.1 x f.2.1 (hlt _ (rH.2 (Β hfp))) (hlt _ (rH.2 (Α (by simp [BT.nodes])))) hfx k1 k2 k3 hr (fun e=>n3 f.1 (by simp [BT.nodes,hrn _ e]) f.1 hfp rfl) (fun e=>n1.1.2 (hrn _ e))
end
end Go.Proofs.YtklibcncmbofpaaGreat
namespace Go.Proofs.YtklibcncmbofpaaGreat
theorem Av (A:NS):∀ (l:List BT),(∀t,t∈l->dP A t/\Lone t)->(fA l).Nodup->∀t,t∈bK A l->dP A t/\Lone t
 | [],_,_,t,ht=>by cases ht
 | [a],h,_,t,ht=>h t ht
 | a::b::l,h,hn,t,ht=>by
  rw [bC,bC,←ϋ,θ] at hn;have ha:=h a σ;have hb:=h b σ;rcases ρ.1 (show t∈dA A a b::bK A l from ht) with e|e
  ·subst e;exact ⟨rQ ha.2 hb.2 ha.1 hb.1 hn.1,nW A ha.2 hb.2⟩
  ·exact Av A l (fun u hu=>h u (by simp [hu])) hn.2.1 t e
theorem AY (A:NS):∀ (l:List BT),(∀t,t∈l->dP A t/\Lone t)->(fA l).Nodup->dP A (eH A l)
 | [],_,_=>trivial
 | a::l,h,hn=>by
  have ha:=h a σ;have hp:=vB A l (fun t ht=>(h t (by simp [ht])).2);have ih:=AY A l (fun u hu=>h u (by simp [hu])) (by rw [bC,θ] at hn;exact hn.2.1);exact rQ ha.2 hp.2 ha.1 ih ((hp.1.append_left a.nodes).nodup_iff.2 hn)
theorem vV {A:NS} {l:BT} (h:dP A l) (hn:l.nodes.Nodup):(eH A (bK A (bu l))).nodes.Perm l.nodes/\Lone (eH A (bK A (bu l)))/\dP A (eH A (bK A (bu l))):=by
 have hk:=Ay h;have hkn:=(iH l).nodup_iff.2 hn;have h2:=Av A _ hk hkn;have p2:=AV A (bu l) (fun t ht=>(hk t ht).2);have p3:=vB A (bK A (bu l)) (fun t ht=>(h2 t ht).2);exact ⟨(p3.1.trans p2).trans (iH l),p3.2,AY A _ h2 (p2.nodup_iff.2 hkn)⟩
theorem Bq {n:Nat} {l:List Nat} (hn:l.Nodup) (h:∀x,x∈l->x<n):l.length<=n:=by
 induction n generalizing l with
 | zero=>
  cases l with
  | nil=>simp
  | cons a l=>exact absurd (h a σ) ω
 | succ n ih=>
  by_cases hm:n∈l
  ·have h1:=ih (l:=l.erase n) (hn.erase n) (fun x hx=>by
    have h2:=(hn.mem_erase_iff).1 hx;have:=h x h2.2
    omega)
   rw [List.length_erase_of_mem hm] at h1;omega
  ·have:=ih hn (fun x hx=>by
    have h1:=h x hx;have h2:x≠n:=fun e=>hm (by rw [←e];exact hx)
    omega)
   omega
end Go.Proofs.YtklibcncmbofpaaGreat
namespace Go.Proofs.YtklibcncmbofpaaGreat
open Go Go.RowKit
section
variable {w:World} {B:PB} {F:List Nat} {gt ct:Nat} {A:NS} {st:Nat} {S:TS} {af:List Int}
theorem LX (hM:fV w B F gt ct A st S af) {g x:Nat} {l:BT} (hg:(A.c x).i=g) (hg0:0<g) (hgt:g<af.length) (htop:af.getD g 0=x) (hT:bT S (-1) x (.node x l .nil)) (hn:(BT.node x l .nil).nodes.Nodup) (hall:∀y,y∈(BT.node x l .nil).nodes->bV A (y:Int)=true) :
  Calls Tryz.prog 208 #[.pointer (some ⟨B.n0,0,none⟩),.int .i64 (x:Int)] w fun e w'=>e=.returned (.bool true)/\aa (B.blk F gt) w w'/\∃st' S',fV w' B F gt ct (aN A x) st' S' (af.set g (eH A (bK A (bu l))).root)/\bT S' (-1) (eH A (bK A (bu l))).root (eH A (bK A (bu l)))/\(S'.l x=-1/\S'.r x=-1/\S'.u x=-1)/\∀y,y∉(BT.node x l .nil).nodes->S.at S' y:=by
 have hin:bV A (x:Int)=true:=hall x (by simp [BT.nodes]);have hn':(x::l.nodes).Nodup:=by simpa [BT.nodes] using hn
 have hl':∀z,z∈l.nodes->bV A (z:Int)=true:=fun z hz=>hall z (by simp [BT.nodes,hz]);have hsz:l.size<=65536:=by
  rw [←BT.jP];have:=Bq (n:=A.cs.length) (List.nodup_cons.1 hn').2 (fun y hy=>((aj _ _).1 (hl' y hy)).1);have:=hM.cells.ok.c1;omega
 have kh:=jq hM.cells x hin;rw [hg] at kh;have h0:=hM.h0;have HM:=χ hM;have HT:=χ (ψ hT (ψ hn' (ψ hl' (ψ hsz hin))));have Ra:=χ htop;have XZ:=hM.cells.ok.h1;have htn:af.length=A.hs.length:=hM.jA;have VE:(g:Int)<(af.length:Int):=ω;have hA:=hM.cells.ok.c1;have hxl:x<A.cs.length:=((aj _ _).1 hin).1;clear hM hT hn hn' hl' hsz hin hall htop htn hg;generalize hR:eH A (bK A (bu l))=R at *;have Pt:((x:Int) == (x:Int))=true:=σ
 go_enter Tryz.func208,Tryz.ntmps208
 go_wp2_with (first
  | ((go_at_call 140;(with_reducible refine (kh).mono ?_));rintro e w1 ⟨rfl,jN,hu1⟩;(have hM1:=HM.out.fH hu1 jN (fun y hy=>Α hy) rfl rfl);(have g21:=hM1.h2);(have g22:=hM1.jC.cell g hgt);rw [Ra.out] at g22)
  | fail)
 have ks:=fun W (hW:aa [] w1 W)=>yH (hM1.ae hW) x HT.out.2.2.2.2 l HT.out.1.2.2.1 HT.out.2.1 HT.out.2.2.1 HT.out.2.2.2.1;rw [hR] at ks;have f4:=hM1.jC.free g;have hnn:B.n0∉B.ba::F/\gt∉B.ba::F:=by
  have a1:=hM1.sep;have a2:=hM1.bI;exact ⟨by simp only [ρ,not_or];exact ⟨a1.1,a2.1⟩,by simp only [ρ,not_or];exact ⟨fun e=>a1.2.2 e.symm,a2.2.2⟩⟩
 obtain ⟨Qv,yO⟩:=hnn;have HS1:=χ hM1.sep;have h3:=hM1.h2;have h00:=hM1.h0;have r3:∀W,aa (B.ba::F) w1 W->W.cell? ⟨B.n0,2,none⟩=some (.slice (some ⟨gt,0,none⟩) af.length ct):=fun W hW=>hW.kept h3 Qv;have r4:∀W,aa (B.ba::F) w1 W->W.cell? ⟨gt,g,none⟩=some (.int .i64 (x:Int))/\W.frozen? ⟨gt,g,none⟩=false:=fun W hW=>⟨hW.kept g22 yO,hW.aP g22 yO f4⟩
 have IA:(0:Int)<=(g:Int):=ω;have YU:aa (B.blk F gt) w w1:=hu1.mono (fun y hy=>by simp only [PB.blk,ρ];simp [hy]);have HU:=χ YU;clear hM1 f4 h3 Qv yO jN hu1 kh YU;have q3:=r3 _ (aa.refl _ _);have q4:=(r4 _ (aa.refl _ _)).1
 go_upto_region 5 with (fail)
 go_region_law
  (first
   | (go_simp;go_at_call 216;(with_reducible refine (ks _ β).mono ?_);rintro e w5 ⟨rfl,CO,Xf,S5,Dk,MV,hl5,NF,QW,hs5⟩;(have dJ:aa (B.ba::F) w1 w5:=aa.trans β CO);obtain ⟨d5,f5⟩:=r4 _ dJ;(have q5:=r3 _ dJ)))
 all_goals
  have sF:=Dk.tH g R.root;have kd:=fU sF.cells x HT.out.2.2.2.2;have h06:=sF.h0
  go_wp2_with (first
   | ((go_at_call 151;(with_reducible refine (kd).mono ?_));rintro e w7 ⟨rfl,YR,pV⟩)
   | fail)
  go_ret;have hbn:∀y,y∉(BT.node x l .nil).nodes->y∉x::l.nodes:=fun y hy hm=>hy (by simpa [BT.nodes] using hm);have v5:aa (B.blk F gt) w w5:=HU.out.trans (dJ.mono (fun y hy=>by simp only [PB.blk,ρ] at hy ⊢;rcases hy with h|h<;>simp [h]));refine ⟨rfl,(v5.setCell (Α (by simp [PB.blk])) _).trans (pV.mono (fun y hy=>by simp only [PB.blk,ρ];simp [hy])),Xf,S5,sF.fH pV YR (fun y hy=>Α hy) (dm _ _) (by rw [fJ]),MV,⟨hl5,?_,?_⟩,fun y hy=>hs5 y (hbn y hy)⟩
  ·rw [NF];exact HT.out.1.2.2.2
  ·rw [QW];exact HT.out.1.2.1
theorem N9 (hM:fV w B F gt ct A st S af) {g x:Nat} {f:Fr} {P:List Fr} {l r:BT} (hg:(A.c x).i=g) (hg0:0<g) (hgt:g<af.length) (htop:af.getD g 0=(ag (f::P) (.node x l r)).root) (hT:bT S (-1) (ag (f::P) (.node x l r)).root (ag (f::P) (.node x l r))) (hn:(ag (f::P) (.node x l r)).nodes.Nodup)
  (hL:Lone (ag (f::P) (.node x l r))) (hH:dP A (ag (f::P) (.node x l r))) (hall:∀y,y∈(ag (f::P) (.node x l r)).nodes->bV A (y:Int)=true) :
  Calls Tryz.prog 208 #[.pointer (some ⟨B.n0,0,none⟩),.int .i64 (x:Int)] w fun e w'=>e=.returned (.bool true)/\aa (B.blk F gt) w w'/\∃st' S',fV w' B F gt ct (aN A x) st' S' (af.set g (dA A (ag (f::P) r) (eH A (bK A (bu l)))).root)/\bT S' (-1) (dA A (ag (f::P) r) (eH A (bK A (bu l)))).root (dA A (ag (f::P) r) (eH A (bK A (bu l))))/\(S'.l x=-1/\S'.r x=-1/\S'.u x=-1)/\∀y,y∉(ag (f::P) (.node x l r)).nodes->S.at S' y:=by
 have hin:bV A (x:Int)=true:=hall x (rH.2 (Α (by simp [BT.nodes])));obtain ⟨o1,o2,o3, -⟩:=Eg hT hn;obtain ⟨oh1, -⟩:=DJ (P:=f::P) hH;have hpm:=FE (f::P) x l r;have Af:((ag (f::P) r).nodes++(BT.node x l .nil).nodes).Nodup:=yO (hpm.nodup_iff.1 hn);have ZB:∀y,y∈(ag (f::P) r).nodes++(BT.node x l .nil).nodes->y∈(ag (f::P) (.node x l r)).nodes:=fun y hy=>by
  rw [hpm.mem_iff,τ];rw [τ] at hy;exact hy.symm
 have WQ:Lone (ag (f::P) r):=vX (t:=.node x l r) σ hL;have hrt:(ag (f::P) (.node x l r)).root=(ag (f::P) r).root:=ow _ _ _ _;have hroot:(ag (f::P) r).root≠(x:Int):=fun e=>by
  have h6:ag (f::P) r≠.nil:=fun e'=>by rw [e'] at e;simp [BT.root] at e
  have h7:=(bH h6).1;rw [e,π] at h7;rw [θ] at Af;exact Af.2.2 x h7 x (by simp [BT.nodes]) rfl
 rw [hrt] at htop;have hn':(x::l.nodes).Nodup:=by
  rw [θ] at Af;simpa [BT.nodes] using Af.2.1
 have hl':∀z,z∈l.nodes->bV A (z:Int)=true:=fun z hz=>hall z (ZB z (by simp [BT.nodes,hz]));have hsz:l.size<=65536:=by
  rw [←BT.jP];have:=Bq (n:=A.cs.length) (List.nodup_cons.1 hn').2 (fun y hy=>((aj _ _).1 (hl' y hy)).1);have:=hM.cells.ok.c1;omega
 obtain ⟨t1,t2,t3⟩:=vV oh1.2.1 (List.nodup_cons.1 hn').2;have Z6:((ag (f::P) r).nodes++(eH A (bK A (bu l))).nodes).Nodup:=by
  have h1:((ag (f::P) r).nodes++l.nodes).Nodup:=by
   rw [θ] at Af ⊢;exact ⟨Af.1,(List.nodup_cons.1 hn').2,fun a ha b hb=>Af.2.2 a ha b (by simp [BT.nodes,hb])⟩
  exact (t1.append_left _).nodup_iff.2 h1
 have Y3:∀y,y∈(ag (f::P) r).nodes++(eH A (bK A (bu l))).nodes->y∈(ag (f::P) (.node x l r)).nodes/\y≠x:=fun y hy=>by
  rw [τ,t1.mem_iff] at hy;refine ⟨ZB y (by simp only [τ,BT.nodes,Υ,ρ];rcases hy with h|h<;>simp [h]),fun e=>?_⟩;subst e;rw [θ] at Af;rcases hy with h|h
  ·exact Af.2.2 y h y (by simp [BT.nodes]) rfl
  ·exact (List.nodup_cons.1 hn').1 h
 have hra:∀y,y∈(ag (f::P) r).nodes->y∉x::l.nodes:=fun y hy hm=>by
  rw [θ] at Af;exact Af.2.2 y hy y (by simpa [BT.nodes] using hm) rfl
 have hsub:∀y,y∈x::l.nodes->y∈(ag (f::P) (.node x l r)).nodes:=fun y hy=>ZB y (by rw [τ];right;simpa [BT.nodes] using hy);have ko:=fun (w1:World) (hM1:fV w1 B F gt ct A st S af)=>YL hM1 hT hn (fun y hy=>((aj _ _).1 (hall y hy)).1);have kh:=jq hM.cells x hin;rw [hg] at kh;have h0:=hM.h0;have HM:=χ hM;have HT:=χ (ψ o1 (ψ o2 (ψ o3 (ψ hn' (ψ hl' (ψ hsz hin))))));have HX:=χ (ψ Z6 (ψ Y3 (ψ WQ (ψ t2 (ψ hra (ψ hsub hall))))));have Ra:=χ htop;have XZ:=hM.cells.ok.h1;have htn:af.length=A.hs.length:=hM.jA;have VE:(g:Int)<(af.length:Int):=ω;have hA:=hM.cells.ok.c1
 have hxl:x<A.cs.length:=((aj _ _).1 hin).1;have hr0:(ag (f::P) r).root=-1\/0<=(ag (f::P) r).root:=by
  have:=ou (n:=A.cs.length) o2 (fun z hz=>((aj _ _).1 (hall z (ZB z (by simp [hz])))).1);omega
 clear hM hT hn hn' hl' hsz hin hall htop htn hg o1 o2 o3 oh1 hpm Af ZB WQ hrt t1 t2 t3 Z6 Y3 hra hsub hL hH;generalize hR:eH A (bK A (bu l))=R at *;generalize Es:ag (f::P) r=ta at *;have Pt:(ta.root == (x:Int))=false:=by simpa using hroot
 go_enter Tryz.func208,Tryz.ntmps208
 go_wp2_with (first
  | ((go_at_call 140;(with_reducible refine (kh).mono ?_));rintro e w1 ⟨rfl,jN,hu1⟩;(have hM1:=HM.out.fH hu1 jN (fun y hy=>Α hy) rfl rfl);(have g21:=hM1.h2);(have g22:=hM1.jC.cell g hgt);rw [Ra.out] at g22;(have XP:=ko w1 hM1))
  | ((go_at_call 214;(with_reducible refine (XP).mono ?_));rintro e w3 ⟨rfl,oP,hu3⟩)
  | fail)
 have ks:=fun W (hW:aa [] w3 W)=>yH (oP.ae hW) x HT.out.2.2.2.2.2.2 l HT.out.1.2.2.1 HT.out.2.2.2.1 HT.out.2.2.2.2.1 HT.out.2.2.2.2.2.1;rw [hR] at ks;have kl:Hid (∀W TY S4,fV W B F gt ct A TY S4 af->bT S4 (-1) R.root R->(∀z,z∉x::l.nodes->(iX S f.1 f.2.1 x).at S4 z)->_):=fun W TY S4 zG QP hs4=>xC zG ta R (HT.out.2.1.frame (fun y hy=>hs4 y (HX.out.2.2.2.2.1 y hy))) QP HX.out.2.2.1 HX.out.2.2.2.1 HX.out.1 (fun y hy=>HX.out.2.2.2.2.2.2 y (HX.out.2.1 y hy).1);have d4:=oP.jC.cell g hgt;rw [Ra.out] at d4;have f4:=oP.jC.free g;have hnn:B.n0∉B.ba::F/\gt∉B.ba::F:=by
  have a1:=oP.sep;have a2:=oP.bI;exact ⟨by simp only [ρ,not_or];exact ⟨a1.1,a2.1⟩,by simp only [ρ,not_or];exact ⟨fun e=>a1.2.2 e.symm,a2.2.2⟩⟩
 obtain ⟨Qv,yO⟩:=hnn;have HS1:=χ oP.sep;have su:=oP.cF;have h3:=oP.h2;have r3:∀W,aa (B.ba::F) w3 W->W.cell? ⟨B.n0,2,none⟩=some (.slice (some ⟨gt,0,none⟩) af.length ct):=fun W hW=>hW.kept h3 Qv;have r4:∀W,aa (B.ba::F) w3 W->W.cell? ⟨gt,g,none⟩=some (.int .i64 ta.root)/\W.frozen? ⟨gt,g,none⟩=false:=fun W hW=>⟨hW.kept d4 yO,hW.aP d4 yO f4⟩
 have IA:(0:Int)<=(g:Int):=ω;have YU:aa (B.blk F gt) w w1:=hu1.mono (fun y hy=>by simp only [PB.blk,ρ];simp [hy]);have HU:=χ (YU.trans (hu3.mono (fun y hy=>by simp at hy;simp [PB.blk,hy])));clear hM1 oP f4 h3 Qv yO jN hu1 kh YU hu3 ko XP g21 g22;have q3:=r3 _ (aa.refl _ _);have q4:=(r4 _ (aa.refl _ _)).1;generalize hmt:dA A ta R=mt at *
 go_upto_region 8 with (fail)
 go_region_law
  (first
   | (go_simp;go_at_call 216;(with_reducible refine (ks _ β).mono ?_);rintro e w5 ⟨rfl,CO,Xf,S5,Dk,MV,hl5,NF,QW,hs5⟩;(have dJ:aa (B.ba::F) w3 w5:=aa.trans β CO);obtain ⟨d5,f5⟩:=r4 _ dJ;(have q5:=r3 _ dJ);(have km:=fun W (hW:aa [] w5 W)=>kl W Xf S5 (Dk.ae hW) MV hs5))
   | (go_simp;go_at_call 215;(with_reducible refine (km _ β).mono ?_);rintro e w6 ⟨rfl,hu6a,st6,S6,sF,Ml,hs6⟩;(have hu6b:aa [B.ba,B.c] w5 w6:=aa.trans β hu6a);(have gX:aa (B.ba::F) w3 w6:=dJ.trans (hu6b.mono (fun y hy=>by simp at hy;rcases hy with h|h<;>simp [h,su])));obtain ⟨d6,f6⟩:=r4 _ gX;(have q6:=r3 _ gX)))
 all_goals
  subst hmt;have FT:=sF.tH g (dA A ta R).root;have kd:=fU FT.cells x HT.out.2.2.2.2.2.2;have h06:=FT.h0
  go_wp2_with (first
   | ((go_at_call 151;(with_reducible refine (kd).mono ?_));rintro e w8 ⟨rfl,hC8,zC⟩)
   | fail)
  go_ret;have hxa:x∉ta.nodes++R.nodes:=fun hm=>(HX.out.2.1 x hm).2 rfl;have a6:=hs6 x hxa;have v5:aa (B.blk F gt) w w6:=HU.out.trans (gX.mono (fun y hy=>by simp only [PB.blk,ρ] at hy ⊢;rcases hy with h|h<;>simp [h]));refine ⟨rfl,(v5.setCell (Α (by simp [PB.blk])) _).trans (zC.mono (fun y hy=>by simp only [PB.blk,ρ];simp [hy])),st6,S6,FT.fH zC hC8 (fun y hy=>Α hy) (dm _ _) (by rw [fJ]),Ml,⟨?_,?_,?_⟩,fun y hy=>?_⟩
  ·rw [a6.1];exact hl5
  ·rw [a6.2.1,NF];exact HT.out.1.2.2.2
  ·rw [a6.2.2,QW];exact HT.out.1.2.1
  ·exact TU (TU (HT.out.2.2.1 y hy) (hs5 y (fun hm=>hy (HX.out.2.2.2.2.2.1 y hm)))) (hs6 y (fun hm=>hy (HX.out.2.1 y hm).1))
end
section
variable {w:World} {B:PB} {F:List Nat} {gt ct:Nat} {A:NS} {st:Nat} {tr:Nat->BT}
theorem J5 {af:List Int} {g:Nat} {v:Int} (hgt:g<af.length):∀q,(af.set g v).getD q 0=if q=g then v else af.getD q 0:=fun q=>by
 by_cases e:q=g
 ·rw [Δ e,e,φ,ύ,Δ rfl,Δ hgt];rfl
 ·rw [Γ e,φ,ύ,Γ (fun h=>e h.symm),←φ]
theorem Kb (h:mD w B F gt ct A st tr) (g x:Nat) (hx:x∈(tr g).nodes) :
  Calls Tryz.prog 208 #[.pointer (some ⟨B.n0,0,none⟩),.int .i64 (x:Int)] w fun e w'=>e=.returned (.bool true)/\aa (B.blk F gt) w w'/\∃st' LC,mD w' B F gt ct (aN A x) st' LC:=by
 obtain ⟨S,af,hM,hI,hL⟩:=h;have hm:=(hI.mem g x).1 hx;have e:=vz hx;generalize (pathOf (tr g) x).1=P at *;generalize (pathOf (tr g) x).2.1=l at *;generalize (pathOf (tr g) x).2.2=r at *;have hgt:g<af.length:=by rw [hM.jA];have:=(hM.cells.ok.nat x hm.2.1);omega
 have hgh:g<A.hs.length:=by rw [←hM.jA];exact hgt
 have hT:=hI.I7 g;have hn:=hI.nd g;have hH:dP A (tr g):=hI.heap g;have V8:=hL g;have htp:=hI.top g hgh;have hall:∀y,y∈(tr g).nodes->bV A (y:Int)=true:=fun y hy=>by
  have:=(hI.mem g y).1 hy;exact (aj A y).2 ⟨this.2.1,ω⟩
 rw [e] at hT hn hH V8 htp hall;cases P with
 | nil=>
  have hr:r=.nil:=V8;subst hr;have e2:tr g=.node x l .nil:=e;refine (LX hM hm.2.2 hm.1 hgt htp hT hn hall).mono ?_;rintro e' w' ⟨rfl,hu,st',S',q1,q2,q3,q4⟩;have hn':(x::l.nodes).Nodup:=by
   have h9:(BT.node x l .nil).nodes.Nodup:=hn;simpa [BT.nodes] using h9
  have hH':dP A (.node x l .nil):=hH;obtain ⟨t1,t2,t3⟩:=vV hH'.2.1 (List.nodup_cons.1 hn').2;have hp:(x::(eH A (bK A (bu l))).nodes).Perm (tr g).nodes:=by
   rw [e2];simp only [BT.nodes,Υ];exact List.Perm.cons x t1
  have h2:=hI.del hx (t':=eH A (bK A (bu l))) (og:=af.set g (eH A (bK A (bu l))).root) q2 hp t3 (fun y hy=>q4 y (by rw [←e2];exact hy)) q3 (fun q _=>J5 hgt q);refine ⟨rfl,hu,st',_,S',_,q1,h2,fun q=>?_⟩
  show Lone (if q=g then _ else tr q)
  split
  ·exact t2
  ·exact hL q
 | cons f P2=>
  refine (N9 hM hm.2.2 hm.1 hgt htp hT hn V8 hH hall).mono ?_;rintro e' w' ⟨rfl,hu,st',S',q1,q2,q3,q4⟩;have hpm:=FE (f::P2) x l r;obtain ⟨oh1,oh2⟩:=DJ (P:=f::P2) hH;have Af:((ag (f::P2) r).nodes++(BT.node x l .nil).nodes).Nodup:=yO (hpm.nodup_iff.1 hn);have WQ:Lone (ag (f::P2) r):=vX (t:=.node x l r) σ V8;have hn':(x::l.nodes).Nodup:=by
   rw [θ] at Af;simpa [BT.nodes] using Af.2.1
  obtain ⟨t1,t2,t3⟩:=vV oh1.2.1 (List.nodup_cons.1 hn').2;have Z6:((ag (f::P2) r).nodes++(eH A (bK A (bu l))).nodes).Nodup:=by
   have h1:((ag (f::P2) r).nodes++l.nodes).Nodup:=by
    rw [θ] at Af ⊢;exact ⟨Af.1,(List.nodup_cons.1 hn').2,fun a ha b hb=>Af.2.2 a ha b (by simp [BT.nodes,hb])⟩
   exact (t1.append_left _).nodup_iff.2 h1
  have hp:(x::(dA A (ag (f::P2) r) (eH A (bK A (bu l)))).nodes).Perm (tr g).nodes:=by
   rw [e];refine ((lQ A WQ t2).cons x).trans ?_;refine ((t1.append_left _).cons x).trans ?_;refine ϣ ?_ hpm.symm;simp only [BT.nodes,Υ,List.cons_append];exact List.perm_append_comm.cons x
  have h2:=hI.del hx (t':=dA A (ag (f::P2) r) (eH A (bK A (bu l)))) (og:=af.set g (dA A (ag (f::P2) r) (eH A (bK A (bu l)))).root) q2 hp (rQ WQ t2 oh2 t3 Z6) (fun y hy=>q4 y (by rw [←e];exact hy)) q3 (fun q _=>J5 hgt q);refine ⟨rfl,hu,st',_,S',_,q1,h2,fun q=>?_⟩
  show Lone (if q=g then _ else tr q)
  split
  ·exact nW _ WQ t2
  ·exact hL q
theorem yL (h:mD w B F gt ct A st tr) (g:Nat) (hn:0<dG A g) :
  Calls Tryz.prog 209 #[.pointer (some ⟨B.n0,0,none⟩),.int .i64 (g:Int)] w fun e w'=>∃m:Nat,bB A g=some m/\e=.returned (.tuple #[.int .i64 (m:Int),.bool true])/\aa (B.blk F gt) w w'/\∃st' LC,mD w' B F gt ct (aN A m) st' LC:=by
 have k:=y7 h g hn;have kd:=fun m hm=>Kb h g m hm;have hroot:∀m:Nat,(tr g).root=m->m∈(tr g).nodes:=fun m hm=>by
  have hne:tr g≠.nil:=fun e=>by rw [e] at hm;have:(-1:Int)=m:=hm;omega
  have:=(bH hne).1;rw [hm] at this;simpa using this
 clear h
 go_enter Tryz.func209,Tryz.ntmps209
 go_wp2_with (first
  | ((go_at_call 213;(with_reducible refine (k).mono ?_));rintro e w1 ⟨m,hm1,hm2,rfl,rfl⟩;(have XF:=kd m (hroot m hm2)))
  | ((go_at_call 208;(with_reducible refine (XF).mono ?_));rintro e w2 ⟨rfl,hu2,hL2⟩)
  | fail)
 go_ret2;exact ⟨m,hm1,rfl,hu2,hL2⟩
end
theorem F7 (p c:Nat):∀W:World,W.cell? ⟨p,0,none⟩=some (.pointer (some ⟨c,0,none⟩))->(method 429 178 (.pointer (some ⟨p,0,none⟩)) "Has").run Tryz.prog W=.ok (139,.pointer (some ⟨c,0,none⟩)) W:=(by intro W h;unfold method;have hm:∃m,(Array.find? (fun x=>x.name == "Has") Tryz.t178.methods)=some m/\m.path.toList=[⟨215,0,true⟩]/\m.func=some (139,true)/\m.path.isEmpty=false:=⟨(Array.find? (fun x=>x.name == "Has") Tryz.t178.methods).get!,by kernel_rfl,by kernel_rfl,by kernel_rfl,by kernel_rfl⟩;obtain ⟨m,h1,h2,h3,h4⟩:=hm;go_simp;simp only [follow,Place.get];go_simp;(try unfold receiverAt);(try simp only [Place.get]);(try go_simp))
theorem Di (p c:Nat):∀W:World,W.cell? ⟨p,0,none⟩=some (.pointer (some ⟨c,0,none⟩))->(method 429 178 (.pointer (some ⟨p,0,none⟩)) "Entry").run Tryz.prog W=.ok (137,.pointer (some ⟨c,0,none⟩)) W:=(by intro W h;unfold method;have hm:∃m,(Array.find? (fun x=>x.name == "Entry") Tryz.t178.methods)=some m/\m.path.toList=[⟨215,0,true⟩]/\m.func=some (137,true)/\m.path.isEmpty=false:=⟨(Array.find? (fun x=>x.name == "Entry") Tryz.t178.methods).get!,by kernel_rfl,by kernel_rfl,by kernel_rfl,by kernel_rfl⟩;obtain ⟨m,h1,h2,h3,h4⟩:=hm;go_simp;simp only [follow,Place.get];go_simp;(try unfold receiverAt);(try simp only [Place.get]);(try go_simp))
theorem SX (p:Nat):∀W:World,(method 429 178 (.pointer (some ⟨p,0,none⟩)) "Make").run Tryz.prog W=.ok (211,.pointer (some ⟨p,0,none⟩)) W:=fun _=>by kernel_rfl
theorem MI (p:Nat):∀W:World,(method 429 178 (.pointer (some ⟨p,0,none⟩)) "Insert").run Tryz.prog W=.ok (210,.pointer (some ⟨p,0,none⟩)) W:=fun _=>by kernel_rfl
theorem UE (p:Nat):∀W:World,(method 429 178 (.pointer (some ⟨p,0,none⟩)) "Min").run Tryz.prog W=.ok (213,.pointer (some ⟨p,0,none⟩)) W:=fun _=>by kernel_rfl
theorem G8 (p:Nat):∀W:World,(method 429 178 (.pointer (some ⟨p,0,none⟩)) "Extract").run Tryz.prog W=.ok (209,.pointer (some ⟨p,0,none⟩)) W:=fun _=>by kernel_rfl
def PaQ (w:World) (p:Nat) (F:List Nat) (A:NS):Prop:=∃B F1 gt ct st tr,p=B.n0/\F=B.blk F1 gt/\mD w B F1 gt ct A st tr
def xy:dV where
 ty:=178
 at_:=PaQ
 upd:=fun h hu hS=>by
  obtain ⟨B,F1,gt,ct,st,tr,rfl,rfl,hL⟩:=h;exact ⟨B,F1,gt,ct,st,tr,rfl,rfl,hL.upd hu hS⟩
 lt:=fun h=>by
  obtain ⟨B,F1,gt,ct,st,tr,rfl,rfl,S,af,hM, -⟩:=h;exact hM.lt
 ok:=fun h=>by
  obtain ⟨B,F1,gt,ct,st,tr,rfl,rfl,S,af,hM, -⟩:=h;exact hM.cells.ok
 make:=fun {w p F A} h=>by
  obtain ⟨B,F1,gt,ct,st,tr,rfl,rfl,hL⟩:=h;refine aX 211 (fun _ _=>by kernel_rfl) (SX _) (fun W hW=>?_);have pg:=hL.ae hW
  by_cases hl:65536<A.hs.length
  ·have e1:bS A=0:=by unfold bS;rw [Δ hl]
   have e2:aC A=A:=by unfold aC;rw [Δ hl]
   rw [e1,e2];refine (Km pg hl).mono ?_;rintro e w' ⟨rfl,F',⟨F2,rfl,hA⟩,hu,hf⟩;exact ⟨rfl,_,⟨B,F2,gt,ct,st,tr,rfl,rfl,hA⟩,hu,hf⟩
  ·have e1:bS A=A.hs.length:=by unfold bS;rw [Γ hl]
   rw [e1];refine (Hf pg hl).mono ?_;rintro e w' ⟨rfl,F',⟨F2,gt2,ct2,rfl,hA⟩,hu,hf⟩;exact ⟨rfl,_,⟨B,F2,gt2,ct2,st,tr,rfl,rfl,hA⟩,hu,hf⟩
 insert:=fun {w p F A} g y k s hk hB h=>by
  obtain ⟨B,F1,gt,ct,st,tr,rfl,rfl,hL⟩:=h;refine aX 210 (fun _ _=>by kernel_rfl) (MI _) (fun W hW=>?_);refine (CJ (hL.ae hW) g y k s hk hB).mono ?_;rintro e w' ⟨rfl,hu,st',hL2⟩;exact ⟨rfl,Goes.stay ⟨B,F1,gt,ct,_,_,rfl,rfl,hL2⟩ hu⟩
 min:=fun {w p F A} y hB h=>by
  obtain ⟨B,F1,gt,ct,st,tr,rfl,rfl,hL⟩:=h;refine aX 213 (fun _ _=>by kernel_rfl) (UE _) (fun W hW=>?_);have pg:=hL.ae hW;have hok:A.Ok:=by obtain ⟨S,af,hM, -⟩:=hL;exact hM.cells.ok
  by_cases hl:dG A (y:Int)=0
  ·rw [gJ.2 hl];have h4:=(aQ _ _).1 hB;have h5:=hok.h1;refine (IG pg y ω hl).mono ?_;rintro e w' ⟨rfl,rfl⟩;exact ⟨rfl,Goes.stay ⟨B,F1,gt,ct,st,tr,rfl,rfl,pg⟩ (aa.refl _ _)⟩
  ·refine (y7 pg y ω).mono ?_;rintro e w' ⟨m,hm, -,rfl,rfl⟩;rw [hm];exact ⟨rfl,Goes.stay ⟨B,F1,gt,ct,st,tr,rfl,rfl,pg⟩ (aa.refl _ _)⟩
 extract:=fun {w p F A} y m hm h=>by
  obtain ⟨B,F1,gt,ct,st,tr,rfl,rfl,hL⟩:=h;refine aX 209 (fun _ _=>by kernel_rfl) (G8 _) (fun W hW=>?_);have hl:¬dG A (y:Int)=0:=fun e=>by rw [gJ.2 e] at hm;cases hm
  refine (yL (hL.ae hW) y ω).mono ?_;rintro e w' ⟨m',hm',rfl,hu,st',LC,hL2⟩;rw [hm] at hm';cases hm';exact ⟨rfl,Goes.stay ⟨B,F1,gt,ct,_,_,rfl,rfl,hL2⟩ hu⟩
 has:=fun x h=>by
  obtain ⟨B,F1,gt,ct,st,tr,rfl,rfl,S,af,hM, -⟩:=h;exact gN 139 (fun _ _=>by kernel_rfl) hM.h0 (F7 _ _) (fun W hW=>iw (hM.ae hW).cells x)
 entry:=fun {w p F A} x h=>by
  obtain ⟨B,F1,gt,ct,st,tr,rfl,rfl,S,af,hM, -⟩:=h;refine gN 137 (fun _ _=>by kernel_rfl) hM.h0 (Di _ _) (fun W hW=>?_);cases hin:bV A x with
  | false=>simpa using jR (hM.ae hW).cells x hin
  | true=>
   obtain ⟨y,rfl⟩:=oZ hin;simpa using iY (hM.ae hW).cells y hin
theorem GG (p:Nat) (w:World):Calls Tryz.prog 95 #[.pointer (some ⟨p,0,none⟩),.int .i64 0] w fun e w'=>e=.returned (.tuple #[.iface 178 (.pointer (some ⟨p,0,none⟩)),.int .i64 0])/\w'=w:=by
 go_enter Tryz.func95,Tryz.ntmps95
 go_wp2;go_ret2;exact ⟨rfl,rfl⟩
theorem OH (n:Nat) (hn:n<=65536):lG xy 4 0 n:=by
 intro w;have kn:=fun W=>MO n W hn;have km:=GG;have hty:xy.ty=178:=rfl;have hat:∀w' B F gt,mD w' B F gt 1 (NS.new n) 0 (fun _=>.nil)->xy.at_ w' B.n0 (B.blk F gt) (NS.new n):=fun w' B F gt h=>⟨B,F,gt,_,_,_,rfl,rfl,h⟩
 generalize xy=K at *;rw [hty]
 go_enter Tryz.func81,Tryz.ntmps81
 go_wp2_with (first
  | ((go_at_call 96;(with_reducible refine (kn _).mono ?_));rintro e w1 ⟨B,F,gt,rfl,hS,hu1,hf⟩)
  | ((go_at_call 95;(with_reducible refine (km _ _).mono ?_));rintro e w2 ⟨rfl,rfl⟩)
  | fail)
 go_ret2;exact ⟨B.n0,B.blk F gt,rfl,hat _ _ _ _ hS,aa.trans β hu1,fun x hx=>by have:=hf x hx;simp at this;omega⟩
end Go.Proofs.YtklibcncmbofpaaGreat
