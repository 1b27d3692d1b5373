/-
  Lemmas for PathBest: PaP, Pa, Pa2, Pa3, Pa8, Pa7, Pa5. Conditions: those of each lemma.
-/
import Derived.IntWalk
import Derived.Deep.LoopGhost
import Derived.Test.YtklibcncmbofpaaGreatB05
import Derived.Test.YtklibcncmbofpaaGreatB20
set_option linter.all false
set_option maxHeartbeats 8000000
set_option maxRecDepth 10000
namespace Go.Proofs.YtklibcncmbofpaaGreat
def fA (A:NS):BT->Prop
 | .nil=>True
 | .node x l r=>(∀y,y∈l.nodes->cZ A x y)/\fA A l/\fA A r
theorem fA.frame {A A':NS}:∀ {t:BT},fA A t->(∀x,x∈t.nodes->A'.c x=A.c x)->fA A' t
 | .nil,_,_=>trivial
 | .node x l r,h,hs=>by
  have hx:=hs x (by simp [BT.nodes]);exact ⟨fun y hy=>(fP hx (hs y (by simp [BT.nodes,hy]))).2 (h.1 y hy),h.2.1.frame (fun y hy=>hs y (by simp [BT.nodes,hy])),h.2.2.frame (fun y hy=>hs y (by simp [BT.nodes,hy]))⟩
abbrev Ku:Qo:=⟨fA,fA.frame,fun _=>trivial⟩
def Lone:BT->Prop
 | .nil=>True
 | .node _ _ r=>r=.nil
theorem xX {A:NS}:∀ {P:List Fr} {t:BT},fA A (aj P t)->fA A t
 | [],_,h=>h
 | f::P,t,h=>by
  have h1:fA A (bC f t):=xX (P:=P) h;unfold bC at h1
  split at h1
  ·exact h1.2.2
  ·exact h1.2.1
theorem WY {A:NS}:∀ {P:List Fr} {t t':BT},fA A (aj P t)->fA A t'->(∀y,y∈t'.nodes->y∈t.nodes)->fA A (aj P t')
 | [],_,_,_,h,_=>h
 | f::P,t,t',h,h',hs=>by
  have h1:fA A (bC f t):=xX (P:=P) h;refine WY (P:=P) h ?_ (fun y hy=>?_)
  ·unfold bC at h1 ⊢
   split at h1
   ·rename_i e;rw [if_pos e];exact ⟨h1.1,h1.2.1,h'⟩
   ·rename_i e;rw [if_neg e];exact ⟨fun y hy=>h1.1 y (hs y hy),h',h1.2.2⟩
  ·have hy':=(jL f t').mem_iff.1 hy;refine (jL f t).mem_iff.2 ?_;simp only [ρ,τ] at hy' ⊢;rcases hy' with h|h|h
   ·exact Or.inl h
   ·exact Or.inr (Or.inl (hs y h))
   ·exact Or.inr (Or.inr h)
theorem pW:∀ {P:List Fr} {f:Fr} {t t':BT},t≠.nil->Lone (aj (f::P) t)->Lone (aj (f::P) t')
 | [],f,t,t',ht,h=>by
  have h1:Lone (bC f t):=h
  show Lone (bC f t')
  unfold bC at h1 ⊢
  split at h1
  ·exact absurd h1 ht
  ·rename_i e;rw [if_neg e];exact h1
 | g::P,f,t,t',ht,h=>pW (P:=P) (f:=g) (t:=bC f t) (t':=bC f t') (QW f t) h
/-! ### two trees become one -/
noncomputable def dJ (A:NS) (a b:BT):BT:=
 match a,b with
 | .nil,t=>t
 | t,.nil=>t
 | .node x l _,.node y m _=>if cZ A y x then .node y (.node x l m) .nil else .node x (.node y m l) .nil
theorem uH (A:NS) (t:BT):dJ A .nil t=t:=by cases t<;>rfl
theorem qR (A:NS) (t:BT):dJ A t .nil=t:=by cases t<;>rfl
theorem qY (A:NS) (x y:Nat) (l r m q:BT):dJ A (.node x l r) (.node y m q)=if cZ A y x then .node y (.node x l m) .nil else .node x (.node y m l) .nil:=rfl
theorem mg (A:NS) {a b:BT} (ha:Lone a) (hb:Lone b):(dJ A a b).nodes.Perm (a.nodes++b.nodes):=by
 cases a with
 | nil=>rw [uH];exact List.Perm.refl _
 | node x l r=>
  cases b with
  | nil=>rw [qR];simp [BT.nodes]
  | node y m q=>
   have e1:r=.nil:=ha;have e2:q=.nil:=hb;subst e1 e2;rw [qY]
   split
   ·simp only [BT.nodes,List.append_nil];exact (List.perm_middle (a:=y) (l₁:=x::l.nodes) (l₂:=m.nodes)).symm
   ·simp only [BT.nodes,List.append_nil];refine List.Perm.cons x ?_;exact ((List.perm_append_comm (l₁:=l.nodes) (l₂:=y::m.nodes))).symm
theorem nG (A:NS) {a b:BT} (ha:Lone a) (hb:Lone b):Lone (dJ A a b):=by
 cases a with
 | nil=>rw [uH];exact hb
 | node x l r=>
  cases b with
  | nil=>rw [qR];exact ha
  | node y m q=>rw [qY];split<;>rfl
theorem aaH {A:NS} {x:Nat} {l:BT} (h:fA A (.node x l .nil)):∀y,y∈(BT.node x l .nil).nodes->y=x\/cZ A x y:=fun y hy=>by
 simp only [BT.nodes,List.append_nil,ρ] at hy;rcases hy with e|e
 ·exact Or.inl e
 ·exact Or.inr (h.1 y e)
theorem qp {A:NS} {a b:BT} (ha:Lone a) (hb:Lone b) (h1:fA A a) (h2:fA A b) (hn:(a.nodes++b.nodes).Nodup):fA A (dJ A a b):=by
 cases a with
 | nil=>rw [uH];exact h2
 | node x l r=>
  cases b with
  | nil=>rw [qR];exact h1
  | node y m q=>
   have e1:r=.nil:=ha;have e2:q=.nil:=hb;subst e1 e2;have hxy:x≠y:=fun e=>by
    simp only [BT.nodes,List.append_nil,θ] at hn;exact hn.2.2 x σ y σ e
   rw [qY]
   split
   ·rename_i h
    refine ⟨fun z hz=>?_,⟨h1.1,h1.2.1,h2.2.1⟩,trivial⟩;simp only [BT.nodes,ρ,τ] at hz;rcases hz with e|e|e
    ·rw [e];exact h
    ·exact cz h (h1.1 z e)
    ·exact h2.1 z e
   ·rename_i h
    have h':cZ A x y:=(jm hxy).resolve_right h;refine ⟨fun z hz=>?_,⟨h2.1,h2.2.1,h1.2.1⟩,trivial⟩;simp only [BT.nodes,ρ,τ] at hz;rcases hz with e|e|e
    ·rw [e];exact h'
    ·exact cz h' (h2.1 z e)
    ·exact h1.1 z e
def iI (S:TS) (x y:Nat):TS:=⟨fun z=>if z=x then y else S.l z,fun z=>if z=y then S.l x else S.r z,fun z=>if z=y then x else if (z:Int)=S.l x then y else S.u z⟩
theorem Iy {S:TS} {x y z:Nat} (h1:z≠x) (h2:z≠y) (h3:(z:Int)≠S.l x):S.at (iI S x y) z:=by
 unfold iI TS.at;simp [h1,h2,h3]
theorem Ca {S:TS} {x y:Nat} {l m:BT} (ha:cO S (-1) x (.node x l .nil)) (hb:cO S (-1) y (.node y m .nil)) (hn:((BT.node x l .nil).nodes++(BT.node y m .nil).nodes).Nodup) :
  cO (iI S x y) (-1) x (.node x (.node y m l) .nil)/\∀z,z∉(BT.node x l .nil).nodes++(BT.node y m .nil).nodes->S.at (iI S x y) z:=by
 simp only [BT.nodes,List.append_nil] at hn ⊢;rw [θ,List.nodup_cons,List.nodup_cons] at hn;obtain ⟨⟨n1,n2⟩,⟨n3,n4⟩,n5⟩:=hn;obtain ⟨_,a2,a3,a4⟩:=ha;obtain ⟨_,b2,b3,b4⟩:=hb;have hxy:x≠y:=fun e=>n5 x σ y σ e;have hlx:S.l x=l.root:=a3.root;have hlr:∀z:Nat,(z:Int)=S.l x->z∈l.nodes:=fun z hz=>by
  rw [hlx] at hz
  by_cases e:l=.nil
  ·rw [e] at hz;simp [BT.root] at hz
  ·have h1:=bM e;have:l.root.toNat=z:=ω;rw [←this];exact h1.1
 have e0:(iI S x y).l x=y:=by unfold iI;simp
 have e1:(iI S x y).r x=S.r x:=by unfold iI;simp [hxy]
 have e2:(iI S x y).u x=S.u x:=by
  have h3:(x:Int)≠S.l x:=fun e=>n1 (hlr x e);unfold iI;simp [hxy,h3]
 have e3:(iI S x y).l y=S.l y:=by have hyx:¬y=x:=fun e=>hxy e.symm;unfold iI;simp [hyx]
 have e4:(iI S x y).r y=S.l x:=by unfold iI;simp
 have e5:(iI S x y).u y=x:=by unfold iI;simp
 refine ⟨⟨rfl,by rw [e2];exact a2,?_,by rw [e1];exact a4⟩,fun z hz=>?_⟩
 ·rw [e0];refine ⟨rfl,e5,?_,?_⟩
  ·rw [e3];refine b3.frame (fun z hz=>Iy (fun e=>n5 x σ z (by simp [hz]) e.symm) (fun e=>n3 (by rw [←e];exact hz)) (fun e=>n5 z (by simp [hlr z e]) z (by simp [hz]) rfl))
  ·rw [e4];refine a3.NW n2 (fun z hz=>?_) (fun hl=>?_)
   ·have z1:z≠x:=fun e=>n1 (by rw [←e];exact hz);have z2:z≠y:=fun e=>n5 z (by simp [hz]) y σ e;refine ⟨by unfold iI;simp [z1],by unfold iI;simp [z2],fun hr=>?_⟩;have z3:(z:Int)≠S.l x:=fun e=>hr (by rw [←hlx,←e];simp);unfold iI;simp [z2,z3]
   ·have h1:=bM hl;have z2:l.root.toNat≠y:=fun e=>n5 _ (List.mem_cons_of_mem _ h1.1) y σ e
    show (if l.root.toNat=y then (x:Int) else if ((l.root.toNat:Nat):Int)=S.l x then (y:Int) else S.u l.root.toNat)=y
    rw [if_neg z2,if_pos (by rw [hlx];exact h1.2.symm)]
 ·simp only [τ,ρ,not_or] at hz;exact Iy hz.1.1 hz.2.1 (fun e=>hz.1.2 (hlr z e))
/-! ### a tree comes off -/
def kK (S:TS) (p:Nat) (s:Bool) (x:Nat):TS:=
 ⟨fun z=>if s=false/\z=p then S.r x else S.l z,fun z=>if z=x then -1 else if s=true/\z=p then S.r x else S.r z,fun z=>if z=x then -1 else if (z:Int)=S.r x then p else S.u z⟩
theorem zY {S:TS} {f:Fr} {P:List Fr} {x:Nat} {l r:BT} (h:cO S (-1) (aj (f::P) (.node x l r)).root (aj (f::P) (.node x l r))) (hn:(aj (f::P) (.node x l r)).nodes.Nodup) :
  cO (kK S f.1 f.2.1 x) (-1) x (.node x l .nil)/\cO (kK S f.1 f.2.1 x) (-1) (aj (f::P) r).root (aj (f::P) r)/\(∀y,y∉(aj (f::P) (.node x l r)).nodes->S.at (kK S f.1 f.2.1 x) y)/\
   S.kid f.2.1 f.1=x/\(f.2.1=true->S.l f.1≠x)/\S.u x=f.1:=by
 obtain ⟨h1,h2⟩:=(eU _ _).1 h;have YH:=(aP (f::P) (.node x l r)).nodup_iff.1 hn;have hmem:∀y,y∈(aj (f::P) (.node x l r)).nodes↔y∈(BT.node x l r).nodes\/y∈dU (f::P):=fun y=>by rw [(aP (f::P) (.node x l r)).mem_iff,τ]
 rw [θ] at YH;obtain ⟨n1,n2,n3⟩:=YH;obtain ⟨_,g2,g3,g4⟩:=h1;obtain ⟨k1,k2,k3,k4⟩:=h2;simp only [BT.nodes,List.nodup_cons,τ,not_or,θ] at n1;obtain ⟨⟨m1,m2⟩,m3,m4,m5⟩:=n1;have hfx:f.1≠x:=fun e=>n3 x (by simp [BT.nodes]) f.1 (by simp [dU]) e.symm;have hrx:S.r x=r.root:=g4.root;have hrr:∀z:Nat,(z:Int)=S.r x->z∈r.nodes:=fun z hz=>by
  rw [hrx] at hz
  by_cases e:r=.nil
  ·rw [e] at hz;simp [BT.root] at hz
  ·have h1:=bM e;have:r.root.toNat=z:=ω;rw [←this];exact h1.1
 have hat:∀z,z≠f.1->z≠x->(z:Int)≠S.r x->S.at (kK S f.1 f.2.1 x) z:=fun z z1 z2 z3=>by
  unfold kK TS.at;simp [z1,z2,z3]
 have hnot:f.2.1=true->S.l f.1≠x:=fun e hl=>by
  rw [e] at k2;have h4:=k2.root;have h5:f.2.2.root=(x:Int):=by rw [←h4];simpa [TS.kid] using hl
  have h6:f.2.2≠.nil:=fun e=>by rw [e] at h5;simp [BT.root] at h5
  have h7:=(bM h6).1;rw [h5,π] at h7;exact n3 x (by simp [BT.nodes]) x (by simp [dU,h7]) rfl
 have Yn:∀z,z∈dU (f::P)->z≠x/\(z:Int)≠S.r x:=fun z hz=>⟨fun e=>n3 x (by simp [BT.nodes]) z hz e.symm,fun e=>n3 z (by simp [BT.nodes,hrr z e]) z hz rfl⟩
 refine ⟨⟨rfl,by unfold kK;simp,?_,?_⟩,(eU _ _).2 ⟨?_,?_⟩,fun y hy=>?_,k1,hnot,g2⟩
 ·have e:(kK S f.1 f.2.1 x).l x=S.l x:=by have hyx:¬x=f.1:=fun e=>hfx e.symm;unfold kK;simp [hyx]
  rw [e];refine g3.frame (fun z hz=>hat z (fun e=>n3 z (by simp [BT.nodes,hz]) f.1 (by simp [dU]) e) (fun e=>m1 (by rw [←e];exact hz)) (fun e=>m5 z hz z (hrr z e) rfl))
 ·show (kK S f.1 f.2.1 x).r x=-1
  unfold kK;simp
 ·rw [←hrx];refine g4.NW m4 (fun z hz=>?_) (fun hr=>?_)
  ·have z1:z≠f.1:=fun e=>n3 z (by simp [BT.nodes,hz]) f.1 (by simp [dU]) e;have z2:z≠x:=fun e=>m2 (by rw [←e];exact hz);refine ⟨by unfold kK;simp [z1],by unfold kK;simp [z1,z2],fun hr=>?_⟩;have z3:(z:Int)≠S.r x:=fun e=>hr (by rw [←hrx,←e];simp);unfold kK;simp [z2,z3]
  ·have h1:=bM hr;have z2:r.root.toNat≠x:=fun e=>m2 (by rw [←e];exact h1.1)
   show (if r.root.toNat=x then (-1:Int) else if ((r.root.toNat:Nat):Int)=S.r x then (f.1:Int) else S.u r.root.toNat)=f.1
   rw [if_neg z2,if_pos (by rw [hrx];exact h1.2.symm)]
 ·have hf:=Yn f.1 (by simp [dU]);refine Q6.other (S:=S) (z:=x) ⟨k1,k2,k3,k4⟩ n2 ?_ ?_ ?_ (fun z z1 z2=>hat z z1 (Yn z z2).1 (Yn z z2).2)
  ·unfold TS.kid kK;cases f.2.1<;>simp [hfx,hrx]
  ·unfold TS.kid kK;cases f.2.1<;>simp [hfx]
  ·unfold kK;simp [hf.1,hf.2]
 ·rw [hmem,not_or] at hy;exact hat y (fun e=>hy.2 (by simp [dU,e])) (fun e=>hy.1 (by simp [BT.nodes,e])) (fun e=>hy.1 (by simp [BT.nodes,hrr y e]))
theorem vX (P:List Fr) (x:Nat) (l r:BT):(aj P (.node x l r)).nodes.Perm ((BT.node x l .nil).nodes++(aj P r).nodes):=by
 refine (aP P _).trans ?_;refine List.Perm.trans ?_ ((aP P r).symm.append_left _);simp [BT.nodes,List.append_assoc]
theorem Ak {A:NS} {P:List Fr} {x:Nat} {l r:BT} (h:fA A (aj P (.node x l r))):fA A (.node x l .nil)/\fA A (aj P r):=by
 have h1:=xX h;exact ⟨⟨h1.1,h1.2.1,trivial⟩,WY h h1.2.2 (fun y hy=>by simp [BT.nodes,hy])⟩
/-! ### what is below a thing comes off it -/
def bD:BT->List BT
 | .nil=>[]
 | .node x l r=>.node x l .nil::bD r
def gT (l:List BT):List Nat:=l.flatMap BT.nodes
theorem jG:∀ (t:BT),(gT (bD t)).Perm t.nodes
 | .nil=>List.Perm.refl _
 | .node x l r=>by
  unfold gT;simp only [bD,List.flatMap_cons,BT.nodes,List.append_nil,List.cons_append];exact List.Perm.cons x ((jG r).append_left _)
theorem Ck {A:NS}:∀ {t:BT},fA A t->∀u,u∈bD t->fA A u/\Lone u
 | .nil,_,u,hu=>by cases hu
 | .node x l r,h,u,hu=>by
  simp only [bD,ρ] at hu;rcases hu with e|e
  ·subst e;exact ⟨⟨h.1,h.2.1,trivial⟩,rfl⟩
  ·exact Ck h.2.2 u e
def dH (l:List BT):List Int:=l.map BT.root
def gP (S:TS) (x:Nat) (ks:List Int):TS:=⟨fun z=>if z=x then -1 else S.l z,fun z=>if (z:Int)∈ks then -1 else S.r z,fun z=>if (z:Int)∈ks then -1 else S.u z⟩
theorem Ir {t u:BT} (hu:u∈bD t):u.root.toNat∈u.nodes/\u.root=(u.root.toNat:Int)/\u.root∈dH (bD t):=by
 refine ⟨?_,?_,List.mem_map.2 ⟨u,hu,rfl⟩⟩
 all_goals
  induction t with
  | nil=>cases hu
  | node x l r _ ih=>
   simp only [bD,ρ] at hu;rcases hu with e|e
   ·subst e;simp [BT.root,BT.nodes]
   ·exact ih e
theorem Lt {t:BT} {z:Nat} (h:(z:Int)∈dH (bD t)):z∈t.nodes:=by
 obtain ⟨u,hu,e⟩:=List.mem_map.1 h;have h1:=Ir hu;refine (jG t).mem_iff.1 (List.mem_flatMap.2 ⟨u,hu,?_⟩);rw [←show u.root.toNat=z by omega];exact h1.1
theorem FT {S:TS} {x:Nat} {ks:List Int}:∀ {t:BT} {p:Int},cO S p t.root t->t.nodes.Nodup->x∉t.nodes->(∀z:Nat,z∈t.nodes->((z:Int)∈ks↔(z:Int)∈dH (bD t)))->
  ∀u,u∈bD t->cO (gP S x ks) (-1) u.root u
 | .nil,_,_,_,_,_,u,hu=>by cases hu
 | .node y l r,p,h,hn,hx,hk,u,hu=>by
  simp only [BT.nodes,ρ,τ,not_or] at hx;simp only [BT.nodes,List.nodup_cons,τ,not_or,θ] at hn;obtain ⟨⟨m1,m2⟩,m3,m4,m5⟩:=hn;obtain ⟨_,h2,h3,h4⟩:=h;have hl:∀z:Nat,z∈l.nodes->(z:Int)∉ks:=fun z hz hm=>by
   have:=(hk z (by simp [BT.nodes,hz])).1 hm;simp only [dH,bD,List.map_cons,ρ,BT.root] at this;rcases this with e|e
   ·have:z=y:=ω;exact m1 (by rw [←this];exact hz)
   ·exact m5 z hz z (Lt e) rfl
  simp only [bD,ρ] at hu;rcases hu with e|e
  ·subst e;have hyk:(y:Int)∈ks:=(hk y (by simp [BT.nodes])).2 (by simp [dH,bD,BT.root]);refine ⟨rfl,by simp [gP,hyk],?_,by simp [gP,hyk,cO]⟩;have e1:(gP S x ks).l y=S.l y:=by have hyx:¬y=x:=fun e=>hx.1 e.symm;simp [gP,hyx]
   rw [e1];exact h3.frame (fun z hz=>⟨by simp [gP,show z≠x from fun e=>hx.2.1 (by rw [←e];exact hz)],by simp [gP,hl z hz],by simp [gP,hl z hz]⟩)
  ·have e4:=h4.root;rw [e4] at h4;refine FT h4 m4 hx.2.2 (fun z hz=>?_) u e;rw [hk z (by simp [BT.nodes,hz])];simp only [dH,bD,List.map_cons,ρ,BT.root];constructor
   ·rintro (e|e)
    ·have:z=y:=ω;exact absurd (by rw [←this];exact hz) m2
    ·exact e
   ·exact Or.inr
theorem Rn {S:TS} {x z:Nat} {ks:List Int} (h1:z≠x) (h2:(z:Int)∉ks):S.at (gP S x ks) z:=by unfold gP TS.at;simp [h1,h2]
noncomputable def bY (A:NS):List BT->List BT
 | []=>[]
 | [a]=>[a]
 | a::b::l=>dJ A a b::bY A l
noncomputable def gJ (A:NS) (l:List BT):BT:=l.foldr (dJ A) .nil
theorem bL (t:BT) (l:List BT):gT (t::l)=t.nodes++gT l:=rfl
theorem gI (l m:List BT):gT (l++m)=gT l++gT m:=by unfold gT;rw [List.flatMap_append]
theorem sJ (A:NS):∀ (l:List BT),(bY A l).length=(l.length+1) / 2
 | []=>rfl
 | [_]=>by simp [bY]
 | a::b::l=>by
  show (bY A l).length+1=_
  rw [sJ A l];simp;omega
theorem De (A:NS):∀ (l:List BT),(∀t,t∈l->Lone t)->(gT (bY A l)).Perm (gT l)
 | [],_=>List.Perm.refl _
 | [_],_=>List.Perm.refl _
 | a::b::l,h=>by
  show (gT (dJ A a b::bY A l)).Perm _
  rw [bL,bL,bL,←List.append_assoc];exact (mg A (h a σ) (h b σ)).append (De A l (fun t ht=>h t (by simp [ht])))
theorem xZ (A:NS):∀ (l:List BT),(∀t,t∈l->Lone t)->(gJ A l).nodes.Perm (gT l)/\Lone (gJ A l)
 | [],_=>⟨List.Perm.refl _,trivial⟩
 | a::l,h=>by
  have ih:=xZ A l (fun t ht=>h t (by simp [ht]));exact ⟨(mg A (h a σ) ih.2).trans (ih.1.append_left _),nG A (h a σ) ih.2⟩
theorem vE (A:NS):∀ (k:Nat) (l:List BT),2*k<=l.length->bY A l=(bY A l).take k++bY A (l.drop (2*k))
 | 0,l,_=>σ
 | k+1,[],h=>by simp at h
 | k+1,[_],h=>by simp at h;omega
 | k+1,a::b::l,h=>by
  have h1:=vE A k l (by simp at h;omega)
  show dJ A a b::bY A l=_
  rw [show 2*(k+1)=2*k+2 by omega];simp only [bY,List.take_succ_cons,List.cons_append,List.drop_succ_cons];rw [←h1]
end Go.Proofs.YtklibcncmbofpaaGreat
namespace Go.Proofs.YtklibcncmbofpaaGreat
open Go Go.RowKit
structure PB where
 n0:Nat
 c:Nat
 ba:Nat
structure iq (w:World) (B:PB) (F:List Nat) (gt ct:Nat) (A:NS) (st:Nat) (S:TS) (ak:List Int):Prop where
 head:aO w B.n0 215 3 (fun j=>[Value.pointer (some ⟨B.c,0,none⟩),.slice (some ⟨B.ba,0,none⟩) A.cs.length A.cs.length,.slice (some ⟨gt,0,none⟩) ak.length ct].getD j undef)
 cells:aG w B.c F A st
 ties:aO w B.ba 217 (A.cs.length*3) (dQ S)
 jQ:IZ w gt ct ak
 jE:ak.length=A.hs.length
 bI:B.n0∉F/\B.ba∉F/\gt∉F
 sep:B.n0≠B.ba/\B.n0≠gt/\B.ba≠gt
section
variable {w:World} {B:PB} {F:List Nat} {gt ct:Nat} {A:NS} {st:Nat} {S:TS} {ak:List Int}
def PB.blk (B:PB) (F:List Nat) (gt:Nat):List Nat:=B.n0::B.ba::gt::F
theorem iq.upd {w':World} {G:List Nat} (h:iq w B F gt ct A st S ak) (hu:aa G w w') (hG:∀x,x∈G->x∉B.blk F gt):iq w' B F gt ct A st S ak:=by
 have h1:∀x,x∈B.blk F gt->x∉G:=fun x hx hg=>hG x hg hx;exact ⟨h.head.upd hu (h1 _ (by simp [PB.blk])),h.cells.upd hu (fun x hx=>fun hm=>hG x hx (by simp [PB.blk,hm])),h.ties.upd hu (h1 _ (by simp [PB.blk])),h.jQ.upd hu (h1 _ (by simp [PB.blk])),h.jE,h.bI,h.sep⟩
theorem iq.aA {w':World} (h:iq w B F gt ct A st S ak) (hu:aa [] w w'):iq w' B F gt ct A st S ak:=h.upd hu σ
theorem iq.lt (h:iq w B F gt ct A st S ak):∀x,x∈B.blk F gt->x<w.heap.size:=by
 intro x hx;have:=h.head.lt;have:=h.ties.lt;have:=h.jQ.lt;simp only [PB.blk,ρ] at hx;rcases hx with rfl|rfl|rfl|hx
 ·assumption
 ·assumption
 ·assumption
 ·exact h.cells.lt x hx
theorem iq.cF (h:iq w B F gt ct A st S ak):B.c∈F:=h.cells.mem
theorem iq.h0 (h:iq w B F gt ct A st S ak):w.cell? ⟨B.n0,0,none⟩=some (.pointer (some ⟨B.c,0,none⟩)):=h.head.cellAt 0 ω rfl
theorem iq.h1 (h:iq w B F gt ct A st S ak):w.cell? ⟨B.n0,1,none⟩=some (.slice (some ⟨B.ba,0,none⟩) A.cs.length A.cs.length):=h.head.cellAt 1 ω rfl
theorem iq.h2 (h:iq w B F gt ct A st S ak):w.cell? ⟨B.n0,2,none⟩=some (.slice (some ⟨gt,0,none⟩) ak.length ct):=h.head.cellAt 2 ω rfl
theorem iq.l (h:iq w B F gt ct A st S ak) (x:Nat) (hx:x<A.cs.length):w.cell? ⟨B.ba,x*3,none⟩=some (.int .i64 (S.l x)):=h.ties.cellAt _ ω (p9 S x)
theorem iq.r (h:iq w B F gt ct A st S ak) (x:Nat) (hx:x<A.cs.length):w.cell? ⟨B.ba,x*3+1,none⟩=some (.int .i64 (S.r x)):=h.ties.cellAt _ ω (pO S x)
theorem iq.u (h:iq w B F gt ct A st S ak) (x:Nat) (hx:x<A.cs.length):w.cell? ⟨B.ba,x*3+2,none⟩=some (.int .i64 (S.u x)):=h.ties.cellAt _ ω (tN S x)
theorem iq.f (h:iq w B F gt ct A st S ak) (j:Nat):w.frozen? ⟨B.ba,j,none⟩=false:=h.ties.free j
theorem iq.iV {w':World} {S':TS} (h:iq w B F gt ct A st S ak) (hu:aa [B.ba] w w') (hT:aO w' B.ba 217 (A.cs.length*3) (dQ S')):iq w' B F gt ct A st S' ak:=by
 have s:=h.sep;have f:=h.bI;exact ⟨h.head.upd hu ζ,h.cells.upd hu (fun x hx=>by simp at hx;rw [hx];exact f.2.1),hT,h.jQ.upd hu ζ,h.jE,f,s⟩
theorem iq.ext {S':TS} (h:iq w B F gt ct A st S ak) (hS:∀x,S'.l x=S.l x/\S'.r x=S.r x/\S'.u x=S.u x):iq w B F gt ct A st S' ak:=by
 have e:S'=S:=by
  cases S;cases S';simp only [TS.mk.injEq];exact ⟨funext fun x=>(hS x).1,funext fun x=>(hS x).2.1,funext fun x=>(hS x).2.2⟩
 rw [e];exact h
theorem Vz (S:TS) (p:Nat) (v:Int) (j:Nat):(if j=p*3 then Value.int .i64 v else dQ S j)=dQ (S.aJ p false v) j:=by
 unfold dQ TS.aJ
 by_cases hj2:j=p*3
 ·subst hj2;simp
 ·by_cases h0:j % 3=0
  ·simp [hj2,h0];intro hh;exfalso;omega
  ·simp [hj2,h0]
theorem UA (S:TS) (p:Nat) (v:Int) (j:Nat):(if j=p*3+1 then Value.int .i64 v else dQ S j)=dQ (S.aJ p true v) j:=by
 unfold dQ TS.aJ
 by_cases hj2:j=p*3+1
 ·subst hj2;simp;intro hh;exfalso;omega
 ·by_cases h0:j % 3=1
  ·simp [hj2,h0];intro hh;exfalso;omega
  ·simp [hj2,h0]
theorem VC (S:TS) (p:Nat) (v:Int) (j:Nat):(if j=p*3+2 then Value.int .i64 v else dQ S j)=dQ (S.bW p v) j:=by
 unfold dQ TS.bW
 by_cases hj2:j=p*3+2
 ·subst hj2;simp;intro hh;exfalso;omega
 ·by_cases h0:j % 3=0
  ·simp [hj2,h0]
  ·by_cases h1:j % 3=1
   ·simp [hj2,h1]
   ·simp [hj2,h0,h1];intro hh;exfalso;omega
theorem iq.KI (h:iq w B F gt ct A st S ak) (p:Nat) (v:Int):iq (w.setCell ⟨B.ba,p*3,none⟩ (.int .i64 v)) B F gt ct A st (S.aJ p false v) ak:=
 h.iV β ((h.ties.set _ _).ext (fun j _=>Vz S p v j))
theorem iq.dG (h:iq w B F gt ct A st S ak) (p:Nat) (v:Int):iq (w.setCell ⟨B.ba,p*3+1,none⟩ (.int .i64 v)) B F gt ct A st (S.aJ p true v) ak:=
 h.iV β ((h.ties.set _ _).ext (fun j _=>UA S p v j))
theorem iq.sU (h:iq w B F gt ct A st S ak) (p:Nat) (v:Int):iq (w.setCell ⟨B.ba,p*3+2,none⟩ (.int .i64 v)) B F gt ct A st (S.bW p v) ak:=
 h.iV β ((h.ties.set _ _).ext (fun j _=>VC S p v j))
theorem iq.qL (h:iq w B F gt ct A st S ak) (x:Nat) (k:Int):iq (w.setCell ⟨gt,x,none⟩ (.int .i64 k)) B F gt ct A st S (ak.set x k):=by
 have s:=h.sep;have f:=h.bI;have hu:aa [gt] w (w.setCell ⟨gt,x,none⟩ (.int .i64 k)):=β;exact ⟨by rw [List.length_set];exact h.head.upd hu ζ,h.cells.upd hu (fun x hx=>by simp at hx;rw [hx];exact f.2.2),h.ties.upd hu ζ,h.jQ.set x k,by rw [List.length_set];exact h.jE,f,s⟩
theorem iq.dB {w':World} {F':List Nat} {A':NS} {st':Nat} (h:iq w B F gt ct A st S ak) (hu:aa F w w') (hC:aG w' B.c F' A' st') (hF:∀x,x∈F'->x∈F\/w.heap.size<=x) (h1:A'.cs.length=A.cs.length) (h2:A'.hs.length=A.hs.length):iq w' B F' gt ct A' st' S ak:=by
 have f:=h.bI;have g:=h.lt;have hf:∀x,x<w.heap.size->x∉F->x∉F':=fun x hx hn hm=>by rcases hF x hm with h'|h';exact hn h';omega
 have l0:=g B.n0 (by simp [PB.blk]);have l1:=g B.ba (by simp [PB.blk]);have l4:=g gt (by simp [PB.blk]);exact ⟨by rw [h1];exact h.head.upd hu f.1,hC,by rw [h1];exact h.ties.upd hu f.2.1,h.jQ.upd hu f.2.2,by rw [h2];exact h.jE,⟨hf _ l0 f.1,hf _ l1 f.2.1,hf _ l4 f.2.2⟩,h.sep⟩
end
def nE (w:World) (B:PB) (F:List Nat) (gt ct:Nat) (A:NS) (st:Nat) (tr:Nat->BT):Prop:=∃S ak,iq w B F gt ct A st S ak/\wR Ku A S ak tr/\∀h,Lone (tr h)
theorem nE.upd {w w':World} {B:PB} {F G:List Nat} {gt ct st:Nat} {A:NS} {tr:Nat->BT} (h:nE w B F gt ct A st tr) (hu:aa G w w') (hG:∀x,x∈G->x∉B.blk F gt):nE w' B F gt ct A st tr:=by
 obtain ⟨S,ak,hM,hI⟩:=h;exact ⟨S,ak,hM.upd hu hG,hI⟩
theorem nE.aA {w w':World} {B:PB} {F:List Nat} {gt ct st:Nat} {A:NS} {tr:Nat->BT} (h:nE w B F gt ct A st tr) (hu:aa [] w w'):nE w' B F gt ct A st tr:=h.upd hu σ
section
variable {w:World} {B:PB} {F:List Nat} {gt ct:Nat} {A:NS} {st:Nat} {S:TS} {ak:List Int}
theorem BR (S:TS) (x y:Nat) (h:S.l x=-1):∀z,(iI S x y).l z=((((S.aJ y true (S.l x)).bW y x).aJ x false y)).l z/\(iI S x y).r z=((((S.aJ y true (S.l x)).bW y x).aJ x false y)).r z/\(iI S x y).u z=((((S.aJ y true (S.l x)).bW y x).aJ x false y)).u z:=fun z=>by
 unfold iI TS.aJ TS.bW;rw [h];refine ⟨σ,σ,?_⟩;have:¬ (z:Int)=-1:=ω;simp [this]
theorem Da (S:TS) (x y o:Nat) (h:S.l x=o) (hoy:o≠y):∀z,(iI S x y).l z=(((((S.aJ y true (S.l x)).bW y x).bW o y).aJ x false y)).l z/\(iI S x y).r z=(((((S.aJ y true (S.l x)).bW y x).bW o y).aJ x false y)).r z/\(iI S x y).u z=(((((S.aJ y true (S.l x)).bW y x).bW o y).aJ x false y)).u z:=fun z=>by
 unfold iI TS.aJ TS.bW;rw [h];refine ⟨σ,σ,?_⟩;simp only [Bool.false_eq_true,if_false,if_true]
 by_cases h1:z=y
 ·subst h1;rw [if_pos rfl,if_neg (fun e=>hoy e.symm),if_pos rfl]
 ·rw [if_neg h1]
  by_cases h2:z=o
  ·subst h2;simp
  ·rw [if_neg (show ¬ (z:Int)=(o:Int) by omega),if_neg h2,if_neg h1]
theorem wO (b:Int) (w:World) (n0:Nat):Calls Tryz.prog 215 #[.pointer (some ⟨n0,0,none⟩),.int .i64 (-1),.int .i64 b] w fun e w'=>e=.returned (.int .i64 b)/\w'=w:=by
 go_enter Tryz.func215,Tryz.ntmps215
 go_wp2;go_ret;exact ⟨rfl,rfl⟩
theorem Ee (a:Int) (w:World) (n0:Nat):Calls Tryz.prog 215 #[.pointer (some ⟨n0,0,none⟩),.int .i64 a,.int .i64 (-1)] w fun e w'=>e=.returned (.int .i64 a)/\w'=w:=by
 by_cases h:a=-1
 ·subst h;exact wO (-1) w n0
 ·have hb:(a == -1)=false:=by simpa using h
  go_enter Tryz.func215,Tryz.ntmps215
  go_wp2;go_ret;exact ⟨rfl,rfl⟩
theorem FW (h:iq w B F gt ct A st S ak) (x y:Nat) (hx:bX A (x:Int)=true) (hy:bX A (y:Int)=true) (hxy:x≠y) (hkx:S.l x=-1\/(0<=S.l x/\S.l x<A.cs.length)) (hky:S.l y=-1\/(0<=S.l y/\S.l y<A.cs.length)) (hnx:S.l x≠y) (hny:S.l y≠x) :
  Calls Tryz.prog 215 #[.pointer (some ⟨B.n0,0,none⟩),.int .i64 (x:Int),.int .i64 (y:Int)] w fun e w'=>e=.returned (.int .i64 ((if cZ A y x then y else x:Nat):Int))/\(∃st',iq w' B F gt ct A st' (if cZ A y x then iI S y x else iI S x y) ak)/\aa [B.ba,B.c] w w':=by
 have ka:=fF h.cells y x hy hx;have hx2:=(ai _ _).1 hx;have hy2:=(ai _ _).1 hy;have hA:=h.cells.ok.c1;have c0:=h.h0;have hM1:∀w1,aG w1 B.c F A (bZ st 1)->aa [B.c] w w1->iq w1 B F gt ct A (bZ st 1) S ak:=fun w1 hC hu=>h.dB (hu.mono (fun z hz=>by simp at hz;rw [hz];exact h.cF)) hC (fun z hz=>Or.inl hz) rfl rfl;have hb1:((x:Int) == -1)=false:=σ;have hb2:((y:Int) == -1)=false:=σ;have HX:=χ (ψ hM1 h.sep);have CR:(x:Int)<(A.cs.length:Int):=ω;have ZM:(y:Int)<(A.cs.length:Int):=ω;clear h hx hy hM1
 by_cases hlt:cZ A y x
 ·rw [decide_eq_true hlt] at ka;rw [if_pos hlt,if_pos hlt];clear hlt hkx
  go_enter Tryz.func215,Tryz.ntmps215
  go_upto_region 7 with (first
   | ((go_at_call 174;(with_reducible refine (ka).mono ?_));rintro e w1 ⟨rfl,hC,hu1⟩)
   | fail)
  obtain ⟨hM1,hsep⟩:=HX.out;have hM:=hM1 w1 hC hu1;have c1:=hM.h1;have dl:=hM.l y hy2.1;have dr:=hM.r x hx2.1;have du:=hM.u x hx2.1;have ff:=hM.f;have Un:=ff (x*3+1);have Um:=ff (x*3+2);have Vj:=ff (y*3);have hn1:¬B.n0=B.ba:=hsep.1;have hn2:¬B.ba=B.n0:=fun e=>hsep.1 e.symm;have HM:=χ (ψ hM hu1);have nb1:¬y*3=x*3+1:=ω;have nb2:¬y*3=x*3+2:=ω;have nbl:y*3<A.cs.length*3:=ω;clear hM hu1 hC hM1 hsep ka
  by_cases ho:S.l y=-1
  ·have HO:=χ ho;have he:=BR S y x ho;rw [ho] at dl he;have HE:=χ he;have hlr:((-1:Int) != -1)=false:=σ;clear ho he hky hny
   go_upto_region 8 with (fail)
   go_region_law (fail)
   all_goals
    go_wp2;go_ret;refine ⟨rfl,⟨_,iq.ext ((((HM.out.1.dG x (-1)).sU x y).KI y x).aA ?_) HE.out⟩,(HM.out.2.mono σ).trans ?_⟩
    ·exact ν
    ·exact β
  ·obtain ⟨o,wu⟩:∃o:Nat,S.l y=o:=⟨(S.l y).toNat,ω⟩;have hol:o<A.cs.length:=ω;have hoy:o≠x:=fun e=>hny (by rw [wu,e]);have he:=Da S y x o wu hoy;rw [wu] at dl he;have HE:=χ he;have zo:((o:Int) != -1)=true:=σ;have hoI:(o:Int)<(A.cs.length:Int):=ω;have do_:=HM.out.1.u o hol;have VV:=ff (o*3+2);have no1:¬o*3+2=x*3+1:=ω;have no2:¬o*3+2=x*3+2:=ω;have no3:¬y*3=o*3+2:=ω;clear ho he wu hky hny
   go_upto_region 8 with (fail)
   go_region_law (fail)
   all_goals
    go_wp2;go_ret;refine ⟨rfl,⟨_,iq.ext (((((HM.out.1.dG x (o:Int)).sU x y).sU o x).KI y x).aA ?_) HE.out⟩,(HM.out.2.mono σ).trans ?_⟩
    ·exact ν
    ·exact β
 ·rw [decide_eq_false hlt] at ka;rw [if_neg hlt,if_neg hlt];clear hlt hky
  go_enter Tryz.func215,Tryz.ntmps215
  go_upto_region 7 with (first
   | ((go_at_call 174;(with_reducible refine (ka).mono ?_));rintro e w1 ⟨rfl,hC,hu1⟩)
   | fail)
  obtain ⟨hM1,hsep⟩:=HX.out;have hM:=hM1 w1 hC hu1;have c1:=hM.h1;have dl:=hM.l x hx2.1;have dr:=hM.r y hy2.1;have du:=hM.u y hy2.1;have ff:=hM.f;have Un:=ff (y*3+1);have Um:=ff (y*3+2);have Vj:=ff (x*3);have hn1:¬B.n0=B.ba:=hsep.1;have hn2:¬B.ba=B.n0:=fun e=>hsep.1 e.symm;have HM:=χ (ψ hM hu1);have nb1:¬x*3=y*3+1:=ω;have nb2:¬x*3=y*3+2:=ω;have nbl:x*3<A.cs.length*3:=ω;clear hM hu1 hC hM1 hsep ka
  by_cases ho:S.l x=-1
  ·have HO:=χ ho;have he:=BR S x y ho;rw [ho] at dl he;have HE:=χ he;have hlr:((-1:Int) != -1)=false:=σ;clear ho he hkx hnx
   go_upto_region 8 with (fail)
   go_region_law (fail)
   all_goals
    go_wp2;go_ret;refine ⟨rfl,⟨_,iq.ext ((((HM.out.1.dG y (-1)).sU y x).KI x y).aA ?_) HE.out⟩,(HM.out.2.mono σ).trans ?_⟩
    ·exact ν
    ·exact β
  ·obtain ⟨o,wu⟩:∃o:Nat,S.l x=o:=⟨(S.l x).toNat,ω⟩;have hol:o<A.cs.length:=ω;have hoy:o≠y:=fun e=>hnx (by rw [wu,e]);have he:=Da S x y o wu hoy;rw [wu] at dl he;have HE:=χ he;have zo:((o:Int) != -1)=true:=σ;have hoI:(o:Int)<(A.cs.length:Int):=ω;have do_:=HM.out.1.u o hol;have VV:=ff (o*3+2);have no1:¬o*3+2=y*3+1:=ω;have no2:¬o*3+2=y*3+2:=ω;have no3:¬x*3=o*3+2:=ω;clear ho he wu hkx hnx
   go_upto_region 8 with (fail)
   go_region_law (fail)
   all_goals
    go_wp2;go_ret;refine ⟨rfl,⟨_,iq.ext (((((HM.out.1.dG y (o:Int)).sU y x).sU o y).KI x y).aA ?_) HE.out⟩,(HM.out.2.mono σ).trans ?_⟩
    ·exact ν
    ·exact β
end
theorem xx {a b:List Nat} (h:(a++b).Nodup):(b++a).Nodup:=(List.perm_append_comm (l₁:=a) (l₂:=b)).nodup_iff.1 h
theorem nY {S:TS} {p z:Int} {t:BT} {n:Nat} (h:cO S p z t) (hl:∀y,y∈t.nodes->y<n):z=-1\/(0<=z/\z<n):=by
 rw [h.root]
 by_cases e:t=.nil
 ·left;rw [e];rfl
 ·right;have h1:=bM e;have:=hl _ h1.1;omega
section
variable {w:World} {B:PB} {F:List Nat} {gt ct:Nat} {A:NS} {st:Nat} {S:TS} {ak:List Int}
theorem wK (h:iq w B F gt ct A st S ak) (a b:BT) (ha:cO S (-1) a.root a) (hb:cO S (-1) b.root b) (la:Lone a) (lb:Lone b) (hn:(a.nodes++b.nodes).Nodup) (hin:∀z,z∈a.nodes++b.nodes->bX A (z:Int)=true) :
  Calls Tryz.prog 215 #[.pointer (some ⟨B.n0,0,none⟩),.int .i64 a.root,.int .i64 b.root] w fun e w'=>e=.returned (.int .i64 (dJ A a b).root)/\aa [B.ba,B.c] w w'/\∃st' S',iq w' B F gt ct A st' S' ak/\cO S' (-1) (dJ A a b).root (dJ A a b)/\∀z,z∉a.nodes++b.nodes->S.at S' z:=by
 cases a with
 | nil=>
  rw [uH];refine (wO b.root w B.n0).mono ?_;rintro e w' ⟨rfl,rfl⟩;exact ⟨rfl,aa.refl _ _,st,S,h,hb,fun z _=>⟨rfl,rfl,rfl⟩⟩
 | node x l r=>
  cases b with
  | nil=>
   rw [qR];refine (Ee (BT.node x l r).root w B.n0).mono ?_;rintro e w' ⟨rfl,rfl⟩;exact ⟨rfl,aa.refl _ _,st,S,h,ha,fun z _=>⟨rfl,rfl,rfl⟩⟩
  | node y m q=>
   have e1:r=.nil:=la;have e2:q=.nil:=lb;subst e1 e2;have hlt:∀z,z∈(BT.node x l .nil).nodes++(BT.node y m .nil).nodes->z<A.cs.length:=fun z hz=>((ai _ _).1 (hin z hz)).1;have hxy:x≠y:=fun e=>by
    rw [θ] at hn;exact hn.2.2 x (by simp [BT.nodes]) y (by simp [BT.nodes]) e
   have hrx:=nY (n:=A.cs.length) ha.2.2.1 (fun z hz=>hlt z (by simp [BT.nodes,hz]));have UR:=nY (n:=A.cs.length) hb.2.2.1 (fun z hz=>hlt z (by simp [BT.nodes,hz]));have hne:∀ {u:Nat} {t t':BT},S.l u=t.root->(∀z,z∈t.nodes->z∉t'.nodes)->∀v,v∈t'.nodes->S.l u≠(v:Int):=fun {u t t'} h1 h2 v hv e=>by
    rw [h1] at e;have h6:t≠.nil:=fun e'=>by rw [e'] at e;simp [BT.root] at e
    have h7:=(bM h6).1;rw [e,π] at h7;exact h2 v h7 hv
   have hnn:=hn;rw [θ] at hnn;have hnx:S.l x≠(y:Int):=hne (t':=.node y m .nil) ha.2.2.1.root (fun z hz hm=>hnn.2.2 z (by simp [BT.nodes,hz]) z hm rfl) y (by simp [BT.nodes]);have hny:S.l y≠(x:Int):=hne (t':=.node x l .nil) hb.2.2.1.root (fun z hz hm=>hnn.2.2 z hm z (by simp [BT.nodes,hz]) rfl) x (by simp [BT.nodes]);refine (FW h x y (hin x (by simp [BT.nodes])) (hin y (by simp [BT.nodes])) hxy hrx UR hnx hny).mono ?_;rintro e w' ⟨rfl,⟨st',hM⟩,hu⟩;rw [qY]
   by_cases hc:cZ A y x
   ·simp only [if_pos hc] at hM ⊢;obtain ⟨h1,h2⟩:=Ca hb ha (xx hn);exact ⟨rfl,hu,st',_,hM,h1,fun z hz=>h2 z (fun hm=>hz (by rw [τ] at hm ⊢;exact hm.symm))⟩
   ·simp only [if_neg hc] at hM ⊢;obtain ⟨h1,h2⟩:=Ca ha hb hn;exact ⟨rfl,hu,st',_,hM,h1,h2⟩
end
theorem VG:(Tryz.prog.info? 217).map (fun i=>(i.zero,i.size,i.bytes))=some (some (.agg #[.int .i64 0,.int .i64 0,.int .i64 0]),3,24):=by kernel_rfl
theorem OM (n:Nat):wR Ku (NS.new n) TS.none [-1] (fun _=>.nil):=Ec n
theorem Nr (n:Nat) (w:World) (h:n<=65536) :
  Calls Tryz.prog 96 #[.int .i64 (n:Int)] w fun e w'=>∃B F gt,e=.returned (.tuple #[.pointer (some ⟨B.n0,0,none⟩),.int .i64 0])/\nE w' B F gt 1 (NS.new n) 0 (fun _=>.nil)/\aa [] w w'/\∀x,x∈B.blk F gt->w.heap.size<=x:=by
 have hcs:(NS.new n).cs.length=n:=by simp [NS.new]
 have HCS:=χ hcs;clear hcs
 go_enter Tryz.func96,Tryz.ntmps96
 go_wp2_with (first
  | ((go_at_call 107;(with_reducible refine (oh n _ h).mono ?_));rintro e w1 ⟨c,F,rfl,hC,hu1,hF⟩)
  | (at_make;refine wpList_make_row rfl _ 213 rfl 217 (.agg #[.int .i64 0,.int .i64 0,.int .i64 0]) 3 24 Tryz.underlying213 VG n rfl ω μ ?_;intro w3 hr3 hu3))
 have l1:=hu1.size;have l3:=hu3.size;have l4:=hr3.lt;have l7:=hC.lt;have lc:=l7 c hC.mem;have e3:((w3.alloc (.cells #[.int .i64 (-1)] 3)).heap.size)=w3.heap.size+1:=by rw [World.size_alloc]
 have hv:aa [] w3 (w3.alloc (.cells #[.int .i64 (-1)] 3)):=(aa.refl _ _).alloc _;obtain ⟨W4,VJ⟩:∃W4,W4=(w3.alloc (.cells #[.int .i64 (-1)] 3)).alloc (.cells #[.pointer (some ⟨c,0,none⟩),.slice (some ⟨w1.heap.size,0,none⟩) n n,.slice (some ⟨w3.heap.size,0,none⟩) 1 1] 215):=⟨_,rfl⟩;have hw:aa [] w3 W4:=by rw [VJ];exact hv.alloc _
 have hh:=eH (w3.alloc (.cells #[.int .i64 (-1)] 3)) [.pointer (some ⟨c,0,none⟩),.slice (some ⟨w1.heap.size,0,none⟩) n n,.slice (some ⟨w3.heap.size,0,none⟩) 1 1] 215;rw [e3] at hh;rw [←VJ] at hh;have hi:IZ W4 w3.heap.size 1 [-1]:=by rw [VJ];exact (IZ.lit w3 [-1] σ).upd ((aa.refl [] _).alloc _) σ
 have Tw:aG W4 c F (NS.new n) 0:=(hC.aA hu3).aA hw;have hr4:=hr3.upd hw σ;have u4:aa [] w W4:=(hu1.trans hu3).trans hw;have hF':∀x,x∈F->x<w1.heap.size:=l7;have hnF:∀x,w1.heap.size<=x->x∉F:=fun x hx hm=>by have:=hF' x hm;omega
 have l5:=hw.size;rw [←VJ];clear VJ e3 hv hu3 hr3 hw hC;have H4:=χ (ψ Tw (ψ hi (ψ u4 (ψ hF (ψ hF' hnF)))));clear Tw hi u4 hF hF' hnF hu1 l7;go_wp2
 go_loopw [7,27] (fun v7 i wr=>∃ (k:Nat) (f:Nat->Value),k<=n/\i=.int .i64 k/\aO wr (w3.heap.size+1) 215 3 (fun j=>[Value.pointer (some ⟨c,0,none⟩),.slice (some ⟨w1.heap.size,0,none⟩) n n,.slice (some ⟨w3.heap.size,0,none⟩) 1 1].getD j undef)/\aO wr w1.heap.size 217 (n*3) f/\(∀j,j<k*3->f j=.int .i64 (-1))/\aa [w1.heap.size] W4 wr) (fun _ i _=>n-(intOf i).toNat)
 case atStart=>exact ⟨0,_,ω,rfl,hh.ext (fun j hj=>by (have h3:j<3:=by simpa using hj);rcases (ω:j=0\/j=1\/j=2) with rfl|rfl|rfl<;>rfl),hr4,ω,aa.refl _ _⟩
 case round=>
  obtain ⟨k,f,hk,rfl,hH,hR,hf,hu⟩:=hrel;rename World=>wr
  by_cases hkn:k<n
  ·have c0:=hH.cellAt 1 ω rfl;have d0:=hR.cell (k*3) ω;have d1:=hR.cell (k*3+1) ω;have d2:=hR.cell (k*3+2) ω;have e0:=hR.free (k*3);have e1:=hR.free (k*3+1);have e2:=hR.free (k*3+2);have HF:=χ (ψ hf (ψ hH (ψ hR hu)));have Zn:decide ((k:Int)<(n:Int))=true:=ζ;clear hf hH hR hu hh hr4;go_wp2
   go_roundw
   case rel=>
    obtain ⟨hf,hH,hR,hu⟩:=HF.out;refine ⟨k+1,_,ω,by go_num,((hH.far _ _ ζ).far _ _ ζ).far _ _ ζ,((hR.set _ _).set _ _).set _ _,fun j hj=>?_,((hu.setCell (Or.inl σ) _).setCell (Or.inl σ) _).setCell (Or.inl σ) _⟩
    show (if j=k*3+2 then _ else if j=k*3+1 then _ else if j=k*3 then _ else f j)=_
    split
    ·rfl
    ·split
     ·rfl
     ·split
      ·rfl
      ·exact hf j ω
   case measure=>simp [intOf];omega
  ·obtain rfl:k=n:=ω;have Zn:decide ((k:Int)<(k:Int))=false:=σ;have HF:=χ (ψ hf (ψ hH (ψ hR hu)));clear hf hH hR hu hh hr4;go_wp2;go_ret2;obtain ⟨hf,hH,hR,hu⟩:=HF.out;obtain ⟨Tw,hi,u4,hF,hF',hnF⟩:=H4.out;have hcs:=HCS.out
   refine ⟨⟨w3.heap.size+1,c,w1.heap.size⟩,F,w3.heap.size,rfl,⟨TS.none,[-1],⟨by rw [hcs];exact hH,Tw.upd hu (fun x hx=>by simp at hx;rw [hx];exact hnF _ (Nat.le_refl _)),?_,hi.upd hu ζ,rfl,⟨hnF _ (by simp only;omega),hnF _ (by simp only;omega),hnF _ ω⟩,⟨by simp only;omega,by simp only;omega,by simp only;omega⟩⟩,OM _,fun _=>trivial⟩,u4.joined hu (fun x hx=>Or.inr (by simp at hx;omega)),fun x hx=>?_⟩
   ·rw [hcs];exact hR.ext (fun j hj=>by rw [hf j hj];unfold dQ TS.none;simp)
   ·simp only [PB.blk,ρ] at hx;rcases hx with rfl|rfl|rfl|hx
    ·omega
    ·omega
    ·omega
    ·exact hF x hx
theorem wR.ZE {A:NS} {S:TS} {ak:List Int} {tr:Nat->BT} (h:wR Ku A S ak tr) (hL:∀h,Lone (tr h)) {g:Nat} (hg:0<dZ A g):∃m:Nat,(tr g).root=m/\dW A g=some m:=by
 obtain ⟨x,hx,hi,h0⟩:=fM.1 hg;have hxm:x∈(tr g).nodes:=(h.mem g x).2 ⟨ω,hx,hi⟩;cases ht:tr g with
 | nil=>rw [ht] at hxm;cases hxm
 | node m l r=>
  have hm:=(h.mem g m).1 (by rw [ht];simp [BT.nodes]);have hH:fA A (tr g):=h.heap g;have hl:=hL g;rw [ht] at hH hl;have hr:r=.nil:=hl;subst hr;refine ⟨m,rfl,(iZ h0).2 ⟨hm.2.1,hm.2.2,fun y hy hyi=>?_⟩⟩;have hym:=(h.mem g y).2 ⟨ω,hy,hyi⟩;rw [ht] at hym;exact aaH hH y hym
section
variable {w:World} {B:PB} {F:List Nat} {gt ct:Nat} {A:NS} {st:Nat} {tr:Nat->BT}
theorem Am (h:nE w B F gt ct A st tr) (g:Nat) (hn:0<dZ A g) :
  Calls Tryz.prog 213 #[.pointer (some ⟨B.n0,0,none⟩),.int .i64 (g:Int)] w fun e w'=>∃m:Nat,dW A g=some m/\(tr g).root=m/\e=.returned (.tuple #[.int .i64 (m:Int),.bool true])/\w'=w:=by
 obtain ⟨S,ak,hM,hI,hL⟩:=h;obtain ⟨m,hm,hf⟩:=hI.ZE hL hn;obtain ⟨x,hx,hi,h0⟩:=fM.1 hn;have ok:=hM.cells.ok;have hgl:g<A.hs.length:=by have:=(ok.nat x hx).2;omega
 have Xb:=ok.h1;have k:=pV hM.cells (g:Int) ω;have hh0:=hM.h0;have h3:=hM.h2;have d:=hM.jQ.cell g (by rw [hM.jE];exact hgl);rw [hI.top g hgl,hm] at d;have htl:g<ak.length:=by rw [hM.jE];exact hgl
 generalize hl:dZ A (g:Int)=n at *;have hb:((n:Int) == 0)=false:=ζ;have HF:=χ (ψ hf hm);clear hM hI hm hf hx hi h0 ok hl
 go_enter Tryz.func213,Tryz.ntmps213
 go_wp2_with (first|(go_at_call 142;(with_reducible refine (k).mono ?_);rintro e w9 ⟨rfl,aM⟩;rw [aM];clear aM w9))
 go_ret2;exact ⟨m,HF.out.1,HF.out.2,rfl,rfl⟩
theorem Jz (h:nE w B F gt ct A st tr) (x:Int) (hx:-9223372036854775808<=x/\x<=9223372036854775807) (hn:dZ A x=0) :
  Calls Tryz.prog 213 #[.pointer (some ⟨B.n0,0,none⟩),.int .i64 x] w fun e w'=>e=.returned (.tuple #[.int .i64 0,.bool false])/\w'=w:=by
 obtain ⟨S,ak,hM, -⟩:=h;have k:=pV hM.cells x hx;rw [hn] at k;have h0:=hM.h0;clear hM hn
 go_enter Tryz.func213,Tryz.ntmps213
 go_wp2_with (first|(go_at_call 142;(with_reducible refine (k).mono ?_);rintro e w9 ⟨rfl,aM⟩;rw [aM];clear aM w9))
 go_ret2;exact ⟨rfl,rfl⟩
theorem Ow (h:nE w B F gt ct A st tr) (hl:65536<A.hs.length) :
  Calls Tryz.prog 211 #[.pointer (some ⟨B.n0,0,none⟩)] w fun e w'=>e=.returned (.int .i64 0)/\Goes (B.blk F gt) w w' (fun F'=>∃F1,F'=B.blk F1 gt/\nE w' B F1 gt ct A st tr):=by
 obtain ⟨S,ak,hM,hI⟩:=h;have k:=iX hM.cells;have e1:dF A=0:=by unfold dF;rw [if_pos hl]
 have e2:aQ A=A:=by unfold aQ;rw [if_pos hl]
 rw [e1,e2] at k;have h0:=hM.h0;have HM:=χ hM;have HI:=χ hI;clear hM hI e1 e2
 go_enter Tryz.func211,Tryz.ntmps211
 go_wp2_with (first|((go_at_call 156;(with_reducible refine (k).mono ?_));rintro e w1 ⟨rfl,F1,hC,hu,hF⟩))
 go_ret
 exact ⟨rfl,B.blk F1 gt,⟨F1,rfl,S,ak,HM.out.dB hu hC hF rfl rfl,HI.out⟩,hu.mono (fun y hy=>by simp [PB.blk,hy]),fun x hx=>by
  simp only [PB.blk,ρ] at hx ⊢;rcases hx with rfl|rfl|rfl|hx
  ·simp
  ·simp
  ·simp
  ·rcases hF x hx with h|h
   ·simp [h]
   ·exact Or.inr h⟩
theorem IQ (h:nE w B F gt ct A st tr) (hl:¬65536<A.hs.length) :
  Calls Tryz.prog 211 #[.pointer (some ⟨B.n0,0,none⟩)] w fun e w'=>e=.returned (.int .i64 (A.hs.length:Int))/\Goes (B.blk F gt) w w' (fun F'=>∃F1 pJ Gd,F'=B.blk F1 pJ/\nE w' B F1 pJ Gd (aQ A) st tr):=by
 obtain ⟨S,ak,hM,hI,hL⟩:=h;have k:=iX hM.cells;have e1:dF A=A.hs.length:=by unfold dF;rw [if_neg hl]
 rw [e1] at k;have hcs:(aQ A).cs.length=A.cs.length:=by unfold aQ;rw [if_neg hl]
 have lX:(aQ A).hs.length=A.hs.length+1:=by unfold aQ;rw [if_neg hl];simp
 have hI2:=hI.make hM.cells.ok hM.jE hl;have h0:=hM.h0;have hh0:=hM.cells.ok.h0;have HTN:=χ hM.jE;have htb:ak.length<=65536:=by rw [hM.jE];omega
 have HM:=χ hM;have HI:=χ (ψ hI2 hL);clear hM hI hL e1 hI2
 go_enter Tryz.func211,Tryz.ntmps211
 go_wp2_with (first
  | ((go_at_call 156;(with_reducible refine (k).mono ?_));rintro e w1 ⟨rfl,F1,hC,hu,hF⟩;(have d3:=hu.kept HM.out.h2 HM.out.bI.1);(have f3:=hu.aR HM.out.h2 HM.out.bI.1 (HM.out.head.free 2));(have ho1:=(HM.out.jQ.upd hu HM.out.bI.2.2).own);(have g0:B.n0≠gt:=HM.out.sep.2.1);(have gl:=(HM.out.jQ.upd hu HM.out.bI.2.2).lt))
  | ((at_builtin;refine aW rfl _ _ 26 rfl 0 3 (.int .i64 0) 1 8 Tryz.underlying26 fK rfl δ _ _ _ rfl (ho1) [.int .i64 (-1)] rfl (by simp [Value.oneCell']) (by first|rfl|(rw [World.size_alloc];rfl)) μ ω (ω) ?_;intro v2 w2 ho2 hu2 mW);(have hu2:aa [gt] w1 w2:=hu2);obtain ⟨pJ,Gd,ev,hI2, -⟩:=IZ.iY (l:=ak++[-1]) (by rw [bN,υ];exact ho2) σ;rw [υ,List.length_singleton] at ev;subst ev;(have d4:=hu2.kept d3 ζ);(have f4:=hu2.aR d3 ζ f3)))
 go_ret;have hM:=HM.out;have hlt:=hM.lt;have f:=hM.bI;have q:=hM.sep;have hw3:aa [B.n0] w2 (w2.setCell ⟨B.n0,2,none⟩ (.slice (some ⟨pJ,0,none⟩) (ak.length+1) Gd)):=β;have hg1:pJ=gt\/w1.heap.size<pJ:=by
  rcases mW with h|h
  ·exact Or.inl (Option.some.inj h)
  ·exact Or.inr (h pJ rfl)
 have hws:=hu.size;have jD:=hC.lt;have l0:=hlt B.n0 (by simp [PB.blk]);have l1:=hlt B.ba (by simp [PB.blk]);have l4:=hlt gt (by simp [PB.blk]);have hnF:∀y,y<w.heap.size->y∉F->y∉F1:=fun y hy hn hm=>by rcases hF y hm with h'|h';exact hn h';omega
 have EY:pJ∉F1:=by
  rcases hg1 with e|e
  ·rw [e];exact hnF gt l4 f.2.2
  ·exact fun hm=>by have:=jD pJ hm;omega
 have hb:w.heap.size<=pJ\/pJ=gt:=ω;have hhd:=((hM.head.upd hu f.1).upd hu2 ζ).set 2 (.slice (some ⟨pJ,0,none⟩) (ak.length+1) Gd);refine ⟨rfl,B.blk F1 pJ,⟨F1,pJ,Gd,rfl,S,ak++[-1],⟨?_,?_,?_,hI2.upd hw3 ζ,?_,⟨hnF _ l0 f.1,hnF _ l1 f.2.1,EY⟩,⟨q.1,ω,ω⟩⟩,HI.out⟩,?_,fun y hy=>?_⟩
 ·rw [hcs,υ,List.length_singleton];refine hhd.ext (fun j hj=>?_);rcases (ω:j=0\/j=1\/j=2) with rfl|rfl|rfl<;>rfl
 ·exact (hC.upd hu2 (fun y hy=>by simp at hy;rw [hy];exact hnF gt l4 f.2.2)).upd hw3 (fun y hy=>by simp at hy;rw [hy];exact hnF _ l0 f.1)
 ·rw [hcs];exact ((hM.ties.upd hu f.2.1).upd hu2 ζ).upd hw3 ζ
 ·rw [υ,List.length_singleton,lX,HTN.out]
 ·have u1:aa (B.blk F gt) w w1:=hu.mono (fun y hy=>by simp [PB.blk,hy]);exact (u1.trans (hu2.mono (fun y hy=>by simp at hy;simp [PB.blk,hy]))).trans (hw3.mono (fun y hy=>by simp at hy;simp [PB.blk,hy]))
 ·simp only [PB.blk,ρ] at hy ⊢;rcases hy with rfl|rfl|rfl|hy
  ·simp
  ·simp
  ·rcases hb with h|h
   ·exact Or.inr h
   ·exact Or.inl (by simp [h])
  ·rcases hF y hy with h|h
   ·simp [h]
   ·exact Or.inr h
end
section
variable {w:World} {B:PB} {F:List Nat} {gt ct:Nat} {A:NS} {st:Nat} {S:TS} {ak:List Int}
theorem O4 (h:iq w B F gt ct A st S ak) (x:Nat) (hin:bX A (x:Int)=true) (l:BT) (hl:cO S (x:Int) (S.l x) l) (hlt:∀z,z∈l.nodes->z<A.cs.length) (hsz:l.size<=65536) :
  Calls Tryz.prog 217 #[.pointer (some ⟨B.n0,0,none⟩),.int .i64 (x:Int)] w fun e w'=>∃ao co,e=.returned (.slice ao (bD l).length co)/\w'.ownsRow w.heap.size 3 1 (.slice ao (bD l).length co) (bD l).length (aU (dH (bD l)))/\iq w' B F gt ct A st S ak/\aa F w w':=by
 have kh:=eB h.cells x hin;have hx:=(ai _ _).1 hin;have hA:=h.cells.ok.c1;have c0:=h.h0;have hM1:∀w1,aG w1 B.c F A st->aa F w w1->iq w1 B F gt ct A st S ak:=fun w1 hC hu=>h.dB hu hC (fun z hz=>Or.inl hz) rfl rfl;have CR:(x:Int)<(A.cs.length:Int):=ω;have HL:=χ (ψ hl hlt);clear h hl hlt
 go_enter Tryz.func217,Tryz.ntmps217
 go_upto_region 5 with (first
  | ((go_at_call 140;(with_reducible refine (kh).mono ?_));rintro e w1 ⟨rfl,hC,hu1⟩)
  | fail)
 have hM:=hM1 w1 hC hu1;have c1:=hM.h1;have dl:=hM.l x hx.1;have hs1:=hu1.size;have HM:=χ (ψ hM hu1);have hlr:=HL.out.1.root;rw [hlr] at dl;clear hM hM1 hC hu1 kh;go_wp2
 go_loopg [7,8] l.size (fun fu ov zv wr=>∃ (t:BT) (p:Int) (o:List Int) (k:Nat) (ao:Option Addr) (co:Nat),zv=.int .i64 t.root/\ov=.slice ao k co/\cO S p t.root t/\(∀z,z∈t.nodes->z<A.cs.length)/\wr.ownsRow w1.heap.size 3 1 (.slice ao k co) k (aU o)/\o++dH (bD t)=dH (bD l)/\t.size<=fu/\k+t.size<=65536/\aa [] w1 wr)
 case atStart=>exact ⟨l,x,[],0,none,0,rfl,rfl,by rw [←hlr];exact HL.out.1,HL.out.2,⟨rfl,Or.inl ⟨rfl,rfl⟩⟩,rfl,Nat.le_refl _,ω,aa.refl _ _⟩
 case round=>
  rename Nat=>fu;obtain ⟨t,p,o,k,ao,co,rfl,rfl,hT,hlt,ho,EO,hfu,hk,hu⟩:=hrel;rename World=>wr;cases t with
  | nil=>
   have hr:(BT.nil.root != (-1:Int))=false:=rfl;have hk2:k=(bD l).length:=by
    have h1:=ho.1;rw [fG] at h1;have h2:=congrArg List.length EO;simp [dH,bD] at h2;omega
   have hr2:(BT.nil).root=-1:=rfl;rw [hr2] at *;have HO:=χ (ψ ho (ψ EO (ψ hu hk2)));clear ho EO hT hlt;go_wp2;go_ret;obtain ⟨ho,EO,hu,hk2⟩:=HO.out;subst hk2;have e:o=dH (bD l):=by simpa [dH,bD] using EO
   rw [e] at ho;exact ⟨ao,co,rfl,l8 ho hs1,HM.out.1.aA hu,HM.out.2.then hu⟩
  | node y a b=>
   have hyl:y<A.cs.length:=hlt y (by simp [BT.nodes]);have hy2:(BT.node y a b).root=(y:Int):=rfl;rw [hy2] at *;have hyb:((y:Int) != -1)=true:=σ;have ZM:(y:Int)<(A.cs.length:Int):=ω;have hMw:=HM.out.1.aA hu;have e1:=hMw.h1;have e2:=hMw.r y hyl;rw [hT.2.2.2.root] at e2;have hos:=hu.size;simp only [BT.size] at hfu hk;obtain ⟨fv,rfl⟩:∃fv,fu=fv+1:=⟨fu-1,ω⟩;have HO:=χ (ψ hT (ψ hlt (ψ EO hu)));clear hT hlt EO hMw;have hb2:w1.heap.size<=wr.heap.size:=hos;have hnba:B.n0<w1.heap.size/\B.ba<w1.heap.size:=⟨HM.out.1.lt _ (by simp [PB.blk]),HM.out.1.lt _ (by simp [PB.blk])⟩
   go_wp2_with (first|((at_builtin;refine aW rfl _ _ 26 rfl w1.heap.size 3 (.int .i64 0) 1 8 Tryz.underlying26 fK rfl δ _ _ _ rfl (ho) [.int .i64 (y:Int)] rfl (by simp [Value.oneCell']) (by first|rfl|(rw [World.size_alloc];rfl)) μ ω (ω) ?_;intro v2 w2 ho2 hu2 mW);obtain ⟨a2,c2,rfl,hc2⟩:=bu ho2;(have hv2:aa [] w1 w2:=HO.out.2.2.2.own ho (Nat.le_refl _) hu2);(have hn2:B.n0∉(Value.slice ao k co).ownBlock.toList:=fun hm=>by (have h9:=(ho.lt B.n0 (Option.mem_toList.1 hm)).1);omega);(have Jm:B.ba∉(Value.slice ao k co).ownBlock.toList:=fun hm=>by (have h9:=(ho.lt B.ba (Option.mem_toList.1 hm)).1);omega);(have e3:=hu2.kept e1 hn2);(have e4:=hu2.kept e2 Jm))|fail)
   go_roundg fv
   case rel=>
    obtain ⟨hT,hlt,EO,hu⟩:=HO.out;refine ⟨b,y,o++[(y:Int)],k+1,a2,c2,rfl,rfl,?_,fun z hz=>hlt z (by simp [BT.nodes,hz]),by rw [bN];exact ho2,?_,ω,ω,hv2⟩
    ·have h4:=hT.2.2.2;rw [h4.root] at h4;exact h4
    ·rw [←EO];simp [dH,bD,BT.root]
   all_goals omega
end
end Go.Proofs.YtklibcncmbofpaaGreat
