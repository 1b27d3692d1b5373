/-
  Lemmas for ProofHolds: PaP, Pa, Pa2, Pa3, Pa8, Pa7, Pa5, PaR. Conditions: those of each lemma.
-/
import Derived.IntWalk
import Derived.Deep.LoopGhost
import Derived.Test.YtklibcncmbofpaaGreatR04
import Derived.Test.YtklibcncmbofpaaGreatR17
set_option linter.all false
set_option maxHeartbeats 8000000
set_option maxRecDepth 10000
namespace Go.Proofs.YtklibcncmbofpaaGreat
def eU(A:NS):BT->Prop
 | .nil=>True
 | .node x l r=>(∀y,y∈l.nodes->bZ A x y)/\eU A l/\eU A r
theorem eU.frame{A A':NS}:∀ {t:BT},eU A t->(∀x,x∈t.nodes->A'.c x=A.c x)->eU A' t
 | .nil,_,_=>trivial
 | .node x l r,h,hs=>by
  have hx:=hs x (by simp[BT.nodes]);exact⟨fun y hy=>(fJ hx (hs y (by simp[BT.nodes,hy]))).2 (h.1 y hy),h.2.1.frame (fun y hy=>hs y (by simp[BT.nodes,hy])),h.2.2.frame (fun y hy=>hs y (by simp[BT.nodes,hy]))⟩
abbrev La:TJ:=⟨eU,eU.frame,fun _=>trivial⟩
def Lone:BT->Prop
 | .nil=>True
 | .node _ _ r=>r=.nil
theorem xV{A:NS}:∀ {P:List Fr} {t:BT},eU A (ai P t)->eU A t
 | [],_,h=>h
 | f::P,t,h=>by
  have h1:eU A (bB f t):=xV (P:=P) h;unfold bB at h1
  split at h1
  ·exact h1.2.2
  ·exact h1.2.1
theorem Xu{A:NS}:∀ {P:List Fr} {t t':BT},eU A (ai P t)->eU A t'->(∀y,y∈t'.nodes->y∈t.nodes)->eU A (ai P t')
 | [],_,_,_,h,_=>h
 | f::P,t,t',h,h',hs=>by
  have h1:eU A (bB f t):=xV (P:=P) h;refine Xu (P:=P) h ?_ (fun y hy=>?_)
  ·unfold bB at h1⊢
   split at h1
   ·rename_i e;rw[if_pos e];exact⟨h1.1,h1.2.1,h'⟩
   ·rename_i e;rw[if_neg e];exact⟨fun y hy=>h1.1 y (hs y hy),h',h1.2.2⟩
  ·have hy':=(jM f t').mem_iff.1 hy;refine(jM f t).mem_iff.2 ?_;simp only[ρ,τ]at hy' ⊢;rcases hy' with h|h|h
   ·exact Or.inl h
   ·exact Or.inr (Or.inl (hs y h))
   ·exact Or.inr (Or.inr h)
theorem qw:∀ {P:List Fr} {f:Fr} {t t':BT},t≠.nil->Lone (ai (f::P) t)->Lone (ai (f::P) t')
 | [],f,t,t',ht,h=>by
  have h1:Lone (bB f t):=h
  show Lone (bB f t')
  unfold bB at h1⊢
  split at h1
  ·exact absurd h1 ht
  ·rename_i e;rw[if_neg e];exact h1
 | g::P,f,t,t',ht,h=>qw (P:=P) (f:=g) (t:=bB f t) (t':=bB f t') (SN f t) h
/-! ### two trees become one -/
noncomputable def dD(A:NS)(a b:BT):BT:=
 match a,b with
 | .nil,t=>t
 | t,.nil=>t
 | .node x l _,.node y m _=>if bZ A y x then .node y (.node x l m) .nil else .node x (.node y m l) .nil
theorem tT(A:NS)(t:BT):dD A .nil t=t:=by cases t<;>rfl
theorem qB(A:NS)(t:BT):dD A t .nil=t:=by cases t<;>rfl
theorem qZ(A:NS)(x y:Nat)(l r m q:BT):dD A (.node x l r) (.node y m q)=if bZ A y x then .node y (.node x l m) .nil else .node x (.node y m l) .nil:=rfl
theorem lX(A:NS){a b:BT}(ha:Lone a)(hb:Lone b):(dD A a b).nodes.Perm (a.nodes++b.nodes):=by
 cases a with
 | nil=>rw[tT];exact List.Perm.refl _
 | node x l r=>
  cases b with
  | nil=>rw[qB];simp[BT.nodes]
  | node y m q=>
   have e1:r=.nil:=ha;have e2:q=.nil:=hb;subst e1 e2;rw[qZ]
   split
   ·simp only[BT.nodes,List.append_nil];exact(List.perm_middle (a:=y) (l₁:=x::l.nodes) (l₂:=m.nodes)).symm
   ·simp only[BT.nodes,List.append_nil];refine List.Perm.cons x ?_;exact((List.perm_append_comm (l₁:=l.nodes) (l₂:=y::m.nodes))).symm
theorem nL(A:NS){a b:BT}(ha:Lone a)(hb:Lone b):Lone (dD A a b):=by
 cases a with
 | nil=>rw[tT];exact hb
 | node x l r=>
  cases b with
  | nil=>rw[qB];exact ha
  | node y m q=>rw[qZ];split<;>rfl
theorem abh{A:NS}{x:Nat}{l:BT}(h:eU A (.node x l .nil)):∀y,y∈(BT.node x l .nil).nodes->y=x\/bZ A x y:=fun y hy=>by
 simp only[BT.nodes,List.append_nil,ρ]at hy;rcases hy with e|e
 ·exact Or.inl e
 ·exact Or.inr (h.1 y e)
theorem pR{A:NS}{a b:BT}(ha:Lone a)(hb:Lone b)(h1:eU A a)(h2:eU A b)(hn:(a.nodes++b.nodes).Nodup):eU A (dD A a b):=by
 cases a with
 | nil=>rw[tT];exact h2
 | node x l r=>
  cases b with
  | nil=>rw[qB];exact h1
  | node y m q=>
   have e1:r=.nil:=ha;have e2:q=.nil:=hb;subst e1 e2;have hxy:x≠y:=fun e=>by
    simp only[BT.nodes,List.append_nil,θ]at hn;exact hn.2.2 x σ y σ e
   rw[qZ]
   split
   ·rename_i h
    refine⟨fun z hz=>?_,⟨h1.1,h1.2.1,h2.2.1⟩,trivial⟩;simp only[BT.nodes,ρ,τ]at hz;rcases hz with e|e|e
    ·rw[e];exact h
    ·exact bV h (h1.1 z e)
    ·exact h2.1 z e
   ·rename_i h
    have h':bZ A x y:=(je hxy).resolve_right h;refine⟨fun z hz=>?_,⟨h2.1,h2.2.1,h1.2.1⟩,trivial⟩;simp only[BT.nodes,ρ,τ]at hz;rcases hz with e|e|e
    ·rw[e];exact h'
    ·exact bV h' (h2.1 z e)
    ·exact h1.1 z e
def iy(S:TS)(x y:Nat):TS:=⟨fun z=>if z=x then y else S.l z,fun z=>if z=y then S.l x else S.r z,fun z=>if z=y then x else if (z:Int)=S.l x then y else S.u z⟩
theorem G8{S:TS}{x y z:Nat}(h1:z≠x)(h2:z≠y)(h3:(z:Int)≠S.l x):S.at (iy S x y) z:=by
 unfold iy TS.at;simp[h1,h2,h3]
theorem Cy{S:TS}{x y:Nat}{l m:BT}(ha:bY S (-1) x (.node x l .nil))(hb:bY S (-1) y (.node y m .nil))(hn:((BT.node x l .nil).nodes++(BT.node y m .nil).nodes).Nodup) :
  bY (iy S x y) (-1) x (.node x (.node y m l) .nil)/\∀z,z∉(BT.node x l .nil).nodes++(BT.node y m .nil).nodes->S.at (iy S x y) z:=by
 simp only[BT.nodes,List.append_nil]at hn⊢;rw[θ,List.nodup_cons,List.nodup_cons]at hn;obtain⟨⟨n1,n2⟩,⟨n3,n4⟩,n5⟩:=hn;obtain⟨_,a2,a3,a4⟩:=ha;obtain⟨_,b2,b3,b4⟩:=hb;have hxy:x≠y:=fun e=>n5 x σ y σ e;have hlx:S.l x=l.root:=a3.root;have hlr:∀z:Nat,(z:Int)=S.l x->z∈l.nodes:=fun z hz=>by
  rw[hlx]at hz
  by_cases e:l=.nil
  ·rw[e]at hz;simp[BT.root]at hz
  ·have h1:=bL e;have:l.root.toNat=z:=ω;rw[←this];exact h1.1
 have e0:(iy S x y).l x=y:=by unfold iy;simp
 have e1:(iy S x y).r x=S.r x:=by unfold iy;simp[hxy]
 have e2:(iy S x y).u x=S.u x:=by
  have h3:(x:Int)≠S.l x:=fun e=>n1 (hlr x e);unfold iy;simp[hxy,h3]
 have e3:(iy S x y).l y=S.l y:=by have hyx:¬y=x:=fun e=>hxy e.symm;unfold iy;simp[hyx]
 have e4:(iy S x y).r y=S.l x:=by unfold iy;simp
 have e5:(iy S x y).u y=x:=by unfold iy;simp
 refine⟨⟨rfl,by rw[e2];exact a2,?_,by rw[e1];exact a4⟩,fun z hz=>?_⟩
 ·rw[e0];refine⟨rfl,e5,?_,?_⟩
  ·rw[e3];refine b3.frame (fun z hz=>G8 (fun e=>n5 x σ z (by simp[hz]) e.symm) (fun e=>n3 (by rw[←e];exact hz)) (fun e=>n5 z (by simp[hlr z e]) z (by simp[hz]) rfl))
  ·rw[e4];refine a3.Ou n2 (fun z hz=>?_) (fun hl=>?_)
   ·have z1:z≠x:=fun e=>n1 (by rw[←e];exact hz);have z2:z≠y:=fun e=>n5 z (by simp[hz]) y σ e;refine⟨by unfold iy;simp[z1],by unfold iy;simp[z2],fun hr=>?_⟩;have z3:(z:Int)≠S.l x:=fun e=>hr (by rw[←hlx,←e];simp);unfold iy;simp[z2,z3]
   ·have h1:=bL hl;have z2:l.root.toNat≠y:=fun e=>n5 _ (List.mem_cons_of_mem _ h1.1) y σ e
    show(if l.root.toNat=y then (x:Int)else if ((l.root.toNat:Nat):Int)=S.l x then (y:Int)else S.u l.root.toNat)=y
    rw[if_neg z2,if_pos (by rw[hlx];exact h1.2.symm)]
 ·simp only[τ,ρ,not_or]at hz;exact G8 hz.1.1 hz.2.1 (fun e=>hz.1.2 (hlr z e))
/-! ### a tree comes off -/
def kK(S:TS)(p:Nat)(s:Bool)(x:Nat):TS:=
 ⟨fun z=>if s=false/\z=p then S.r x else S.l z,fun z=>if z=x then -1 else if s=true/\z=p then S.r x else S.r z,fun z=>if z=x then -1 else if (z:Int)=S.r x then p else S.u z⟩
theorem Bo{S:TS}{f:Fr}{P:List Fr}{x:Nat}{l r:BT}(h:bY S (-1) (ai (f::P) (.node x l r)).root (ai (f::P) (.node x l r)))(hn:(ai (f::P) (.node x l r)).nodes.Nodup) :
  bY (kK S f.1 f.2.1 x) (-1) x (.node x l .nil)/\bY (kK S f.1 f.2.1 x) (-1) (ai (f::P) r).root (ai (f::P) r)/\(∀y,y∉(ai (f::P) (.node x l r)).nodes->S.at (kK S f.1 f.2.1 x) y)/\
   S.kid f.2.1 f.1=x/\(f.2.1=true->S.l f.1≠x)/\S.u x=f.1:=by
 obtain⟨h1,h2⟩:=(dZ _ _).1 h;have Yr:=(aP (f::P) (.node x l r)).nodup_iff.1 hn;have hmem:∀y,y∈(ai (f::P) (.node x l r)).nodes↔y∈(BT.node x l r).nodes\/y∈dJ (f::P):=fun y=>by rw[(aP (f::P) (.node x l r)).mem_iff,τ]
 rw[θ]at Yr;obtain⟨n1,n2,n3⟩:=Yr;obtain⟨_,g2,g3,g4⟩:=h1;obtain⟨k1,k2,k3,k4⟩:=h2;simp only[BT.nodes,List.nodup_cons,τ,not_or,θ]at n1;obtain⟨⟨m1,m2⟩,m3,m4,m5⟩:=n1;have hfx:f.1≠x:=fun e=>n3 x (by simp[BT.nodes]) f.1 (by simp[dJ]) e.symm;have hrx:S.r x=r.root:=g4.root;have hrr:∀z:Nat,(z:Int)=S.r x->z∈r.nodes:=fun z hz=>by
  rw[hrx]at hz
  by_cases e:r=.nil
  ·rw[e]at hz;simp[BT.root]at hz
  ·have h1:=bL e;have:r.root.toNat=z:=ω;rw[←this];exact h1.1
 have hat:∀z,z≠f.1->z≠x->(z:Int)≠S.r x->S.at (kK S f.1 f.2.1 x) z:=fun z z1 z2 z3=>by
  unfold kK TS.at;simp[z1,z2,z3]
 have hnot:f.2.1=true->S.l f.1≠x:=fun e hl=>by
  rw[e]at k2;have h4:=k2.root;have h5:f.2.2.root=(x:Int):=by rw[←h4];simpa[TS.kid]using hl
  have h6:f.2.2≠.nil:=fun e=>by rw[e]at h5;simp[BT.root]at h5
  have h7:=(bL h6).1;rw[h5,π]at h7;exact n3 x (by simp[BT.nodes]) x (by simp[dJ,h7]) rfl
 have YI:∀z,z∈dJ (f::P)->z≠x/\(z:Int)≠S.r x:=fun z hz=>⟨fun e=>n3 x (by simp[BT.nodes]) z hz e.symm,fun e=>n3 z (by simp[BT.nodes,hrr z e]) z hz rfl⟩
 refine⟨⟨rfl,by unfold kK;simp,?_,?_⟩,(dZ _ _).2 ⟨?_,?_⟩,fun y hy=>?_,k1,hnot,g2⟩
 ·have e:(kK S f.1 f.2.1 x).l x=S.l x:=by have hyx:¬x=f.1:=fun e=>hfx e.symm;unfold kK;simp[hyx]
  rw[e];refine g3.frame (fun z hz=>hat z (fun e=>n3 z (by simp[BT.nodes,hz]) f.1 (by simp[dJ]) e) (fun e=>m1 (by rw[←e];exact hz)) (fun e=>m5 z hz z (hrr z e) rfl))
 ·show(kK S f.1 f.2.1 x).r x=-1
  unfold kK;simp
 ·rw[←hrx];refine g4.Ou m4 (fun z hz=>?_) (fun hr=>?_)
  ·have z1:z≠f.1:=fun e=>n3 z (by simp[BT.nodes,hz]) f.1 (by simp[dJ]) e;have z2:z≠x:=fun e=>m2 (by rw[←e];exact hz);refine⟨by unfold kK;simp[z1],by unfold kK;simp[z1,z2],fun hr=>?_⟩;have z3:(z:Int)≠S.r x:=fun e=>hr (by rw[←hrx,←e];simp);unfold kK;simp[z2,z3]
  ·have h1:=bL hr;have z2:r.root.toNat≠x:=fun e=>m2 (by rw[←e];exact h1.1)
   show(if r.root.toNat=x then (-1:Int)else if ((r.root.toNat:Nat):Int)=S.r x then (f.1:Int)else S.u r.root.toNat)=f.1
   rw[if_neg z2,if_pos (by rw[hrx];exact h1.2.symm)]
 ·have hf:=YI f.1 (by simp[dJ]);refine Ub.other (S:=S) (z:=x) ⟨k1,k2,k3,k4⟩ n2 ?_ ?_ ?_ (fun z z1 z2=>hat z z1 (YI z z2).1 (YI z z2).2)
  ·unfold TS.kid kK;cases f.2.1<;>simp[hfx,hrx]
  ·unfold TS.kid kK;cases f.2.1<;>simp[hfx]
  ·unfold kK;simp[hf.1,hf.2]
 ·rw[hmem,not_or]at hy;exact hat y (fun e=>hy.2 (by simp[dJ,e])) (fun e=>hy.1 (by simp[BT.nodes,e])) (fun e=>hy.1 (by simp[BT.nodes,hrr y e]))
theorem wo(P:List Fr)(x:Nat)(l r:BT):(ai P (.node x l r)).nodes.Perm ((BT.node x l .nil).nodes++(ai P r).nodes):=by
 refine(aP P _).trans ?_;refine List.Perm.trans ?_ ((aP P r).symm.append_left _);simp[BT.nodes,List.append_assoc]
theorem Aj{A:NS}{P:List Fr}{x:Nat}{l r:BT}(h:eU A (ai P (.node x l r))):eU A (.node x l .nil)/\eU A (ai P r):=by
 have h1:=xV h;exact⟨⟨h1.1,h1.2.1,trivial⟩,Xu h h1.2.2 (fun y hy=>by simp[BT.nodes,hy])⟩
/-! ### what is below a thing comes off it -/
def bD:BT->List BT
 | .nil=>[]
 | .node x l r=>.node x l .nil::bD r
def gQ(l:List BT):List Nat:=l.flatMap BT.nodes
theorem jD:∀ (t:BT),(gQ (bD t)).Perm t.nodes
 | .nil=>List.Perm.refl _
 | .node x l r=>by
  unfold gQ;simp only[bD,List.flatMap_cons,BT.nodes,List.append_nil,List.cons_append];exact List.Perm.cons x ((jD r).append_left _)
theorem Cw{A:NS}:∀ {t:BT},eU A t->∀u,u∈bD t->eU A u/\Lone u
 | .nil,_,u,hu=>by cases hu
 | .node x l r,h,u,hu=>by
  simp only[bD,ρ]at hu;rcases hu with e|e
  ·subst e;exact⟨⟨h.1,h.2.1,trivial⟩,rfl⟩
  ·exact Cw h.2.2 u e
def dw(l:List BT):List Int:=l.map BT.root
def gM(S:TS)(x:Nat)(ks:List Int):TS:=⟨fun z=>if z=x then -1 else S.l z,fun z=>if (z:Int)∈ks then -1 else S.r z,fun z=>if (z:Int)∈ks then -1 else S.u z⟩
theorem Hw{t u:BT}(hu:u∈bD t):u.root.toNat∈u.nodes/\u.root=(u.root.toNat:Int)/\u.root∈dw (bD t):=by
 refine⟨?_,?_,List.mem_map.2 ⟨u,hu,rfl⟩⟩
 all_goals
  induction t with
  | nil=>cases hu
  | node x l r _ ih=>
   simp only[bD,ρ]at hu;rcases hu with e|e
   ·subst e;simp[BT.root,BT.nodes]
   ·exact ih e
theorem Ls{t:BT}{z:Nat}(h:(z:Int)∈dw (bD t)):z∈t.nodes:=by
 obtain⟨u,hu,e⟩:=List.mem_map.1 h;have h1:=Hw hu;refine(jD t).mem_iff.1 (List.mem_flatMap.2 ⟨u,hu,?_⟩);rw[←show u.root.toNat=z by omega];exact h1.1
theorem FQ{S:TS}{x:Nat}{ks:List Int}:∀ {t:BT} {p:Int},bY S p t.root t->t.nodes.Nodup->x∉t.nodes->(∀z:Nat,z∈t.nodes->((z:Int)∈ks↔(z:Int)∈dw (bD t)))->
  ∀u,u∈bD t->bY (gM S x ks) (-1) u.root u
 | .nil,_,_,_,_,_,u,hu=>by cases hu
 | .node y l r,p,h,hn,hx,hk,u,hu=>by
  simp only[BT.nodes,ρ,τ,not_or]at hx;simp only[BT.nodes,List.nodup_cons,τ,not_or,θ]at hn;obtain⟨⟨m1,m2⟩,m3,m4,m5⟩:=hn;obtain⟨_,h2,h3,h4⟩:=h;have hl:∀z:Nat,z∈l.nodes->(z:Int)∉ks:=fun z hz hm=>by
   have:=(hk z (by simp[BT.nodes,hz])).1 hm;simp only[dw,bD,List.map_cons,ρ,BT.root]at this;rcases this with e|e
   ·have:z=y:=ω;exact m1 (by rw[←this];exact hz)
   ·exact m5 z hz z (Ls e) rfl
  simp only[bD,ρ]at hu;rcases hu with e|e
  ·subst e;have hyk:(y:Int)∈ks:=(hk y (by simp[BT.nodes])).2 (by simp[dw,bD,BT.root]);refine⟨rfl,by simp[gM,hyk],?_,by simp[gM,hyk,bY]⟩;have e1:(gM S x ks).l y=S.l y:=by have hyx:¬y=x:=fun e=>hx.1 e.symm;simp[gM,hyx]
   rw[e1];exact h3.frame (fun z hz=>⟨by simp[gM,show z≠x from fun e=>hx.2.1 (by rw[←e];exact hz)],by simp[gM,hl z hz],by simp[gM,hl z hz]⟩)
  ·have e4:=h4.root;rw[e4]at h4;refine FQ h4 m4 hx.2.2 (fun z hz=>?_) u e;rw[hk z (by simp[BT.nodes,hz])];simp only[dw,bD,List.map_cons,ρ,BT.root];constructor
   ·rintro(e|e)
    ·have:z=y:=ω;exact absurd (by rw[←this];exact hz) m2
    ·exact e
   ·exact Or.inr
theorem TN{S:TS}{x z:Nat}{ks:List Int}(h1:z≠x)(h2:(z:Int)∉ks):S.at (gM S x ks) z:=by unfold gM TS.at;simp[h1,h2]
noncomputable def bU(A:NS):List BT->List BT
 | []=>[]
 | [a]=>[a]
 | a::b::l=>dD A a b::bU A l
noncomputable def gF(A:NS)(l:List BT):BT:=l.foldr (dD A) .nil
theorem bK(t:BT)(l:List BT):gQ (t::l)=t.nodes++gQ l:=rfl
theorem gB(l m:List BT):gQ (l++m)=gQ l++gQ m:=by unfold gQ;rw[List.flatMap_append]
theorem su(A:NS):∀ (l:List BT),(bU A l).length=(l.length+1) / 2
 | []=>rfl
 | [_]=>by simp[bU]
 | a::b::l=>by
  show(bU A l).length+1=_
  rw[su A l];simp;omega
theorem Dc(A:NS):∀ (l:List BT),(∀t,t∈l->Lone t)->(gQ (bU A l)).Perm (gQ l)
 | [],_=>List.Perm.refl _
 | [_],_=>List.Perm.refl _
 | a::b::l,h=>by
  show(gQ (dD A a b::bU A l)).Perm _
  rw[bK,bK,bK,←List.append_assoc];exact(lX A (h a σ) (h b σ)).append (Dc A l (fun t ht=>h t (by simp[ht])))
theorem yl(A:NS):∀ (l:List BT),(∀t,t∈l->Lone t)->(gF A l).nodes.Perm (gQ l)/\Lone (gF A l)
 | [],_=>⟨List.Perm.refl _,trivial⟩
 | a::l,h=>by
  have ih:=yl A l (fun t ht=>h t (by simp[ht]));exact⟨(lX A (h a σ) ih.2).trans (ih.1.append_left _),nL A (h a σ) ih.2⟩
theorem vF(A:NS):∀ (k:Nat) (l:List BT),2*k<=l.length->bU A l=(bU A l).take k++bU A (l.drop (2*k))
 | 0,l,_=>σ
 | k+1,[],h=>by simp at h
 | k+1,[_],h=>by simp at h;omega
 | k+1,a::b::l,h=>by
  have h1:=vF A k l (by simp at h;omega)
  show dD A a b::bU A l=_
  rw[show 2*(k+1)=2*k+2 by omega];simp only[bU,List.take_succ_cons,List.cons_append,List.drop_succ_cons];rw[←h1]
end Go.Proofs.YtklibcncmbofpaaGreat
namespace Go.Proofs.YtklibcncmbofpaaGreat
open Go Go.RowKit
structure PB where
 n0:Nat
 c:Nat
 ba:Nat
structure ic(w:World)(B:PB)(F:List Nat)(gt ct:Nat)(A:NS)(st:Nat)(S:TS)(aj:List Int):Prop where
 head:aL w B.n0 215 3 (fun j=>[Value.pointer (some ⟨B.c,0,none⟩),.slice (some ⟨B.ba,0,none⟩) A.cs.length A.cs.length,.slice (some ⟨gt,0,none⟩) aj.length ct].getD j undef)
 cells:aF w B.c F A st
 ties:aL w B.ba 217 (A.cs.length*3) (dI S)
 jH:IZ w gt ct aj
 jw:aj.length=A.hs.length
 bG:B.n0∉F/\B.ba∉F/\gt∉F
 sep:B.n0≠B.ba/\B.n0≠gt/\B.ba≠gt
section
variable {w:World}{B:PB}{F:List Nat}{gt ct:Nat}{A:NS}{st:Nat}{S:TS}{aj:List Int}
def PB.blk(B:PB)(F:List Nat)(gt:Nat):List Nat:=B.n0::B.ba::gt::F
theorem ic.upd{w':World}{G:List Nat}(h:ic w B F gt ct A st S aj)(hu:aa G w w')(hG:∀x,x∈G->x∉B.blk F gt):ic w' B F gt ct A st S aj:=by
 have h1:∀x,x∈B.blk F gt->x∉G:=fun x hx hg=>hG x hg hx;exact⟨h.head.upd hu (h1 _ (by simp[PB.blk])),h.cells.upd hu (fun x hx=>fun hm=>hG x hx (by simp[PB.blk,hm])),h.ties.upd hu (h1 _ (by simp[PB.blk])),h.jH.upd hu (h1 _ (by simp[PB.blk])),h.jw,h.bG,h.sep⟩
theorem ic.au{w':World}(h:ic w B F gt ct A st S aj)(hu:aa [] w w'):ic w' B F gt ct A st S aj:=h.upd hu σ
theorem ic.lt(h:ic w B F gt ct A st S aj):∀x,x∈B.blk F gt->x<w.heap.size:=by
 intro x hx;have:=h.head.lt;have:=h.ties.lt;have:=h.jH.lt;simp only[PB.blk,ρ]at hx;rcases hx with rfl|rfl|rfl|hx
 ·assumption
 ·assumption
 ·assumption
 ·exact h.cells.lt x hx
theorem ic.cF(h:ic w B F gt ct A st S aj):B.c∈F:=h.cells.mem
theorem ic.h0(h:ic w B F gt ct A st S aj):w.cell? ⟨B.n0,0,none⟩=some (.pointer (some ⟨B.c,0,none⟩)):=h.head.cellAt 0 ω rfl
theorem ic.h1(h:ic w B F gt ct A st S aj):w.cell? ⟨B.n0,1,none⟩=some (.slice (some ⟨B.ba,0,none⟩) A.cs.length A.cs.length):=h.head.cellAt 1 ω rfl
theorem ic.h2(h:ic w B F gt ct A st S aj):w.cell? ⟨B.n0,2,none⟩=some (.slice (some ⟨gt,0,none⟩) aj.length ct):=h.head.cellAt 2 ω rfl
theorem ic.l(h:ic w B F gt ct A st S aj)(x:Nat)(hx:x<A.cs.length):w.cell? ⟨B.ba,x*3,none⟩=some (.int .i64 (S.l x)):=h.ties.cellAt _ ω (ql S x)
theorem ic.r(h:ic w B F gt ct A st S aj)(x:Nat)(hx:x<A.cs.length):w.cell? ⟨B.ba,x*3+1,none⟩=some (.int .i64 (S.r x)):=h.ties.cellAt _ ω (pQ S x)
theorem ic.u(h:ic w B F gt ct A st S aj)(x:Nat)(hx:x<A.cs.length):w.cell? ⟨B.ba,x*3+2,none⟩=some (.int .i64 (S.u x)):=h.ties.cellAt _ ω (tV S x)
theorem ic.f(h:ic w B F gt ct A st S aj)(j:Nat):w.frozen? ⟨B.ba,j,none⟩=false:=h.ties.free j
theorem ic.iO{w':World}{S':TS}(h:ic w B F gt ct A st S aj)(hu:aa [B.ba] w w')(hT:aL w' B.ba 217 (A.cs.length*3) (dI S')):ic w' B F gt ct A st S' aj:=by
 have s:=h.sep;have f:=h.bG;exact⟨h.head.upd hu ζ,h.cells.upd hu (fun x hx=>by simp at hx;rw[hx];exact f.2.1),hT,h.jH.upd hu ζ,h.jw,f,s⟩
theorem ic.ext{S':TS}(h:ic w B F gt ct A st S aj)(hS:∀x,S'.l x=S.l x/\S'.r x=S.r x/\S'.u x=S.u x):ic w B F gt ct A st S' aj:=by
 have e:S'=S:=by
  cases S;cases S';simp only[TS.mk.injEq];exact⟨funext fun x=>(hS x).1,funext fun x=>(hS x).2.1,funext fun x=>(hS x).2.2⟩
 rw[e];exact h
theorem U7(S:TS)(p:Nat)(v:Int)(j:Nat):(if j=p*3 then Value.int .i64 v else dI S j)=dI (S.aH p false v) j:=by
 unfold dI TS.aH
 by_cases hj2:j=p*3
 ·subst hj2;simp
 ·by_cases h0:j % 3=0
  ·simp[hj2,h0];intro hh;exfalso;omega
  ·simp[hj2,h0]
theorem Wz(S:TS)(p:Nat)(v:Int)(j:Nat):(if j=p*3+1 then Value.int .i64 v else dI S j)=dI (S.aH p true v) j:=by
 unfold dI TS.aH
 by_cases hj2:j=p*3+1
 ·subst hj2;simp;intro hh;exfalso;omega
 ·by_cases h0:j % 3=1
  ·simp[hj2,h0];intro hh;exfalso;omega
  ·simp[hj2,h0]
theorem Wt(S:TS)(p:Nat)(v:Int)(j:Nat):(if j=p*3+2 then Value.int .i64 v else dI S j)=dI (S.bR p v) j:=by
 unfold dI TS.bR
 by_cases hj2:j=p*3+2
 ·subst hj2;simp;intro hh;exfalso;omega
 ·by_cases h0:j % 3=0
  ·simp[hj2,h0]
  ·by_cases h1:j % 3=1
   ·simp[hj2,h1]
   ·simp[hj2,h0,h1];intro hh;exfalso;omega
theorem ic.Ju(h:ic w B F gt ct A st S aj)(p:Nat)(v:Int):ic (w.setCell ⟨B.ba,p*3,none⟩ (.int .i64 v)) B F gt ct A st (S.aH p false v) aj:=
 h.iO β ((h.ties.set _ _).ext (fun j _=>U7 S p v j))
theorem ic.dA(h:ic w B F gt ct A st S aj)(p:Nat)(v:Int):ic (w.setCell ⟨B.ba,p*3+1,none⟩ (.int .i64 v)) B F gt ct A st (S.aH p true v) aj:=
 h.iO β ((h.ties.set _ _).ext (fun j _=>Wz S p v j))
theorem ic.sj(h:ic w B F gt ct A st S aj)(p:Nat)(v:Int):ic (w.setCell ⟨B.ba,p*3+2,none⟩ (.int .i64 v)) B F gt ct A st (S.bR p v) aj:=
 h.iO β ((h.ties.set _ _).ext (fun j _=>Wt S p v j))
theorem ic.qQ(h:ic w B F gt ct A st S aj)(x:Nat)(k:Int):ic (w.setCell ⟨gt,x,none⟩ (.int .i64 k)) B F gt ct A st S (aj.set x k):=by
 have s:=h.sep;have f:=h.bG;have hu:aa [gt] w (w.setCell ⟨gt,x,none⟩ (.int .i64 k)):=β;exact⟨by rw[List.length_set];exact h.head.upd hu ζ,h.cells.upd hu (fun x hx=>by simp at hx;rw[hx];exact f.2.2),h.ties.upd hu ζ,h.jH.set x k,by rw[List.length_set];exact h.jw,f,s⟩
theorem ic.cB{w':World}{F':List Nat}{A':NS}{st':Nat}(h:ic w B F gt ct A st S aj)(hu:aa F w w')(hC:aF w' B.c F' A' st')(hF:∀x,x∈F'->x∈F\/w.heap.size<=x)(h1:A'.cs.length=A.cs.length)(h2:A'.hs.length=A.hs.length):ic w' B F' gt ct A' st' S aj:=by
 have f:=h.bG;have g:=h.lt;have hf:∀x,x<w.heap.size->x∉F->x∉F':=fun x hx hn hm=>by rcases hF x hm with h'|h';exact hn h';omega
 have l0:=g B.n0 (by simp[PB.blk]);have l1:=g B.ba (by simp[PB.blk]);have l4:=g gt (by simp[PB.blk]);exact⟨by rw[h1];exact h.head.upd hu f.1,hC,by rw[h1];exact h.ties.upd hu f.2.1,h.jH.upd hu f.2.2,by rw[h2];exact h.jw,⟨hf _ l0 f.1,hf _ l1 f.2.1,hf _ l4 f.2.2⟩,h.sep⟩
end
def nA(w:World)(B:PB)(F:List Nat)(gt ct:Nat)(A:NS)(st:Nat)(tr:Nat->BT):Prop:=∃S aj,ic w B F gt ct A st S aj/\xA La A S aj tr/\∀h,Lone (tr h)
theorem nA.upd{w w':World}{B:PB}{F G:List Nat}{gt ct st:Nat}{A:NS}{tr:Nat->BT}(h:nA w B F gt ct A st tr)(hu:aa G w w')(hG:∀x,x∈G->x∉B.blk F gt):nA w' B F gt ct A st tr:=by
 obtain⟨S,aj,hM,hI⟩:=h;exact⟨S,aj,hM.upd hu hG,hI⟩
theorem nA.au{w w':World}{B:PB}{F:List Nat}{gt ct st:Nat}{A:NS}{tr:Nat->BT}(h:nA w B F gt ct A st tr)(hu:aa [] w w'):nA w' B F gt ct A st tr:=h.upd hu σ
section
variable {w:World}{B:PB}{F:List Nat}{gt ct:Nat}{A:NS}{st:Nat}{S:TS}{aj:List Int}
theorem Dw(S:TS)(x y:Nat)(h:S.l x=-1):∀z,(iy S x y).l z=((((S.aH y true (S.l x)).bR y x).aH x false y)).l z/\(iy S x y).r z=((((S.aH y true (S.l x)).bR y x).aH x false y)).r z/\(iy S x y).u z=((((S.aH y true (S.l x)).bR y x).aH x false y)).u z:=fun z=>by
 unfold iy TS.aH TS.bR;rw[h];refine⟨σ,σ,?_⟩;have:¬ (z:Int)=-1:=ω;simp[this]
theorem Cz(S:TS)(x y o:Nat)(h:S.l x=o)(hoy:o≠y):∀z,(iy S x y).l z=(((((S.aH y true (S.l x)).bR y x).bR o y).aH x false y)).l z/\(iy S x y).r z=(((((S.aH y true (S.l x)).bR y x).bR o y).aH x false y)).r z/\(iy S x y).u z=(((((S.aH y true (S.l x)).bR y x).bR o y).aH x false y)).u z:=fun z=>by
 unfold iy TS.aH TS.bR;rw[h];refine⟨σ,σ,?_⟩;simp only[Bool.false_eq_true,if_false,if_true]
 by_cases h1:z=y
 ·subst h1;rw[if_pos rfl,if_neg (fun e=>hoy e.symm),if_pos rfl]
 ·rw[if_neg h1]
  by_cases h2:z=o
  ·subst h2;simp
  ·rw[if_neg (show ¬ (z:Int)=(o:Int) by omega),if_neg h2,if_neg h1]
theorem wC(b:Int)(w:World)(n0:Nat):Calls Tryz.prog 215 #[.pointer (some ⟨n0,0,none⟩),.int .i64 (-1),.int .i64 b] w fun e w'=>e=.returned (.int .i64 b)/\w'=w:=by
 go_enter Tryz.func215,Tryz.ntmps215
 go_wp2;go_ret;exact⟨rfl,rfl⟩
theorem Fj(a:Int)(w:World)(n0:Nat):Calls Tryz.prog 215 #[.pointer (some ⟨n0,0,none⟩),.int .i64 a,.int .i64 (-1)] w fun e w'=>e=.returned (.int .i64 a)/\w'=w:=by
 by_cases h:a=-1
 ·subst h;exact wC (-1) w n0
 ·have hb:(a == -1)=false:=by simpa using h
  go_enter Tryz.func215,Tryz.ntmps215
  go_wp2;go_ret;exact⟨rfl,rfl⟩
theorem IU(h:ic w B F gt ct A st S aj)(x y:Nat)(hx:bS A (x:Int)=true)(hy:bS A (y:Int)=true)(hxy:x≠y)(hkx:S.l x=-1\/(0<=S.l x/\S.l x<A.cs.length))(hky:S.l y=-1\/(0<=S.l y/\S.l y<A.cs.length))(hnx:S.l x≠y)(hny:S.l y≠x) :
  Calls Tryz.prog 215 #[.pointer (some ⟨B.n0,0,none⟩),.int .i64 (x:Int),.int .i64 (y:Int)] w fun e w'=>e=.returned (.int .i64 ((if bZ A y x then y else x:Nat):Int))/\(∃st',ic w' B F gt ct A st' (if bZ A y x then iy S y x else iy S x y) aj)/\aa [B.ba,B.c] w w':=by
 have ka:=fA h.cells y x hy hx;have hx2:=(ah _ _).1 hx;have hy2:=(ah _ _).1 hy;have hA:=h.cells.ok.c1;have c0:=h.h0;have hM1:∀w1,aF w1 B.c F A (bT st 1)->aa [B.c] w w1->ic w1 B F gt ct A (bT st 1) S aj:=fun w1 hC hu=>h.cB (hu.mono (fun z hz=>by simp at hz;rw[hz];exact h.cF)) hC (fun z hz=>Or.inl hz) rfl rfl;have hb1:((x:Int) == -1)=false:=σ;have hb2:((y:Int) == -1)=false:=σ;have HX:=χ (ψ hM1 h.sep);have BN:(x:Int)<(A.cs.length:Int):=ω;have hyI:(y:Int)<(A.cs.length:Int):=ω;clear h hx hy hM1
 by_cases hlt:bZ A y x
 ·rw[decide_eq_true hlt]at ka;rw[if_pos hlt,if_pos hlt];clear hlt hkx
  go_enter Tryz.func215,Tryz.ntmps215
  go_upto_region 7 with(first
   | ((go_at_call 174;(with_reducible refine(ka).mono ?_));rintro e w1 ⟨rfl,hC,hu1⟩)
   | fail)
  obtain⟨hM1,hsep⟩:=HX.out;have hM:=hM1 w1 hC hu1;have c1:=hM.h1;have dl:=hM.l y hy2.1;have dr:=hM.r x hx2.1;have du:=hM.u x hx2.1;have ff:=hM.f;have UI:=ff (x*3+1);have Uy:=ff (x*3+2);have VB:=ff (y*3);have hn1:¬B.n0=B.ba:=hsep.1;have hn2:¬B.ba=B.n0:=fun e=>hsep.1 e.symm;have HM:=χ (ψ hM hu1);have nb1:¬y*3=x*3+1:=ω;have nb2:¬y*3=x*3+2:=ω;have nbl:y*3<A.cs.length*3:=ω;clear hM hu1 hC hM1 hsep ka
  by_cases ho:S.l y=-1
  ·have HO:=χ ho;have he:=Dw S y x ho;rw[ho]at dl he;have HE:=χ he;have hlr:((-1:Int) != -1)=false:=σ;clear ho he hky hny
   go_upto_region 8 with(fail)
   go_region_law (fail)
   all_goals
    go_wp2;go_ret;refine⟨rfl,⟨_,ic.ext ((((HM.out.1.dA x (-1)).sj x y).Ju y x).au ?_) HE.out⟩,(HM.out.2.mono σ).trans ?_⟩
    ·exact ν
    ·exact β
  ·obtain⟨o,wI⟩:∃o:Nat,S.l y=o:=⟨(S.l y).toNat,ω⟩;have hol:o<A.cs.length:=ω;have hoy:o≠x:=fun e=>hny (by rw[wI,e]);have he:=Cz S y x o wI hoy;rw[wI]at dl he;have HE:=χ he;have BF:((o:Int) != -1)=true:=σ;have hoI:(o:Int)<(A.cs.length:Int):=ω;have do_:=HM.out.1.u o hol;have WO:=ff (o*3+2);have no1:¬o*3+2=x*3+1:=ω;have no2:¬o*3+2=x*3+2:=ω;have no3:¬y*3=o*3+2:=ω;clear ho he wI hky hny
   go_upto_region 8 with(fail)
   go_region_law (fail)
   all_goals
    go_wp2;go_ret;refine⟨rfl,⟨_,ic.ext (((((HM.out.1.dA x (o:Int)).sj x y).sj o x).Ju y x).au ?_) HE.out⟩,(HM.out.2.mono σ).trans ?_⟩
    ·exact ν
    ·exact β
 ·rw[decide_eq_false hlt]at ka;rw[if_neg hlt,if_neg hlt];clear hlt hky
  go_enter Tryz.func215,Tryz.ntmps215
  go_upto_region 7 with(first
   | ((go_at_call 174;(with_reducible refine(ka).mono ?_));rintro e w1 ⟨rfl,hC,hu1⟩)
   | fail)
  obtain⟨hM1,hsep⟩:=HX.out;have hM:=hM1 w1 hC hu1;have c1:=hM.h1;have dl:=hM.l x hx2.1;have dr:=hM.r y hy2.1;have du:=hM.u y hy2.1;have ff:=hM.f;have UI:=ff (y*3+1);have Uy:=ff (y*3+2);have VB:=ff (x*3);have hn1:¬B.n0=B.ba:=hsep.1;have hn2:¬B.ba=B.n0:=fun e=>hsep.1 e.symm;have HM:=χ (ψ hM hu1);have nb1:¬x*3=y*3+1:=ω;have nb2:¬x*3=y*3+2:=ω;have nbl:x*3<A.cs.length*3:=ω;clear hM hu1 hC hM1 hsep ka
  by_cases ho:S.l x=-1
  ·have HO:=χ ho;have he:=Dw S x y ho;rw[ho]at dl he;have HE:=χ he;have hlr:((-1:Int) != -1)=false:=σ;clear ho he hkx hnx
   go_upto_region 8 with(fail)
   go_region_law (fail)
   all_goals
    go_wp2;go_ret;refine⟨rfl,⟨_,ic.ext ((((HM.out.1.dA y (-1)).sj y x).Ju x y).au ?_) HE.out⟩,(HM.out.2.mono σ).trans ?_⟩
    ·exact ν
    ·exact β
  ·obtain⟨o,wI⟩:∃o:Nat,S.l x=o:=⟨(S.l x).toNat,ω⟩;have hol:o<A.cs.length:=ω;have hoy:o≠y:=fun e=>hnx (by rw[wI,e]);have he:=Cz S x y o wI hoy;rw[wI]at dl he;have HE:=χ he;have BF:((o:Int) != -1)=true:=σ;have hoI:(o:Int)<(A.cs.length:Int):=ω;have do_:=HM.out.1.u o hol;have WO:=ff (o*3+2);have no1:¬o*3+2=y*3+1:=ω;have no2:¬o*3+2=y*3+2:=ω;have no3:¬x*3=o*3+2:=ω;clear ho he wI hkx hnx
   go_upto_region 8 with(fail)
   go_region_law (fail)
   all_goals
    go_wp2;go_ret;refine⟨rfl,⟨_,ic.ext (((((HM.out.1.dA y (o:Int)).sj y x).sj o y).Ju x y).au ?_) HE.out⟩,(HM.out.2.mono σ).trans ?_⟩
    ·exact ν
    ·exact β
end
theorem xP{a b:List Nat}(h:(a++b).Nodup):(b++a).Nodup:=(List.perm_append_comm (l₁:=a) (l₂:=b)).nodup_iff.1 h
theorem nU{S:TS}{p z:Int}{t:BT}{n:Nat}(h:bY S p z t)(hl:∀y,y∈t.nodes->y<n):z=-1\/(0<=z/\z<n):=by
 rw[h.root]
 by_cases e:t=.nil
 ·left;rw[e];rfl
 ·right;have h1:=bL e;have:=hl _ h1.1;omega
section
variable {w:World}{B:PB}{F:List Nat}{gt ct:Nat}{A:NS}{st:Nat}{S:TS}{aj:List Int}
theorem wZ(h:ic w B F gt ct A st S aj)(a b:BT)(ha:bY S (-1) a.root a)(hb:bY S (-1) b.root b)(la:Lone a)(lb:Lone b)(hn:(a.nodes++b.nodes).Nodup)(hin:∀z,z∈a.nodes++b.nodes->bS A (z:Int)=true) :
  Calls Tryz.prog 215 #[.pointer (some ⟨B.n0,0,none⟩),.int .i64 a.root,.int .i64 b.root] w fun e w'=>e=.returned (.int .i64 (dD A a b).root)/\aa [B.ba,B.c] w w'/\∃st' S',ic w' B F gt ct A st' S' aj/\bY S' (-1) (dD A a b).root (dD A a b)/\∀z,z∉a.nodes++b.nodes->S.at S' z:=by
 cases a with
 | nil=>
  rw[tT];refine(wC b.root w B.n0).mono ?_;rintro e w' ⟨rfl,rfl⟩;exact⟨rfl,aa.refl _ _,st,S,h,hb,fun z _=>⟨rfl,rfl,rfl⟩⟩
 | node x l r=>
  cases b with
  | nil=>
   rw[qB];refine(Fj (BT.node x l r).root w B.n0).mono ?_;rintro e w' ⟨rfl,rfl⟩;exact⟨rfl,aa.refl _ _,st,S,h,ha,fun z _=>⟨rfl,rfl,rfl⟩⟩
  | node y m q=>
   have e1:r=.nil:=la;have e2:q=.nil:=lb;subst e1 e2;have hlt:∀z,z∈(BT.node x l .nil).nodes++(BT.node y m .nil).nodes->z<A.cs.length:=fun z hz=>((ah _ _).1 (hin z hz)).1;have hxy:x≠y:=fun e=>by
    rw[θ]at hn;exact hn.2.2 x (by simp[BT.nodes]) y (by simp[BT.nodes]) e
   have hrx:=nU (n:=A.cs.length) ha.2.2.1 (fun z hz=>hlt z (by simp[BT.nodes,hz]));have hry:=nU (n:=A.cs.length) hb.2.2.1 (fun z hz=>hlt z (by simp[BT.nodes,hz]));have hne:∀ {u:Nat} {t t':BT},S.l u=t.root->(∀z,z∈t.nodes->z∉t'.nodes)->∀v,v∈t'.nodes->S.l u≠(v:Int):=fun {u t t'} h1 h2 v hv e=>by
    rw[h1]at e;have h6:t≠.nil:=fun e'=>by rw[e']at e;simp[BT.root]at e
    have h7:=(bL h6).1;rw[e,π]at h7;exact h2 v h7 hv
   have hnn:=hn;rw[θ]at hnn;have hnx:S.l x≠(y:Int):=hne (t':=.node y m .nil) ha.2.2.1.root (fun z hz hm=>hnn.2.2 z (by simp[BT.nodes,hz]) z hm rfl) y (by simp[BT.nodes]);have hny:S.l y≠(x:Int):=hne (t':=.node x l .nil) hb.2.2.1.root (fun z hz hm=>hnn.2.2 z hm z (by simp[BT.nodes,hz]) rfl) x (by simp[BT.nodes]);refine(IU h x y (hin x (by simp[BT.nodes])) (hin y (by simp[BT.nodes])) hxy hrx hry hnx hny).mono ?_;rintro e w' ⟨rfl,⟨st',hM⟩,hu⟩;rw[qZ]
   by_cases hc:bZ A y x
   ·simp only[if_pos hc]at hM⊢;obtain⟨h1,h2⟩:=Cy hb ha (xP hn);exact⟨rfl,hu,st',_,hM,h1,fun z hz=>h2 z (fun hm=>hz (by rw[τ]at hm⊢;exact hm.symm))⟩
   ·simp only[if_neg hc]at hM⊢;obtain⟨h1,h2⟩:=Cy ha hb hn;exact⟨rfl,hu,st',_,hM,h1,h2⟩
end
theorem Vi:(Tryz.prog.info? 217).map (fun i=>(i.zero,i.size,i.bytes))=some (some (.agg #[.int .i64 0,.int .i64 0,.int .i64 0]),3,24):=by kernel_rfl
theorem Pv(n:Nat):xA La (NS.new n) TS.none [-1] (fun _=>.nil):=ED n
theorem NI(n:Nat)(w:World)(h:n<=65536) :
  Calls Tryz.prog 96 #[.int .i64 (n:Int)] w fun e w'=>∃B F gt,e=.returned (.tuple #[.pointer (some ⟨B.n0,0,none⟩),.int .i64 0])/\nA w' B F gt 1 (NS.new n) 0 (fun _=>.nil)/\aa [] w w'/\∀x,x∈B.blk F gt->w.heap.size<=x:=by
 have hcs:(NS.new n).cs.length=n:=by simp[NS.new]
 have HCS:=χ hcs;clear hcs
 go_enter Tryz.func96,Tryz.ntmps96
 go_wp2_with (first
  | ((go_at_call 107;(with_reducible refine(oo n _ h).mono ?_));rintro e w1 ⟨c,F,rfl,hC,hu1,hF⟩)
  | (at_make;refine wpList_make_row rfl _ 213 rfl 217 (.agg #[.int .i64 0,.int .i64 0,.int .i64 0]) 3 24 Tryz.underlying213 Vi n rfl ω μ ?_;intro w3 hr3 hu3))
 have l1:=hu1.size;have l3:=hu3.size;have l4:=hr3.lt;have l7:=hC.lt;have lc:=l7 c hC.mem;have e3:((w3.alloc (.cells #[.int .i64 (-1)] 3)).heap.size)=w3.heap.size+1:=by rw[World.size_alloc]
 have hv:aa [] w3 (w3.alloc (.cells #[.int .i64 (-1)] 3)):=(aa.refl _ _).alloc _;obtain⟨W4,Vr⟩:∃W4,W4=(w3.alloc (.cells #[.int .i64 (-1)] 3)).alloc (.cells #[.pointer (some ⟨c,0,none⟩),.slice (some ⟨w1.heap.size,0,none⟩) n n,.slice (some ⟨w3.heap.size,0,none⟩) 1 1] 215):=⟨_,rfl⟩;have hw:aa [] w3 W4:=by rw[Vr];exact hv.alloc _
 have hh:=dP (w3.alloc (.cells #[.int .i64 (-1)] 3)) [.pointer (some ⟨c,0,none⟩),.slice (some ⟨w1.heap.size,0,none⟩) n n,.slice (some ⟨w3.heap.size,0,none⟩) 1 1] 215;rw[e3]at hh;rw[←Vr]at hh;have hi:IZ W4 w3.heap.size 1 [-1]:=by rw[Vr];exact(IZ.lit w3 [-1] σ).upd ((aa.refl [] _).alloc _) σ
 have Qp:aF W4 c F (NS.new n) 0:=(hC.au hu3).au hw;have hr4:=hr3.upd hw σ;have u4:aa [] w W4:=(hu1.trans hu3).trans hw;have hF':∀x,x∈F->x<w1.heap.size:=l7;have hnF:∀x,w1.heap.size<=x->x∉F:=fun x hx hm=>by have:=hF' x hm;omega
 have l5:=hw.size;rw[←Vr];clear Vr e3 hv hu3 hr3 hw hC;have H4:=χ (ψ Qp (ψ hi (ψ u4 (ψ hF (ψ hF' hnF)))));clear Qp hi u4 hF hF' hnF hu1 l7;go_wp2
 go_loopw [7,27] (fun v7 i wr=>∃ (k:Nat) (f:Nat->Value),k<=n/\i=.int .i64 k/\aL wr (w3.heap.size+1) 215 3 (fun j=>[Value.pointer (some ⟨c,0,none⟩),.slice (some ⟨w1.heap.size,0,none⟩) n n,.slice (some ⟨w3.heap.size,0,none⟩) 1 1].getD j undef)/\aL wr w1.heap.size 217 (n*3) f/\(∀j,j<k*3->f j=.int .i64 (-1))/\aa [w1.heap.size] W4 wr) (fun _ i _=>n-(intOf i).toNat)
 case atStart=>exact⟨0,_,ω,rfl,hh.ext (fun j hj=>by(have h3:j<3:=by simpa using hj);rcases(ω:j=0\/j=1\/j=2)with rfl|rfl|rfl<;>rfl),hr4,ω,aa.refl _ _⟩
 case round=>
  obtain⟨k,f,hk,rfl,hH,hR,hf,hu⟩:=hrel;rename World=>wr
  by_cases hkn:k<n
  ·have c0:=hH.cellAt 1 ω rfl;have d0:=hR.cell (k*3) ω;have d1:=hR.cell (k*3+1) ω;have d2:=hR.cell (k*3+2) ω;have e0:=hR.free (k*3);have e1:=hR.free (k*3+1);have e2:=hR.free (k*3+2);have HF:=χ (ψ hf (ψ hH (ψ hR hu)));have hkI:decide ((k:Int)<(n:Int))=true:=ζ;clear hf hH hR hu hh hr4;go_wp2
   go_roundw
   case rel=>
    obtain⟨hf,hH,hR,hu⟩:=HF.out;refine⟨k+1,_,ω,by go_num,((hH.far _ _ ζ).far _ _ ζ).far _ _ ζ,((hR.set _ _).set _ _).set _ _,fun j hj=>?_,((hu.setCell (Or.inl σ) _).setCell (Or.inl σ) _).setCell (Or.inl σ) _⟩
    show(if j=k*3+2 then _ else if j=k*3+1 then _ else if j=k*3 then _ else f j)=_
    split
    ·rfl
    ·split
     ·rfl
     ·split
      ·rfl
      ·exact hf j ω
   case measure=>simp[intOf];omega
  ·obtain rfl:k=n:=ω;have hkI:decide ((k:Int)<(k:Int))=false:=σ;have HF:=χ (ψ hf (ψ hH (ψ hR hu)));clear hf hH hR hu hh hr4;go_wp2;go_ret2;obtain⟨hf,hH,hR,hu⟩:=HF.out;obtain⟨Qp,hi,u4,hF,hF',hnF⟩:=H4.out;have hcs:=HCS.out
   refine⟨⟨w3.heap.size+1,c,w1.heap.size⟩,F,w3.heap.size,rfl,⟨TS.none,[-1],⟨by rw[hcs];exact hH,Qp.upd hu (fun x hx=>by simp at hx;rw[hx];exact hnF _ (Nat.le_refl _)),?_,hi.upd hu ζ,rfl,⟨hnF _ (by simp only;omega),hnF _ (by simp only;omega),hnF _ ω⟩,⟨by simp only;omega,by simp only;omega,by simp only;omega⟩⟩,Pv _,fun _=>trivial⟩,u4.joined hu (fun x hx=>Or.inr (by simp at hx;omega)),fun x hx=>?_⟩
   ·rw[hcs];exact hR.ext (fun j hj=>by rw[hf j hj];unfold dI TS.none;simp)
   ·simp only[PB.blk,ρ]at hx;rcases hx with rfl|rfl|rfl|hx
    ·omega
    ·omega
    ·omega
    ·exact hF x hx
theorem xA.Za{A:NS}{S:TS}{aj:List Int}{tr:Nat->BT}(h:xA La A S aj tr)(hL:∀h,Lone (tr h)){g:Nat}(hg:0<dO A g):∃m:Nat,(tr g).root=m/\dL A g=some m:=by
 obtain⟨x,hx,hi,h0⟩:=fH.1 hg;have hxm:x∈(tr g).nodes:=(h.mem g x).2 ⟨ω,hx,hi⟩;cases ht:tr g with
 | nil=>rw[ht]at hxm;cases hxm
 | node m l r=>
  have hm:=(h.mem g m).1 (by rw[ht];simp[BT.nodes]);have hH:eU A (tr g):=h.heap g;have hl:=hL g;rw[ht]at hH hl;have hr:r=.nil:=hl;subst hr;refine⟨m,rfl,(iT h0).2 ⟨hm.2.1,hm.2.2,fun y hy hyi=>?_⟩⟩;have hym:=(h.mem g y).2 ⟨ω,hy,hyi⟩;rw[ht]at hym;exact abh hH y hym
section
variable {w:World}{B:PB}{F:List Nat}{gt ct:Nat}{A:NS}{st:Nat}{tr:Nat->BT}
theorem zS(h:nA w B F gt ct A st tr)(g:Nat)(hn:0<dO A g) :
  Calls Tryz.prog 213 #[.pointer (some ⟨B.n0,0,none⟩),.int .i64 (g:Int)] w fun e w'=>∃m:Nat,dL A g=some m/\(tr g).root=m/\e=.returned (.tuple #[.int .i64 (m:Int),.bool true])/\w'=w:=by
 obtain⟨S,aj,hM,hI,hL⟩:=h;obtain⟨m,hm,hf⟩:=hI.Za hL hn;obtain⟨x,hx,hi,h0⟩:=fH.1 hn;have ok:=hM.cells.ok;have hgl:g<A.hs.length:=by have:=(ok.nat x hx).2;omega
 have XZ:=ok.h1;have k:=pV hM.cells (g:Int) ω;have hh0:=hM.h0;have h3:=hM.h2;have d:=hM.jH.cell g (by rw[hM.jw];exact hgl);rw[hI.top g hgl,hm]at d;have htl:g<aj.length:=by rw[hM.jw];exact hgl
 generalize hl:dO A (g:Int)=n at *;have hb:((n:Int) == 0)=false:=ζ;have HF:=χ (ψ hf hm);clear hM hI hm hf hx hi h0 ok hl
 go_enter Tryz.func213,Tryz.ntmps213
 go_wp2_with (first|(go_at_call 142;(with_reducible refine(k).mono ?_);rintro e w9 ⟨rfl,aJ⟩;rw[aJ];clear aJ w9))
 go_ret2;exact⟨m,HF.out.1,HF.out.2,rfl,rfl⟩
theorem KI(h:nA w B F gt ct A st tr)(x:Int)(hx:-9223372036854775808<=x/\x<=9223372036854775807)(hn:dO A x=0) :
  Calls Tryz.prog 213 #[.pointer (some ⟨B.n0,0,none⟩),.int .i64 x] w fun e w'=>e=.returned (.tuple #[.int .i64 0,.bool false])/\w'=w:=by
 obtain⟨S,aj,hM, -⟩:=h;have k:=pV hM.cells x hx;rw[hn]at k;have h0:=hM.h0;clear hM hn
 go_enter Tryz.func213,Tryz.ntmps213
 go_wp2_with (first|(go_at_call 142;(with_reducible refine(k).mono ?_);rintro e w9 ⟨rfl,aJ⟩;rw[aJ];clear aJ w9))
 go_ret2;exact⟨rfl,rfl⟩
theorem NZ(h:nA w B F gt ct A st tr)(hl:65536<A.hs.length) :
  Calls Tryz.prog 211 #[.pointer (some ⟨B.n0,0,none⟩)] w fun e w'=>e=.returned (.int .i64 0)/\Goes (B.blk F gt) w w' (fun F'=>∃F1,F'=B.blk F1 gt/\nA w' B F1 gt ct A st tr):=by
 obtain⟨S,aj,hM,hI⟩:=h;have k:=iR hM.cells;have e1:dm A=0:=by unfold dm;rw[if_pos hl]
 have e2:aR A=A:=by unfold aR;rw[if_pos hl]
 rw[e1,e2]at k;have h0:=hM.h0;have HM:=χ hM;have HI:=χ hI;clear hM hI e1 e2
 go_enter Tryz.func211,Tryz.ntmps211
 go_wp2_with (first|((go_at_call 156;(with_reducible refine(k).mono ?_));rintro e w1 ⟨rfl,F1,hC,hu,hF⟩))
 go_ret
 exact⟨rfl,B.blk F1 gt,⟨F1,rfl,S,aj,HM.out.cB hu hC hF rfl rfl,HI.out⟩,hu.mono (fun y hy=>by simp[PB.blk,hy]),fun x hx=>by
  simp only[PB.blk,ρ]at hx⊢;rcases hx with rfl|rfl|rfl|hx
  ·simp
  ·simp
  ·simp
  ·rcases hF x hx with h|h
   ·simp[h]
   ·exact Or.inr h⟩
theorem Ko(h:nA w B F gt ct A st tr)(hl:¬65536<A.hs.length) :
  Calls Tryz.prog 211 #[.pointer (some ⟨B.n0,0,none⟩)] w fun e w'=>e=.returned (.int .i64 (A.hs.length:Int))/\Goes (B.blk F gt) w w' (fun F'=>∃F1 pI Hu,F'=B.blk F1 pI/\nA w' B F1 pI Hu (aR A) st tr):=by
 obtain⟨S,aj,hM,hI,hL⟩:=h;have k:=iR hM.cells;have e1:dm A=A.hs.length:=by unfold dm;rw[if_neg hl]
 rw[e1]at k;have hcs:(aR A).cs.length=A.cs.length:=by unfold aR;rw[if_neg hl]
 have lT:(aR A).hs.length=A.hs.length+1:=by unfold aR;rw[if_neg hl];simp
 have hI2:=hI.make hM.cells.ok hM.jw hl;have h0:=hM.h0;have hh0:=hM.cells.ok.h0;have HTN:=χ hM.jw;have htb:aj.length<=65536:=by rw[hM.jw];omega
 have HM:=χ hM;have HI:=χ (ψ hI2 hL);clear hM hI hL e1 hI2
 go_enter Tryz.func211,Tryz.ntmps211
 go_wp2_with (first
  | ((go_at_call 156;(with_reducible refine(k).mono ?_));rintro e w1 ⟨rfl,F1,hC,hu,hF⟩;(have d3:=hu.kept HM.out.h2 HM.out.bG.1);(have f3:=hu.aS HM.out.h2 HM.out.bG.1 (HM.out.head.free 2));(have ho1:=(HM.out.jH.upd hu HM.out.bG.2.2).own);(have g0:B.n0≠gt:=HM.out.sep.2.1);(have gl:=(HM.out.jH.upd hu HM.out.bG.2.2).lt))
  | ((at_builtin;refine aX rfl _ _ 26 rfl 0 3 (.int .i64 0) 1 8 Tryz.underlying26 fF rfl δ _ _ _ rfl (ho1) [.int .i64 (-1)] rfl (by simp[Value.oneCell']) (by first|rfl|(rw[World.size_alloc];rfl)) μ ω (ω) ?_;intro v2 w2 ho2 hu2 mQ);(have hu2:aa [gt] w1 w2:=hu2);obtain⟨pI,Hu,ev,hI2, -⟩:=IZ.iY (l:=aj++[-1]) (by rw[bM,υ];exact ho2) σ;rw[υ,List.length_singleton]at ev;subst ev;(have d4:=hu2.kept d3 ζ);(have f4:=hu2.aS d3 ζ f3)))
 go_ret;have hM:=HM.out;have hlt:=hM.lt;have f:=hM.bG;have q:=hM.sep;have hw3:aa [B.n0] w2 (w2.setCell ⟨B.n0,2,none⟩ (.slice (some ⟨pI,0,none⟩) (aj.length+1) Hu)):=β;have hg1:pI=gt\/w1.heap.size<pI:=by
  rcases mQ with h|h
  ·exact Or.inl (Option.some.inj h)
  ·exact Or.inr (h pI rfl)
 have hws:=hu.size;have jr:=hC.lt;have l0:=hlt B.n0 (by simp[PB.blk]);have l1:=hlt B.ba (by simp[PB.blk]);have l4:=hlt gt (by simp[PB.blk]);have hnF:∀y,y<w.heap.size->y∉F->y∉F1:=fun y hy hn hm=>by rcases hF y hm with h'|h';exact hn h';omega
 have Fs:pI∉F1:=by
  rcases hg1 with e|e
  ·rw[e];exact hnF gt l4 f.2.2
  ·exact fun hm=>by have:=jr pI hm;omega
 have hb:w.heap.size<=pI\/pI=gt:=ω;have hhd:=((hM.head.upd hu f.1).upd hu2 ζ).set 2 (.slice (some ⟨pI,0,none⟩) (aj.length+1) Hu);refine⟨rfl,B.blk F1 pI,⟨F1,pI,Hu,rfl,S,aj++[-1],⟨?_,?_,?_,hI2.upd hw3 ζ,?_,⟨hnF _ l0 f.1,hnF _ l1 f.2.1,Fs⟩,⟨q.1,ω,ω⟩⟩,HI.out⟩,?_,fun y hy=>?_⟩
 ·rw[hcs,υ,List.length_singleton];refine hhd.ext (fun j hj=>?_);rcases(ω:j=0\/j=1\/j=2)with rfl|rfl|rfl<;>rfl
 ·exact(hC.upd hu2 (fun y hy=>by simp at hy;rw[hy];exact hnF gt l4 f.2.2)).upd hw3 (fun y hy=>by simp at hy;rw[hy];exact hnF _ l0 f.1)
 ·rw[hcs];exact((hM.ties.upd hu f.2.1).upd hu2 ζ).upd hw3 ζ
 ·rw[υ,List.length_singleton,lT,HTN.out]
 ·have u1:aa (B.blk F gt) w w1:=hu.mono (fun y hy=>by simp[PB.blk,hy]);exact(u1.trans (hu2.mono (fun y hy=>by simp at hy;simp[PB.blk,hy]))).trans (hw3.mono (fun y hy=>by simp at hy;simp[PB.blk,hy]))
 ·simp only[PB.blk,ρ]at hy⊢;rcases hy with rfl|rfl|rfl|hy
  ·simp
  ·simp
  ·rcases hb with h|h
   ·exact Or.inr h
   ·exact Or.inl (by simp[h])
  ·rcases hF y hy with h|h
   ·simp[h]
   ·exact Or.inr h
end
section
variable {w:World}{B:PB}{F:List Nat}{gt ct:Nat}{A:NS}{st:Nat}{S:TS}{aj:List Int}
theorem NQ(h:ic w B F gt ct A st S aj)(x:Nat)(hin:bS A (x:Int)=true)(l:BT)(hl:bY S (x:Int) (S.l x) l)(hlt:∀z,z∈l.nodes->z<A.cs.length)(hsz:l.size<=65536) :
  Calls Tryz.prog 217 #[.pointer (some ⟨B.n0,0,none⟩),.int .i64 (x:Int)] w fun e w'=>∃ao co,e=.returned (.slice ao (bD l).length co)/\w'.ownsRow w.heap.size 3 1 (.slice ao (bD l).length co) (bD l).length (aQ (dw (bD l)))/\ic w' B F gt ct A st S aj/\aa F w w':=by
 have kh:=dQ h.cells x hin;have hx:=(ah _ _).1 hin;have hA:=h.cells.ok.c1;have c0:=h.h0;have hM1:∀w1,aF w1 B.c F A st->aa F w w1->ic w1 B F gt ct A st S aj:=fun w1 hC hu=>h.cB hu hC (fun z hz=>Or.inl hz) rfl rfl;have BN:(x:Int)<(A.cs.length:Int):=ω;have HL:=χ (ψ hl hlt);clear h hl hlt
 go_enter Tryz.func217,Tryz.ntmps217
 go_upto_region 5 with(first
  | ((go_at_call 140;(with_reducible refine(kh).mono ?_));rintro e w1 ⟨rfl,hC,hu1⟩)
  | fail)
 have hM:=hM1 w1 hC hu1;have c1:=hM.h1;have dl:=hM.l x hx.1;have hs1:=hu1.size;have HM:=χ (ψ hM hu1);have hlr:=HL.out.1.root;rw[hlr]at dl;clear hM hM1 hC hu1 kh;go_wp2
 go_loopg [7,8] l.size (fun fu ov zv wr=>∃ (t:BT) (p:Int) (o:List Int) (k:Nat) (ao:Option Addr) (co:Nat),zv=.int .i64 t.root/\ov=.slice ao k co/\bY S p t.root t/\(∀z,z∈t.nodes->z<A.cs.length)/\wr.ownsRow w1.heap.size 3 1 (.slice ao k co) k (aQ o)/\o++dw (bD t)=dw (bD l)/\t.size<=fu/\k+t.size<=65536/\aa [] w1 wr)
 case atStart=>exact⟨l,x,[],0,none,0,rfl,rfl,by rw[←hlr];exact HL.out.1,HL.out.2,⟨rfl,Or.inl ⟨rfl,rfl⟩⟩,rfl,Nat.le_refl _,ω,aa.refl _ _⟩
 case round=>
  rename Nat=>fu;obtain⟨t,p,o,k,ao,co,rfl,rfl,hT,hlt,ho,DN,hfu,hk,hu⟩:=hrel;rename World=>wr;cases t with
  | nil=>
   have hr:(BT.nil.root != (-1:Int))=false:=rfl;have hk2:k=(bD l).length:=by
    have h1:=ho.1;rw[eZ]at h1;have h2:=congrArg List.length DN;simp[dw,bD]at h2;omega
   have hr2:(BT.nil).root=-1:=rfl;rw[hr2]at *;have HO:=χ (ψ ho (ψ DN (ψ hu hk2)));clear ho DN hT hlt;go_wp2;go_ret;obtain⟨ho,DN,hu,hk2⟩:=HO.out;subst hk2;have e:o=dw (bD l):=by simpa[dw,bD]using DN
   rw[e]at ho;exact⟨ao,co,rfl,lh ho hs1,HM.out.1.au hu,HM.out.2.then hu⟩
  | node y a b=>
   have hyl:y<A.cs.length:=hlt y (by simp[BT.nodes]);have hy2:(BT.node y a b).root=(y:Int):=rfl;rw[hy2]at *;have hyb:((y:Int) != -1)=true:=σ;have hyI:(y:Int)<(A.cs.length:Int):=ω;have hMw:=HM.out.1.au hu;have e1:=hMw.h1;have e2:=hMw.r y hyl;rw[hT.2.2.2.root]at e2;have hos:=hu.size;simp only[BT.size]at hfu hk;obtain⟨fv,rfl⟩:∃fv,fu=fv+1:=⟨fu-1,ω⟩;have HO:=χ (ψ hT (ψ hlt (ψ DN hu)));clear hT hlt DN hMw;have hb2:w1.heap.size<=wr.heap.size:=hos;have hnba:B.n0<w1.heap.size/\B.ba<w1.heap.size:=⟨HM.out.1.lt _ (by simp[PB.blk]),HM.out.1.lt _ (by simp[PB.blk])⟩
   go_wp2_with (first|((at_builtin;refine aX rfl _ _ 26 rfl w1.heap.size 3 (.int .i64 0) 1 8 Tryz.underlying26 fF rfl δ _ _ _ rfl (ho) [.int .i64 (y:Int)] rfl (by simp[Value.oneCell']) (by first|rfl|(rw[World.size_alloc];rfl)) μ ω (ω) ?_;intro v2 w2 ho2 hu2 mQ);obtain⟨a2,c2,rfl,hc2⟩:=bq ho2;(have hv2:aa [] w1 w2:=HO.out.2.2.2.own ho (Nat.le_refl _) hu2);(have hn2:B.n0∉(Value.slice ao k co).ownBlock.toList:=fun hm=>by(have h9:=(ho.lt B.n0 (Option.mem_toList.1 hm)).1);omega);(have Kl:B.ba∉(Value.slice ao k co).ownBlock.toList:=fun hm=>by(have h9:=(ho.lt B.ba (Option.mem_toList.1 hm)).1);omega);(have e3:=hu2.kept e1 hn2);(have e4:=hu2.kept e2 Kl))|fail)
   go_roundg fv
   case rel=>
    obtain⟨hT,hlt,DN,hu⟩:=HO.out;refine⟨b,y,o++[(y:Int)],k+1,a2,c2,rfl,rfl,?_,fun z hz=>hlt z (by simp[BT.nodes,hz]),by rw[bM];exact ho2,?_,ω,ω,hv2⟩
    ·have h4:=hT.2.2.2;rw[h4.root]at h4;exact h4
    ·rw[←DN];simp[dw,bD,BT.root]
   all_goals omega
end
end Go.Proofs.YtklibcncmbofpaaGreat
namespace Go.Proofs.YtklibcncmbofpaaGreat
structure VX(A:NS)(S:TS)(l:List BT):Prop where
 ok:∀t,t∈l->bY S (-1) t.root t/\Lone t
 nd:(gQ l).Nodup
 inn:∀z,z∈gQ l->bS A (z:Int)=true
theorem VX.link{A:NS}{S S':TS}{D r:List BT}{a b:BT}(h:VX A S (D++a::b::r))(hT:bY S' (-1) (dD A a b).root (dD A a b))(hs:∀z,z∉a.nodes++b.nodes->S.at S' z):VX A S' (D++dD A a b::r):=by
 have la:=(h.ok a σ).2;have lb:=(h.ok b σ).2;have hp:(gQ (D++dD A a b::r)).Perm (gQ (D++a::b::r)):=by
  rw[gB,gB,bK,bK,bK,←List.append_assoc a.nodes];exact((lX A la lb).append_right _).append_left _
 have hnd:=h.nd;rw[gB,bK,bK]at hnd;rw[θ]at hnd;obtain⟨_,n2,n3⟩:=hnd;rw[←List.append_assoc,θ]at n2;obtain⟨_,_,n4⟩:=n2;refine⟨fun t ht=>?_,hp.nodup_iff.2 h.nd,fun z hz=>h.inn z (hp.mem_iff.1 hz)⟩;rcases τ.1 ht with e|e
 ·have h1:=h.ok t (by simp[e]);refine⟨h1.1.frame (fun z hz=>hs z (fun hm=>?_)),h1.2⟩;refine n3 z (List.mem_flatMap.2 ⟨t,e,hz⟩) z ?_ rfl;rcases τ.1 hm with e2|e2
  ·exact τ.2 (Or.inl e2)
  ·exact τ.2 (Or.inr (τ.2 (Or.inl e2)))
 ·rcases ρ.1 e with e|e
  ·rw[e];exact⟨hT,nL A la lb⟩
  ·have h1:=h.ok t (by simp[e]);exact⟨h1.1.frame (fun z hz=>hs z (fun hm=>n4 z hm z (List.mem_flatMap.2 ⟨t,e,hz⟩) rfl)),h1.2⟩
theorem VX.two{A:NS}{S:TS}{D r:List BT}{a b:BT}(h:VX A S (D++a::b::r)):bY S (-1) a.root a/\bY S (-1) b.root b/\Lone a/\Lone b/\(a.nodes++b.nodes).Nodup/\∀z,z∈a.nodes++b.nodes->bS A (z:Int)=true:=by
 have hnd:=h.nd;rw[gB,bK,bK,θ]at hnd;have n2:=hnd.2.1;rw[←List.append_assoc,θ]at n2;refine⟨(h.ok a σ).1,(h.ok b σ).1,(h.ok a σ).2,(h.ok b σ).2,n2.1,fun z hz=>h.inn z ?_⟩;rw[gB,bK,bK,←List.append_assoc];simp only[τ]at hz⊢;rcases hz with e|e
 ·simp[e]
 ·simp[e]
theorem PM(S:TS)(x:Nat):∀z,(gM S x []).l z=(S.aH x false (-1)).l z/\(gM S x []).r z=(S.aH x false (-1)).r z/\(gM S x []).u z=(S.aH x false (-1)).u z:=fun z=>by
 unfold gM TS.aH;simp
theorem Lg(S:TS)(x k j:Nat)(ks:List Int)(h:ks[j]?=some (k:Int)):∀z,(gM S x (ks.take (j+1))).l z=(((gM S x (ks.take j)).aH k true (-1)).bR k (-1)).l z/\(gM S x (ks.take (j+1))).r z=(((gM S x (ks.take j)).aH k true (-1)).bR k (-1)).r z/\(gM S x (ks.take (j+1))).u z=(((gM S x (ks.take j)).aH k true (-1)).bR k (-1)).u z:=fun z=>by
 have e:ks.take (j+1)=ks.take j++[(k:Int)]:=by rw[List.take_add_one,h];rfl
 rw[e];unfold gM TS.aH TS.bR;have hz:((z:Int)=(k:Int))=(z=k):=propext ⟨fun h=>ω,fun h=>ω⟩;simp only[τ,List.mem_singleton,hz];refine⟨σ,?_,?_⟩
 ·by_cases h1:z=k
  ·simp[h1]
  ·simp[h1]
 ·by_cases h1:z=k
  ·simp[h1]
  ·simp[h1]
theorem NB(A:NS){l:List BT}{j:Nat}(h:2*j+1<l.length):∃a b r,l.drop (2*j)=a::b::r/\l[2*j]?=some a/\l[2*j+1]?=some b/\r=l.drop (2*(j+1))/\(bU A l).take (j+1)=(bU A l).take j++[dD A a b]:=by
 have h1:l.drop (2*j)=l[2*j]::l[2*j+1]::l.drop (2*j+2):=by
  rw[List.drop_eq_getElem_cons ω,List.drop_eq_getElem_cons ω]
 refine⟨l[2*j],l[2*j+1],l.drop (2*j+2),h1,ε _,ε _,by rw[show 2*(j+1)=2*j+2 by omega],?_⟩;have h2:=vF A j l ω;rw[h1]at h2;have hl:((bU A l).take j).length=j:=by rw[List.length_take,su];omega
 have h3:(bU A l)[j]?=some (dD A l[2*j] l[2*j+1]):=by
  rw[h2,List.getElem?_append_right ω,hl,Nat.sub_self];rfl
 rw[List.take_add_one,h3];rfl
theorem O8(A:NS){l:List BT}{j:Nat}(h:2*j+1=l.length):∃a,l.drop (2*j)=[a]/\l[2*j]?=some a/\(bU A l).take (j+1)=(bU A l).take j++[a]/\l.drop (2*(j+1))=[]:=by
 have h1:l.drop (2*j)=[l[2*j]]:=by
  rw[List.drop_eq_getElem_cons ω,List.drop_eq_nil_of_le ω]
 refine⟨l[2*j],h1,ε _,?_,List.drop_eq_nil_of_le ω⟩;have h2:=vF A j l ω;rw[h1]at h2;have hl:((bU A l).take j).length=j:=by rw[List.length_take,su];omega
 have h3:(bU A l)[j]?=some l[2*j]:=by
  rw[h2,List.getElem?_append_right ω,hl,Nat.sub_self];rfl
 rw[List.take_add_one,h3];rfl
theorem SE(A:NS){l:List BT}{j:Nat}(h:l.length<=2*j):(bU A l).take j=bU A l:=List.take_of_length_le (by rw[su];omega)
theorem rest_step(A:NS){l:List BT}{j:Nat}(h:j<l.length):gF A (l.drop j)=dD A l[j] (gF A (l.drop (j+1))):=by
 rw[List.drop_eq_getElem_cons h];rfl
theorem VX.start{A:NS}{S:TS}{x:Nat}{l:BT}(hl:bY S (x:Int) (S.l x) l)(hn:(x::l.nodes).Nodup)(hin:∀z,z∈l.nodes->bS A (z:Int)=true):VX A (gM S x (dw (bD l))) (bD l):=by
 obtain⟨n1,n2⟩:=List.nodup_cons.1 hn;have e:=hl.root;rw[e]at hl;have aa1:∀ (t:BT) u,u∈bD t->Lone u:=by
  intro t
  induction t with
  | nil=>intro u hu;cases hu
  | node y a b _ ih=>
   intro u hu;simp only[bD,ρ]at hu;rcases hu with e|e
   ·subst e;rfl
   ·exact ih u e
 exact⟨fun t ht=>⟨FQ hl n2 n1 (fun z hz=>Iff.rfl) t ht,aa1 l t ht⟩,(jD l).nodup_iff.2 n2,fun z hz=>hin z ((jD l).mem_iff.1 hz)⟩
structure LU(A:NS)(S0 S:TS)(l:BT)(L:List BT):Prop where
 fo:VX A S L
 sub:∀z,z∈gQ L->z∈l.nodes
 fr:∀z,z∉l.nodes->S0.at S z
theorem LU.link{A:NS}{S0 S S':TS}{l:BT}{D r:List BT}{a b:BT}(h:LU A S0 S l (D++a::b::r))(hT:bY S' (-1) (dD A a b).root (dD A a b))(hs:∀z,z∉a.nodes++b.nodes->S.at S' z):LU A S0 S' l (D++dD A a b::r):=by
 have la:=(h.fo.ok a σ).2;have lb:=(h.fo.ok b σ).2;have hp:(gQ (D++dD A a b::r)).Perm (gQ (D++a::b::r)):=by
  rw[gB,gB,bK,bK,bK,←List.append_assoc a.nodes];exact((lX A la lb).append_right _).append_left _
 refine⟨h.fo.link hT hs,fun z hz=>h.sub z (hp.mem_iff.1 hz),fun z hz=>?_⟩;have h1:=h.fr z hz
 have h2:=hs z (fun hm=>hz (h.sub z (by
  rw[gB,bK,bK,←List.append_assoc];simp only[τ]at hm⊢;rcases hm with e|e
  ·simp[e]
  ·simp[e])))
 exact⟨h2.1.trans h1.1,h2.2.1.trans h1.2.1,h2.2.2.trans h1.2.2⟩
theorem LU.start{A:NS}{S:TS}{x:Nat}{l:BT}(hl:bY S (x:Int) (S.l x) l)(hn:(x::l.nodes).Nodup)(hin:∀z,z∈l.nodes->bS A (z:Int)=true):LU A (gM S x (dw (bD l))) (gM S x (dw (bD l))) l (bD l):=
 ⟨VX.start hl hn hin,fun z hz=>(jD l).mem_iff.1 hz,fun z _=>⟨rfl,rfl,rfl⟩⟩
theorem LU.nil{A:NS}{S0 S:TS}{l:BT}{L:List BT}(h:LU A S0 S l L):LU A S0 S l (L++[BT.nil]):=by
 have e:gQ (L++[BT.nil])=gQ L:=by rw[gB];simp[gQ,BT.nodes]
 refine⟨⟨fun t ht=>?_,by rw[e];exact h.fo.nd,by rw[e];exact h.fo.inn⟩,by rw[e];exact h.sub,h.fr⟩;rcases τ.1 ht with e|e
 ·exact h.fo.ok t e
 ·have e2:t=.nil:=by simpa using e
  subst e2;exact⟨rfl,trivial⟩
theorem LU.done{A:NS}{S S':TS}{x:Nat}{l t:BT}(h:LU A (gM S x (dw (bD l))) S' l [t])(hx:x∉l.nodes):bY S' (-1) t.root t/\S'.l x=-1/\S'.r x=S.r x/\S'.u x=S.u x/\∀z,z∉x::l.nodes->S.at S' z:=by
 have h1:=h.fr x hx;have hk:∀z:Nat,z∉l.nodes->(z:Int)∉dw (bD l):=fun z hz hm=>hz (Ls hm);have hs:∀z:Nat,z∉l.nodes->z≠x->S.at (gM S x (dw (bD l))) z:=fun z hz hzx=>TN hzx (hk z hz);refine⟨(h.fo.ok t σ).1,?_,?_,?_,fun z hz=>?_⟩
 ·rw[h1.1];simp[gM]
 ·rw[h1.2.1];simp[gM,hk x hx]
 ·rw[h1.2.2];simp[gM,hk x hx]
 ·simp only[ρ,not_or]at hz;have h2:=h.fr z hz.2;have h3:=hs z hz.2 hz.1;exact⟨h2.1.trans h3.1,h2.2.1.trans h3.2.1,h2.2.2.trans h3.2.2⟩
theorem ow{l:List BT}{j:Nat}{t:BT}(h:l[j]?=some t):(dw l).getD j 0=t.root/\(dw l)[j]?=some t.root:=by
 unfold dw;simp[φ,h]
theorem JB(l:List BT):(dw l).length=l.length:=by unfold dw;simp
theorem vk(a b:List BT):dw (a++b)=dw a++dw b:=by unfold dw;rw[List.map_append]
theorem FO:∀ (t:BT),(bD t).length<=t.nodes.length
 | .nil=>Nat.le_refl _
 | .node x l r=>by
  have:=FO r;simp only[bD,List.length_cons,BT.nodes,υ];omega
theorem Ph(A:NS){tw:List BT}{i:Nat}(h:i<tw.length):tw.take (i+1)=tw.take i++[tw[i]]/\gF A (tw.drop i)=dD A tw[i] (gF A (tw.drop (i+1))):=by
 refine⟨?_,rest_step A h⟩;rw[List.take_add_one,ε h];rfl
end Go.Proofs.YtklibcncmbofpaaGreat
