/-
  Lemmas for RankMerges: PaP, Pa, Pa2, Pa3, Pa8, Pa7, Pa5, PaR, Pa6, Pa4o, Pa4a, Pa4b, Pa4c, Pa4d, Pa4, Pa9, Pa10, PaR2, Pa11, Pa12, PaQ. Conditions: those of each lemma.
-/
import Derived.Deep.LoopGhost
import Derived.Test.YtklibcncmbofpaaGreatB06
set_option linter.all false
set_option maxHeartbeats 8000000
set_option maxRecDepth 10000
namespace Go.Proofs.YtklibcncmbofpaaGreat
def dU (A:NS):BT->Prop
 | .nil=>True
 | .node x l r=>(∀y,y∈l.nodes->eB A x y)/\dU A l/\dU A r
theorem dU.frame {A A':NS}:∀ {t:BT},dU A t->(∀x,x∈t.nodes->A'.c x=A.c x)->dU A' t
 | .nil,_,_=>trivial
 | .node x l r,h,hs=>by
  have hx:=hs x (by simp [BT.nodes]);exact ⟨fun y hy=>(fV hx (hs y (by simp [BT.nodes,hy]))).2 (h.1 y hy),h.2.1.frame (fun y hy=>hs y (by simp [BT.nodes,hy])),h.2.2.frame (fun y hy=>hs y (by simp [BT.nodes,hy]))⟩
abbrev H7:QF:=⟨dU,dU.frame,fun _=>trivial⟩
def Lone:BT->Prop
 | .nil=>True
 | .node _ _ r=>r=.nil
theorem vw {A:NS}:∀ {P:List Fr} {t:BT},dU A (ah P t)->dU A t
 | [],_,h=>h
 | f::P,t,h=>by
  have h1:dU A (aZ f t):=vw (P:=P) h;unfold aZ at h1
  split at h1
  ·exact h1.2.2
  ·exact h1.2.1
theorem T9 {A:NS}:∀ {P:List Fr} {t t':BT},dU A (ah P t)->dU A t'->(∀y,y∈t'.nodes->y∈t.nodes)->dU A (ah P t')
 | [],_,_,_,h,_=>h
 | f::P,t,t',h,h',hs=>by
  have h1:dU A (aZ f t):=vw (P:=P) h;refine T9 (P:=P) h ?_ (fun y hy=>?_)
  ·unfold aZ at h1 ⊢
   split at h1
   ·rename_i e;rw [Δ e];exact ⟨h1.1,h1.2.1,h'⟩
   ·rename_i e;rw [Γ e];exact ⟨fun y hy=>h1.1 y (hs y hy),h',h1.2.2⟩
  ·have hy':=(iq f t').mem_iff.1 hy;refine (iq f t).mem_iff.2 ?_;simp only [ρ,τ] at hy' ⊢;rcases hy' with h|h|h
   ·exact Α h
   ·exact Β (Α (hs y h))
   ·exact Β (Β h)
theorem vJ:∀ {P:List Fr} {f:Fr} {t t':BT},t≠.nil->Lone (ah (f::P) t)->Lone (ah (f::P) t')
 | [],f,t,t',ht,h=>by
  have h1:Lone (aZ f t):=h
  show Lone (aZ f t')
  unfold aZ at h1 ⊢
  split at h1
  ·exact absurd h1 ht
  ·rename_i e;rw [Γ e];exact h1
 | g::P,f,t,t',ht,h=>vJ (P:=P) (f:=g) (t:=aZ f t) (t':=aZ f t') (Pp f t) h
/-! ### two trees become one -/
noncomputable def dm (A:NS) (a b:BT):BT:=
 match a,b with
 | .nil,t=>t
 | t,.nil=>t
 | .node x l _,.node y m _=>if eB A y x then .node y (.node x l m) .nil else .node x (.node y m l) .nil
theorem qD (A:NS) (t:BT):dm A .nil t=t:=by cases t<;>rfl
theorem pg (A:NS) (t:BT):dm A t .nil=t:=by cases t<;>rfl
theorem oV (A:NS) (x y:Nat) (l r m q:BT):dm A (.node x l r) (.node y m q)=if eB A y x then .node y (.node x l m) .nil else .node x (.node y m l) .nil:=rfl
theorem lK (A:NS) {a b:BT} (ha:Lone a) (hb:Lone b):(dm A a b).nodes.Perm (a.nodes++b.nodes):=by
 cases a with
 | nil=>rw [qD];exact ό _
 | node x l r=>
  cases b with
  | nil=>rw [pg];simp [BT.nodes]
  | node y m q=>
   have e1:r=.nil:=ha;have e2:q=.nil:=hb;subst e1 e2;rw [oV]
   split
   ·simp only [BT.nodes,Υ];exact (ϣ (a:=y) (l₁:=x::l.nodes) (l₂:=m.nodes)).symm
   ·simp only [BT.nodes,Υ];refine List.Perm.cons x ?_;exact ((Φ (l₁:=l.nodes) (l₂:=y::m.nodes))).symm
theorem nR (A:NS) {a b:BT} (ha:Lone a) (hb:Lone b):Lone (dm A a b):=by
 cases a with
 | nil=>rw [qD];exact hb
 | node x l r=>
  cases b with
  | nil=>rw [pg];exact ha
  | node y m q=>rw [oV];split<;>rfl
theorem X9 {A:NS} {x:Nat} {l:BT} (h:dU A (.node x l .nil)):∀y,y∈(BT.node x l .nil).nodes->y=x\/eB A x y:=fun y hy=>by
 simp only [BT.nodes,Υ,ρ] at hy;rcases hy with e|e
 ·exact Α e
 ·exact Β (h.1 y e)
theorem qL {A:NS} {a b:BT} (ha:Lone a) (hb:Lone b) (h1:dU A a) (h2:dU A b) (hn:(a.nodes++b.nodes).Nodup):dU A (dm A a b):=by
 cases a with
 | nil=>rw [qD];exact h2
 | node x l r=>
  cases b with
  | nil=>rw [pg];exact h1
  | node y m q=>
   have e1:r=.nil:=ha;have e2:q=.nil:=hb;subst e1 e2;have hxy:x≠y:=fun e=>by
    simp only [BT.nodes,Υ,θ] at hn;exact hn.2.2 x σ y σ e
   rw [oV]
   split
   ·rename_i h
    refine ⟨fun z hz=>?_,⟨h1.1,h1.2.1,h2.2.1⟩,trivial⟩;simp only [BT.nodes,ρ,τ] at hz;rcases hz with e|e|e
    ·rw [e];exact h
    ·exact dE h (h1.1 z e)
    ·exact h2.1 z e
   ·rename_i h
    have h':eB A x y:=(jM hxy).resolve_right h;refine ⟨fun z hz=>?_,⟨h2.1,h2.2.1,h1.2.1⟩,trivial⟩;simp only [BT.nodes,ρ,τ] at hz;rcases hz with e|e|e
    ·rw [e];exact h'
    ·exact dE h' (h2.1 z e)
    ·exact h1.1 z e
def gp (S:TS) (x y:Nat):TS:=⟨fun z=>if z=x then y else S.l z,fun z=>if z=y then S.l x else S.r z,fun z=>if z=y then x else if (z:Int)=S.l x then y else S.u z⟩
theorem Eu {S:TS} {x y z:Nat} (h1:z≠x) (h2:z≠y) (h3:(z:Int)≠S.l x):S.at (gp S x y) z:=by
 unfold gp TS.at;simp [h1,h2,h3]
theorem Am {S:TS} {x y:Nat} {l m:BT} (ha:bS S (-1) x (.node x l .nil)) (hb:bS S (-1) y (.node y m .nil)) (hn:((BT.node x l .nil).nodes++(BT.node y m .nil).nodes).Nodup) :
  bS (gp S x y) (-1) x (.node x (.node y m l) .nil)/\∀z,z∉(BT.node x l .nil).nodes++(BT.node y m .nil).nodes->S.at (gp S x y) z:=by
 simp only [BT.nodes,Υ] at hn ⊢;rw [θ,Ζ,Ζ] at hn;obtain ⟨⟨n1,n2⟩,⟨n3,n4⟩,n5⟩:=hn;obtain ⟨_,a2,a3,a4⟩:=ha;obtain ⟨_,b2,b3,b4⟩:=hb;have hxy:x≠y:=fun e=>n5 x σ y σ e;have hlx:S.l x=l.root:=a3.root;have hlr:∀z:Nat,(z:Int)=S.l x->z∈l.nodes:=fun z hz=>by
  rw [hlx] at hz
  by_cases e:l=.nil
  ·rw [e] at hz;simp [BT.root] at hz
  ·have h1:=bD e;have:l.root.toNat=z:=ω;rw [←this];exact h1.1
 have e0:(gp S x y).l x=y:=by unfold gp;simp
 have e1:(gp S x y).r x=S.r x:=by unfold gp;simp [hxy]
 have e2:(gp S x y).u x=S.u x:=by
  have h3:(x:Int)≠S.l x:=fun e=>n1 (hlr x e);unfold gp;simp [hxy,h3]
 have e3:(gp S x y).l y=S.l y:=by have hyx:¬y=x:=fun e=>hxy e.symm;unfold gp;simp [hyx]
 have e4:(gp S x y).r y=S.l x:=by unfold gp;simp
 have e5:(gp S x y).u y=x:=by unfold gp;simp
 refine ⟨⟨rfl,by rw [e2];exact a2,?_,by rw [e1];exact a4⟩,fun z hz=>?_⟩
 ·rw [e0];refine ⟨rfl,e5,?_,?_⟩
  ·rw [e3];refine b3.frame (fun z hz=>Eu (fun e=>n5 x σ z (by simp [hz]) e.symm) (fun e=>n3 (by rw [←e];exact hz)) (fun e=>n5 z (by simp [hlr z e]) z (by simp [hz]) rfl))
  ·rw [e4];refine a3.LX n2 (fun z hz=>?_) (fun hl=>?_)
   ·have z1:z≠x:=fun e=>n1 (by rw [←e];exact hz);have z2:z≠y:=fun e=>n5 z (by simp [hz]) y σ e;refine ⟨by unfold gp;simp [z1],by unfold gp;simp [z2],fun hr=>?_⟩;have z3:(z:Int)≠S.l x:=fun e=>hr (by rw [←hlx,←e];simp);unfold gp;simp [z2,z3]
   ·have h1:=bD hl;have z2:l.root.toNat≠y:=fun e=>n5 _ (Λ _ h1.1) y σ e
    show (if l.root.toNat=y then (x:Int) else if ((l.root.toNat:Nat):Int)=S.l x then (y:Int) else S.u l.root.toNat)=y
    rw [Γ z2,Δ (by rw [hlx];exact h1.2.symm)]
 ·simp only [τ,ρ,not_or] at hz;exact Eu hz.1.1 hz.2.1 (fun e=>hz.1.2 (hlr z e))
/-! ### a tree comes off -/
def iT (S:TS) (p:Nat) (s:Bool) (x:Nat):TS:=
 ⟨fun z=>if s=false/\z=p then S.r x else S.l z,fun z=>if z=x then -1 else if s=true/\z=p then S.r x else S.r z,fun z=>if z=x then -1 else if (z:Int)=S.r x then p else S.u z⟩
theorem Ep {S:TS} {f:Fr} {P:List Fr} {x:Nat} {l r:BT} (h:bS S (-1) (ah (f::P) (.node x l r)).root (ah (f::P) (.node x l r))) (hn:(ah (f::P) (.node x l r)).nodes.Nodup) :
  bS (iT S f.1 f.2.1 x) (-1) x (.node x l .nil)/\bS (iT S f.1 f.2.1 x) (-1) (ah (f::P) r).root (ah (f::P) r)/\(∀y,y∉(ah (f::P) (.node x l r)).nodes->S.at (iT S f.1 f.2.1 x) y)/\
   S.kid f.2.1 f.1=x/\(f.2.1=true->S.l f.1≠x)/\S.u x=f.1:=by
 obtain ⟨h1,h2⟩:=(cB _ _).1 h;have VM:=(aW (f::P) (.node x l r)).nodup_iff.1 hn;have hmem:∀y,y∈(ah (f::P) (.node x l r)).nodes↔y∈(BT.node x l r).nodes\/y∈bZ (f::P):=fun y=>by rw [(aW (f::P) (.node x l r)).mem_iff,τ]
 rw [θ] at VM;obtain ⟨n1,n2,n3⟩:=VM;obtain ⟨_,g2,g3,g4⟩:=h1;obtain ⟨k1,k2,k3,k4⟩:=h2;simp only [BT.nodes,Ζ,τ,not_or,θ] at n1;obtain ⟨⟨m1,m2⟩,m3,m4,m5⟩:=n1;have hfx:f.1≠x:=fun e=>n3 x (by simp [BT.nodes]) f.1 (by simp [bZ]) e.symm;have hrx:S.r x=r.root:=g4.root;have hrr:∀z:Nat,(z:Int)=S.r x->z∈r.nodes:=fun z hz=>by
  rw [hrx] at hz
  by_cases e:r=.nil
  ·rw [e] at hz;simp [BT.root] at hz
  ·have h1:=bD e;have:r.root.toNat=z:=ω;rw [←this];exact h1.1
 have hat:∀z,z≠f.1->z≠x->(z:Int)≠S.r x->S.at (iT S f.1 f.2.1 x) z:=fun z z1 z2 z3=>by
  unfold iT TS.at;simp [z1,z2,z3]
 have hnot:f.2.1=true->S.l f.1≠x:=fun e hl=>by
  rw [e] at k2;have h4:=k2.root;have h5:f.2.2.root=(x:Int):=by rw [←h4];simpa [TS.kid] using hl
  have h6:f.2.2≠.nil:=fun e=>by rw [e] at h5;simp [BT.root] at h5
  have h7:=(bD h6).1;rw [h5,π] at h7;exact n3 x (by simp [BT.nodes]) x (by simp [bZ,h7]) rfl
 have U3:∀z,z∈bZ (f::P)->z≠x/\(z:Int)≠S.r x:=fun z hz=>⟨fun e=>n3 x (by simp [BT.nodes]) z hz e.symm,fun e=>n3 z (by simp [BT.nodes,hrr z e]) z hz rfl⟩
 refine ⟨⟨rfl,by unfold iT;simp,?_,?_⟩,(cB _ _).2 ⟨?_,?_⟩,fun y hy=>?_,k1,hnot,g2⟩
 ·have e:(iT S f.1 f.2.1 x).l x=S.l x:=by have hyx:¬x=f.1:=fun e=>hfx e.symm;unfold iT;simp [hyx]
  rw [e];refine g3.frame (fun z hz=>hat z (fun e=>n3 z (by simp [BT.nodes,hz]) f.1 (by simp [bZ]) e) (fun e=>m1 (by rw [←e];exact hz)) (fun e=>m5 z hz z (hrr z e) rfl))
 ·show (iT S f.1 f.2.1 x).r x=-1
  unfold iT;simp
 ·rw [←hrx];refine g4.LX m4 (fun z hz=>?_) (fun hr=>?_)
  ·have z1:z≠f.1:=fun e=>n3 z (by simp [BT.nodes,hz]) f.1 (by simp [bZ]) e;have z2:z≠x:=fun e=>m2 (by rw [←e];exact hz);refine ⟨by unfold iT;simp [z1],by unfold iT;simp [z1,z2],fun hr=>?_⟩;have z3:(z:Int)≠S.r x:=fun e=>hr (by rw [←hrx,←e];simp);unfold iT;simp [z2,z3]
  ·have h1:=bD hr;have z2:r.root.toNat≠x:=fun e=>m2 (by rw [←e];exact h1.1)
   show (if r.root.toNat=x then (-1:Int) else if ((r.root.toNat:Nat):Int)=S.r x then (f.1:Int) else S.u r.root.toNat)=f.1
   rw [Γ z2,Δ (by rw [hrx];exact h1.2.symm)]
 ·have hf:=U3 f.1 (by simp [bZ]);refine N7.other (S:=S) (z:=x) ⟨k1,k2,k3,k4⟩ n2 ?_ ?_ ?_ (fun z z1 z2=>hat z z1 (U3 z z2).1 (U3 z z2).2)
  ·unfold TS.kid iT;cases f.2.1<;>simp [hfx,hrx]
  ·unfold TS.kid iT;cases f.2.1<;>simp [hfx]
  ·unfold iT;simp [hf.1,hf.2]
 ·rw [hmem,not_or] at hy;exact hat y (fun e=>hy.2 (by simp [bZ,e])) (fun e=>hy.1 (by simp [BT.nodes,e])) (fun e=>hy.1 (by simp [BT.nodes,hrr y e]))
theorem EW (P:List Fr) (x:Nat) (l r:BT):(ah P (.node x l r)).nodes.Perm ((BT.node x l .nil).nodes++(ah P r).nodes):=by
 refine (aW P _).trans ?_;refine Ϣ ?_ ((aW P r).symm.append_left _);simp [BT.nodes,ϋ]
theorem E5 {A:NS} {P:List Fr} {x:Nat} {l r:BT} (h:dU A (ah P (.node x l r))):dU A (.node x l .nil)/\dU A (ah P r):=by
 have h1:=vw h;exact ⟨⟨h1.1,h1.2.1,trivial⟩,T9 h h1.2.2 (fun y hy=>by simp [BT.nodes,hy])⟩
/-! ### what is below a thing comes off it -/
def bq:BT->List BT
 | .nil=>[]
 | .node x l r=>.node x l .nil::bq r
def eU (l:List BT):List Nat:=l.flatMap BT.nodes
theorem ig:∀ (t:BT),(eU (bq t)).Perm t.nodes
 | .nil=>ό _
 | .node x l r=>by
  unfold eU;simp only [bq,List.flatMap_cons,BT.nodes,Υ,List.cons_append];exact List.Perm.cons x ((ig r).append_left _)
theorem A8 {A:NS}:∀ {t:BT},dU A t->∀u,u∈bq t->dU A u/\Lone u
 | .nil,_,u,hu=>by cases hu
 | .node x l r,h,u,hu=>by
  simp only [bq,ρ] at hu;rcases hu with e|e
  ·subst e;exact ⟨⟨h.1,h.2.1,trivial⟩,rfl⟩
  ·exact A8 h.2.2 u e
def bM (l:List BT):List Int:=l.map BT.root
def eQ (S:TS) (x:Nat) (ks:List Int):TS:=⟨fun z=>if z=x then -1 else S.l z,fun z=>if (z:Int)∈ks then -1 else S.r z,fun z=>if (z:Int)∈ks then -1 else S.u z⟩
theorem Fw {t u:BT} (hu:u∈bq t):u.root.toNat∈u.nodes/\u.root=(u.root.toNat:Int)/\u.root∈bM (bq t):=by
 refine ⟨?_,?_,List.mem_map.2 ⟨u,hu,rfl⟩⟩
 all_goals
  induction t with
  | nil=>cases hu
  | node x l r _ ih=>
   simp only [bq,ρ] at hu;rcases hu with e|e
   ·subst e;simp [BT.root,BT.nodes]
   ·exact ih e
theorem Jn {t:BT} {z:Nat} (h:(z:Int)∈bM (bq t)):z∈t.nodes:=by
 obtain ⟨u,hu,e⟩:=List.mem_map.1 h;have h1:=Fw hu;refine (ig t).mem_iff.1 (List.mem_flatMap.2 ⟨u,hu,?_⟩);rw [←show u.root.toNat=z by omega];exact h1.1
theorem DL {S:TS} {x:Nat} {ks:List Int}:∀ {t:BT} {p:Int},bS S p t.root t->t.nodes.Nodup->x∉t.nodes->(∀z:Nat,z∈t.nodes->((z:Int)∈ks↔(z:Int)∈bM (bq t)))->
  ∀u,u∈bq t->bS (eQ S x ks) (-1) u.root u
 | .nil,_,_,_,_,_,u,hu=>by cases hu
 | .node y l r,p,h,hn,hx,hk,u,hu=>by
  simp only [BT.nodes,ρ,τ,not_or] at hx;simp only [BT.nodes,Ζ,τ,not_or,θ] at hn;obtain ⟨⟨m1,m2⟩,m3,m4,m5⟩:=hn;obtain ⟨_,h2,h3,h4⟩:=h;have hl:∀z:Nat,z∈l.nodes->(z:Int)∉ks:=fun z hz hm=>by
   have:=(hk z (by simp [BT.nodes,hz])).1 hm;simp only [bM,bq,List.map_cons,ρ,BT.root] at this;rcases this with e|e
   ·have:z=y:=ω;exact m1 (by rw [←this];exact hz)
   ·exact m5 z hz z (Jn e) rfl
  simp only [bq,ρ] at hu;rcases hu with e|e
  ·subst e;have hyk:(y:Int)∈ks:=(hk y (by simp [BT.nodes])).2 (by simp [bM,bq,BT.root]);refine ⟨rfl,by simp [eQ,hyk],?_,by simp [eQ,hyk,bS]⟩;have e1:(eQ S x ks).l y=S.l y:=by have hyx:¬y=x:=fun e=>hx.1 e.symm;simp [eQ,hyx]
   rw [e1];exact h3.frame (fun z hz=>⟨by simp [eQ,show z≠x from fun e=>hx.2.1 (by rw [←e];exact hz)],by simp [eQ,hl z hz],by simp [eQ,hl z hz]⟩)
  ·have e4:=h4.root;rw [e4] at h4;refine DL h4 m4 hx.2.2 (fun z hz=>?_) u e;rw [hk z (by simp [BT.nodes,hz])];simp only [bM,bq,List.map_cons,ρ,BT.root];constructor
   ·rintro (e|e)
    ·have:z=y:=ω;exact absurd (by rw [←this];exact hz) m2
    ·exact e
   ·exact Β
theorem MX {S:TS} {x z:Nat} {ks:List Int} (h1:z≠x) (h2:(z:Int)∉ks):S.at (eQ S x ks) z:=by unfold eQ TS.at;simp [h1,h2]
noncomputable def bH (A:NS):List BT->List BT
 | []=>[]
 | [a]=>[a]
 | a::b::l=>dm A a b::bH A l
noncomputable def dZ (A:NS) (l:List BT):BT:=l.foldr (dm A) .nil
theorem bz (t:BT) (l:List BT):eU (t::l)=t.nodes++eU l:=rfl
theorem dW (l m:List BT):eU (l++m)=eU l++eU m:=by unfold eU;rw [List.flatMap_append]
theorem qa (A:NS):∀ (l:List BT),(bH A l).length=(l.length+1) / 2
 | []=>rfl
 | [_]=>by simp [bH]
 | a::b::l=>by
  show (bH A l).length+1=_
  rw [qa A l];simp;omega
theorem AV (A:NS):∀ (l:List BT),(∀t,t∈l->Lone t)->(eU (bH A l)).Perm (eU l)
 | [],_=>ό _
 | [_],_=>ό _
 | a::b::l,h=>by
  show (eU (dm A a b::bH A l)).Perm _
  rw [bz,bz,bz,←ϋ];exact (lK A (h a σ) (h b σ)).append (AV A l (fun t ht=>h t (by simp [ht])))
theorem ve (A:NS):∀ (l:List BT),(∀t,t∈l->Lone t)->(dZ A l).nodes.Perm (eU l)/\Lone (dZ A l)
 | [],_=>⟨ό _,trivial⟩
 | a::l,h=>by
  have ih:=ve A l (fun t ht=>h t (by simp [ht]));exact ⟨(lK A (h a σ) ih.2).trans (ih.1.append_left _),nR A (h a σ) ih.2⟩
theorem sM (A:NS):∀ (k:Nat) (l:List BT),2*k<=l.length->bH A l=(bH A l).take k++bH A (l.drop (2*k))
 | 0,l,_=>σ
 | k+1,[],h=>by simp at h
 | k+1,[_],h=>by simp at h;omega
 | k+1,a::b::l,h=>by
  have h1:=sM A k l (by simp at h;omega)
  show dm A a b::bH A l=_
  rw [show 2*(k+1)=2*k+2 by omega];simp only [bH,List.take_succ_cons,List.cons_append,List.drop_succ_cons];rw [←h1]
end Go.Proofs.YtklibcncmbofpaaGreat
namespace Go.Proofs.YtklibcncmbofpaaGreat
open Go Go.RowKit
structure PB where
 n0:Nat
 c:Nat
 ba:Nat
structure fT (w:World) (B:PB) (F:List Nat) (gt ct:Nat) (A:NS) (st:Nat) (S:TS) (af:List Int):Prop where
 head:aF w B.n0 215 3 (fun j=>[Value.pointer (some ⟨B.c,0,none⟩),.slice (some ⟨B.ba,0,none⟩) A.cs.length A.cs.length,.slice (some ⟨gt,0,none⟩) af.length ct].getD j undef)
 cells:aB w B.c F A st
 ties:aF w B.ba 217 (A.cs.length*3) (bU S)
 jC:IZ w gt ct af
 jk:af.length=A.hs.length
 bA:B.n0∉F/\B.ba∉F/\gt∉F
 sep:B.n0≠B.ba/\B.n0≠gt/\B.ba≠gt
section
variable {w:World} {B:PB} {F:List Nat} {gt ct:Nat} {A:NS} {st:Nat} {S:TS} {af:List Int}
def PB.blk (B:PB) (F:List Nat) (gt:Nat):List Nat:=B.n0::B.ba::gt::F
theorem fT.upd {w':World} {G:List Nat} (h:fT w B F gt ct A st S af) (hu:aa G w w') (hG:∀x,x∈G->x∉B.blk F gt):fT w' B F gt ct A st S af:=by
 have h1:∀x,x∈B.blk F gt->x∉G:=fun x hx hg=>hG x hg hx;exact ⟨h.head.upd hu (h1 _ (by simp [PB.blk])),h.cells.upd hu (fun x hx=>fun hm=>hG x hx (by simp [PB.blk,hm])),h.ties.upd hu (h1 _ (by simp [PB.blk])),h.jC.upd hu (h1 _ (by simp [PB.blk])),h.jk,h.bA,h.sep⟩
theorem fT.ae {w':World} (h:fT w B F gt ct A st S af) (hu:aa [] w w'):fT w' B F gt ct A st S af:=h.upd hu σ
theorem fT.lt (h:fT w B F gt ct A st S af):∀x,x∈B.blk F gt->x<w.heap.size:=by
 intro x hx;have:=h.head.lt;have:=h.ties.lt;have:=h.jC.lt;simp only [PB.blk,ρ] at hx;rcases hx with rfl|rfl|rfl|hx
 ·assumption
 ·assumption
 ·assumption
 ·exact h.cells.lt x hx
theorem fT.cF (h:fT w B F gt ct A st S af):B.c∈F:=h.cells.mem
theorem fT.h0 (h:fT w B F gt ct A st S af):w.cell? ⟨B.n0,0,none⟩=some (.pointer (some ⟨B.c,0,none⟩)):=h.head.cellAt 0 ω rfl
theorem fT.h1 (h:fT w B F gt ct A st S af):w.cell? ⟨B.n0,1,none⟩=some (.slice (some ⟨B.ba,0,none⟩) A.cs.length A.cs.length):=h.head.cellAt 1 ω rfl
theorem fT.h2 (h:fT w B F gt ct A st S af):w.cell? ⟨B.n0,2,none⟩=some (.slice (some ⟨gt,0,none⟩) af.length ct):=h.head.cellAt 2 ω rfl
theorem fT.l (h:fT w B F gt ct A st S af) (x:Nat) (hx:x<A.cs.length):w.cell? ⟨B.ba,x*3,none⟩=some (.int .i64 (S.l x)):=h.ties.cellAt _ ω (nZ S x)
theorem fT.r (h:fT w B F gt ct A st S af) (x:Nat) (hx:x<A.cs.length):w.cell? ⟨B.ba,x*3+1,none⟩=some (.int .i64 (S.r x)):=h.ties.cellAt _ ω (nK S x)
theorem fT.u (h:fT w B F gt ct A st S af) (x:Nat) (hx:x<A.cs.length):w.cell? ⟨B.ba,x*3+2,none⟩=some (.int .i64 (S.u x)):=h.ties.cellAt _ ω (qX S x)
theorem fT.f (h:fT w B F gt ct A st S af) (j:Nat):w.frozen? ⟨B.ba,j,none⟩=false:=h.ties.free j
theorem fT.gY {w':World} {S':TS} (h:fT w B F gt ct A st S af) (hu:aa [B.ba] w w') (hT:aF w' B.ba 217 (A.cs.length*3) (bU S')):fT w' B F gt ct A st S' af:=by
 have s:=h.sep;have f:=h.bA;exact ⟨h.head.upd hu ζ,h.cells.upd hu (fun x hx=>by simp at hx;rw [hx];exact f.2.1),hT,h.jC.upd hu ζ,h.jk,f,s⟩
theorem fT.ext {S':TS} (h:fT w B F gt ct A st S af) (hS:∀x,S'.l x=S.l x/\S'.r x=S.r x/\S'.u x=S.u x):fT w B F gt ct A st S' af:=by
 have e:S'=S:=by
  cases S;cases S';simp only [TS.mk.injEq];exact ⟨funext fun x=>(hS x).1,funext fun x=>(hS x).2.1,funext fun x=>(hS x).2.2⟩
 rw [e];exact h
theorem QY (S:TS) (p:Nat) (v:Int) (j:Nat):(if j=p*3 then Value.int .i64 v else bU S j)=bU (S.aC p false v) j:=by
 unfold bU TS.aC
 by_cases hj2:j=p*3
 ·subst hj2;simp
 ·by_cases h0:j % 3=0
  ·simp [hj2,h0];intro hh;exfalso;omega
  ·simp [hj2,h0]
theorem Q6 (S:TS) (p:Nat) (v:Int) (j:Nat):(if j=p*3+1 then Value.int .i64 v else bU S j)=bU (S.aC p true v) j:=by
 unfold bU TS.aC
 by_cases hj2:j=p*3+1
 ·subst hj2;simp;intro hh;exfalso;omega
 ·by_cases h0:j % 3=1
  ·simp [hj2,h0];intro hh;exfalso;omega
  ·simp [hj2,h0]
theorem R9 (S:TS) (p:Nat) (v:Int) (j:Nat):(if j=p*3+2 then Value.int .i64 v else bU S j)=bU (S.bG p v) j:=by
 unfold bU TS.bG
 by_cases hj2:j=p*3+2
 ·subst hj2;simp;intro hh;exfalso;omega
 ·by_cases h0:j % 3=0
  ·simp [hj2,h0]
  ·by_cases h1:j % 3=1
   ·simp [hj2,h1]
   ·simp [hj2,h0,h1];intro hh;exfalso;omega
theorem fT.FN (h:fT w B F gt ct A st S af) (p:Nat) (v:Int):fT (w.setCell ⟨B.ba,p*3,none⟩ (.int .i64 v)) B F gt ct A st (S.aC p false v) af:=
 h.gY β ((h.ties.set _ _).ext (fun j _=>QY S p v j))
theorem fT.cZ (h:fT w B F gt ct A st S af) (p:Nat) (v:Int):fT (w.setCell ⟨B.ba,p*3+1,none⟩ (.int .i64 v)) B F gt ct A st (S.aC p true v) af:=
 h.gY β ((h.ties.set _ _).ext (fun j _=>Q6 S p v j))
theorem fT.pX (h:fT w B F gt ct A st S af) (p:Nat) (v:Int):fT (w.setCell ⟨B.ba,p*3+2,none⟩ (.int .i64 v)) B F gt ct A st (S.bG p v) af:=
 h.gY β ((h.ties.set _ _).ext (fun j _=>R9 S p v j))
theorem fT.sZ (h:fT w B F gt ct A st S af) (x:Nat) (k:Int):fT (w.setCell ⟨gt,x,none⟩ (.int .i64 k)) B F gt ct A st S (af.set x k):=by
 have s:=h.sep;have f:=h.bA;have hu:aa [gt] w (w.setCell ⟨gt,x,none⟩ (.int .i64 k)):=β;exact ⟨by rw [Ι];exact h.head.upd hu ζ,h.cells.upd hu (fun x hx=>by simp at hx;rw [hx];exact f.2.2),h.ties.upd hu ζ,h.jC.set x k,by rw [Ι];exact h.jk,f,s⟩
theorem fT.fe {w':World} {F':List Nat} {A':NS} {st':Nat} (h:fT w B F gt ct A st S af) (hu:aa F w w') (hC:aB w' B.c F' A' st') (hF:∀x,x∈F'->x∈F\/w.heap.size<=x) (h1:A'.cs.length=A.cs.length) (h2:A'.hs.length=A.hs.length):fT w' B F' gt ct A' st' S af:=by
 have f:=h.bA;have g:=h.lt;have hf:∀x,x<w.heap.size->x∉F->x∉F':=fun x hx hn hm=>by rcases hF x hm with h'|h';exact hn h';omega
 have l0:=g B.n0 (by simp [PB.blk]);have l1:=g B.ba (by simp [PB.blk]);have l4:=g gt (by simp [PB.blk]);exact ⟨by rw [h1];exact h.head.upd hu f.1,hC,by rw [h1];exact h.ties.upd hu f.2.1,h.jC.upd hu f.2.2,by rw [h2];exact h.jk,⟨hf _ l0 f.1,hf _ l1 f.2.1,hf _ l4 f.2.2⟩,h.sep⟩
end
def mH (w:World) (B:PB) (F:List Nat) (gt ct:Nat) (A:NS) (st:Nat) (tr:Nat->BT):Prop:=∃S af,fT w B F gt ct A st S af/\wK H7 A S af tr/\∀h,Lone (tr h)
theorem mH.upd {w w':World} {B:PB} {F G:List Nat} {gt ct st:Nat} {A:NS} {tr:Nat->BT} (h:mH w B F gt ct A st tr) (hu:aa G w w') (hG:∀x,x∈G->x∉B.blk F gt):mH w' B F gt ct A st tr:=by
 obtain ⟨S,af,hM,hI⟩:=h;exact ⟨S,af,hM.upd hu hG,hI⟩
theorem mH.ae {w w':World} {B:PB} {F:List Nat} {gt ct st:Nat} {A:NS} {tr:Nat->BT} (h:mH w B F gt ct A st tr) (hu:aa [] w w'):mH w' B F gt ct A st tr:=h.upd hu σ
section
variable {w:World} {B:PB} {F:List Nat} {gt ct:Nat} {A:NS} {st:Nat} {S:TS} {af:List Int}
theorem zY (S:TS) (x y:Nat) (h:S.l x=-1):∀z,(gp S x y).l z=((((S.aC y true (S.l x)).bG y x).aC x false y)).l z/\(gp S x y).r z=((((S.aC y true (S.l x)).bG y x).aC x false y)).r z/\(gp S x y).u z=((((S.aC y true (S.l x)).bG y x).aC x false y)).u z:=fun z=>by
 unfold gp TS.aC TS.bG;rw [h];refine ⟨σ,σ,?_⟩;have:¬ (z:Int)=-1:=ω;simp [this]
theorem AQ (S:TS) (x y o:Nat) (h:S.l x=o) (hoy:o≠y):∀z,(gp S x y).l z=(((((S.aC y true (S.l x)).bG y x).bG o y).aC x false y)).l z/\(gp S x y).r z=(((((S.aC y true (S.l x)).bG y x).bG o y).aC x false y)).r z/\(gp S x y).u z=(((((S.aC y true (S.l x)).bG y x).bG o y).aC x false y)).u z:=fun z=>by
 unfold gp TS.aC TS.bG;rw [h];refine ⟨σ,σ,?_⟩;simp only [Ϥ,if_false,if_true]
 by_cases h1:z=y
 ·subst h1;rw [Δ rfl,Γ (fun e=>hoy e.symm),Δ rfl]
 ·rw [Γ h1]
  by_cases h2:z=o
  ·subst h2;simp
  ·rw [Γ (show ¬ (z:Int)=(o:Int) by omega),Γ h2,Γ h1]
theorem ug (b:Int) (w:World) (n0:Nat):Calls Tryz.prog 215 #[.pointer (some ⟨n0,0,none⟩),.int .i64 (-1),.int .i64 b] w fun e w'=>e=.returned (.int .i64 b)/\w'=w:=by
 go_enter Tryz.func215,Tryz.ntmps215
 go_wp2;go_ret;exact ⟨rfl,rfl⟩
theorem BF (a:Int) (w:World) (n0:Nat):Calls Tryz.prog 215 #[.pointer (some ⟨n0,0,none⟩),.int .i64 a,.int .i64 (-1)] w fun e w'=>e=.returned (.int .i64 a)/\w'=w:=by
 by_cases h:a=-1
 ·subst h;exact ug (-1) w n0
 ·have hb:(a == -1)=false:=by simpa using h
  go_enter Tryz.func215,Tryz.ntmps215
  go_wp2;go_ret;exact ⟨rfl,rfl⟩
theorem ED (h:fT w B F gt ct A st S af) (x y:Nat) (hx:bP A (x:Int)=true) (hy:bP A (y:Int)=true) (hxy:x≠y) (hkx:S.l x=-1\/(0<=S.l x/\S.l x<A.cs.length)) (hky:S.l y=-1\/(0<=S.l y/\S.l y<A.cs.length)) (hnx:S.l x≠y) (hny:S.l y≠x) :
  Calls Tryz.prog 215 #[.pointer (some ⟨B.n0,0,none⟩),.int .i64 (x:Int),.int .i64 (y:Int)] w fun e w'=>e=.returned (.int .i64 ((if eB A y x then y else x:Nat):Int))/\(∃st',fT w' B F gt ct A st' (if eB A y x then gp S y x else gp S x y) af)/\aa [B.ba,B.c] w w':=by
 have ka:=gP h.cells y x hy hx;have hx2:=(aj _ _).1 hx;have hy2:=(aj _ _).1 hy;have hA:=h.cells.ok.c1;have c0:=h.h0;have hM1:∀w1,aB w1 B.c F A (dG st 1)->aa [B.c] w w1->fT w1 B F gt ct A (dG st 1) S af:=fun w1 hC hu=>h.fe (hu.mono (fun z hz=>by simp at hz;rw [hz];exact h.cF)) hC (fun z hz=>Α hz) rfl rfl;have hb1:((x:Int) == -1)=false:=σ;have hb2:((y:Int) == -1)=false:=σ;have HX:=χ (ψ hM1 h.sep);have DN:(x:Int)<(A.cs.length:Int):=ω;have WE:(y:Int)<(A.cs.length:Int):=ω;clear h hx hy hM1
 by_cases hlt:eB A y x
 ·rw [Ν hlt] at ka;rw [Δ hlt,Δ hlt];clear hlt hkx
  go_enter Tryz.func215,Tryz.ntmps215
  go_upto_region 7 with (first
   | ((go_at_call 174;(with_reducible refine (ka).mono ?_));rintro e w1 ⟨rfl,hC,hu1⟩)
   | fail)
  obtain ⟨hM1,hsep⟩:=HX.out;have hM:=hM1 w1 hC hu1;have c1:=hM.h1;have dl:=hM.l y hy2.1;have dr:=hM.r x hx2.1;have du:=hM.u x hx2.1;have ff:=hM.f;have QH:=ff (x*3+1);have QG:=ff (x*3+2);have Tt:=ff (y*3);have hn1:¬B.n0=B.ba:=hsep.1;have hn2:¬B.ba=B.n0:=fun e=>hsep.1 e.symm;have HM:=χ (ψ hM hu1);have nb1:¬y*3=x*3+1:=ω;have nb2:¬y*3=x*3+2:=ω;have nbl:y*3<A.cs.length*3:=ω;clear hM hu1 hC hM1 hsep ka
  by_cases ho:S.l y=-1
  ·have HO:=χ ho;have he:=zY S y x ho;rw [ho] at dl he;have HE:=χ he;have hlr:((-1:Int) != -1)=false:=σ;clear ho he hky hny
   go_upto_region 8 with (fail)
   go_region_law (fail)
   all_goals
    go_wp2;go_ret;refine ⟨rfl,⟨_,fT.ext ((((HM.out.1.cZ x (-1)).pX x y).FN y x).ae ?_) HE.out⟩,(HM.out.2.mono σ).trans ?_⟩
    ·exact ν
    ·exact β
  ·obtain ⟨o,uz⟩:∃o:Nat,S.l y=o:=⟨(S.l y).toNat,ω⟩;have hol:o<A.cs.length:=ω;have hoy:o≠x:=fun e=>hny (by rw [uz,e]);have he:=AQ S y x o uz hoy;rw [uz] at dl he;have HE:=χ he;have E8:((o:Int) != -1)=true:=σ;have hoI:(o:Int)<(A.cs.length:Int):=ω;have XT:=HM.out.1.u o hol;have RD:=ff (o*3+2);have no1:¬o*3+2=x*3+1:=ω;have no2:¬o*3+2=x*3+2:=ω;have no3:¬y*3=o*3+2:=ω;clear ho he uz hky hny
   go_upto_region 8 with (fail)
   go_region_law (fail)
   all_goals
    go_wp2;go_ret;refine ⟨rfl,⟨_,fT.ext (((((HM.out.1.cZ x (o:Int)).pX x y).pX o x).FN y x).ae ?_) HE.out⟩,(HM.out.2.mono σ).trans ?_⟩
    ·exact ν
    ·exact β
 ·rw [Ξ hlt] at ka;rw [Γ hlt,Γ hlt];clear hlt hky
  go_enter Tryz.func215,Tryz.ntmps215
  go_upto_region 7 with (first
   | ((go_at_call 174;(with_reducible refine (ka).mono ?_));rintro e w1 ⟨rfl,hC,hu1⟩)
   | fail)
  obtain ⟨hM1,hsep⟩:=HX.out;have hM:=hM1 w1 hC hu1;have c1:=hM.h1;have dl:=hM.l x hx2.1;have dr:=hM.r y hy2.1;have du:=hM.u y hy2.1;have ff:=hM.f;have QH:=ff (y*3+1);have QG:=ff (y*3+2);have Tt:=ff (x*3);have hn1:¬B.n0=B.ba:=hsep.1;have hn2:¬B.ba=B.n0:=fun e=>hsep.1 e.symm;have HM:=χ (ψ hM hu1);have nb1:¬x*3=y*3+1:=ω;have nb2:¬x*3=y*3+2:=ω;have nbl:x*3<A.cs.length*3:=ω;clear hM hu1 hC hM1 hsep ka
  by_cases ho:S.l x=-1
  ·have HO:=χ ho;have he:=zY S x y ho;rw [ho] at dl he;have HE:=χ he;have hlr:((-1:Int) != -1)=false:=σ;clear ho he hkx hnx
   go_upto_region 8 with (fail)
   go_region_law (fail)
   all_goals
    go_wp2;go_ret;refine ⟨rfl,⟨_,fT.ext ((((HM.out.1.cZ y (-1)).pX y x).FN x y).ae ?_) HE.out⟩,(HM.out.2.mono σ).trans ?_⟩
    ·exact ν
    ·exact β
  ·obtain ⟨o,uz⟩:∃o:Nat,S.l x=o:=⟨(S.l x).toNat,ω⟩;have hol:o<A.cs.length:=ω;have hoy:o≠y:=fun e=>hnx (by rw [uz,e]);have he:=AQ S x y o uz hoy;rw [uz] at dl he;have HE:=χ he;have E8:((o:Int) != -1)=true:=σ;have hoI:(o:Int)<(A.cs.length:Int):=ω;have XT:=HM.out.1.u o hol;have RD:=ff (o*3+2);have no1:¬o*3+2=y*3+1:=ω;have no2:¬o*3+2=y*3+2:=ω;have no3:¬x*3=o*3+2:=ω;clear ho he uz hkx hnx
   go_upto_region 8 with (fail)
   go_region_law (fail)
   all_goals
    go_wp2;go_ret;refine ⟨rfl,⟨_,fT.ext (((((HM.out.1.cZ y (o:Int)).pX y x).pX o y).FN x y).ae ?_) HE.out⟩,(HM.out.2.mono σ).trans ?_⟩
    ·exact ν
    ·exact β
end
theorem xY {a b:List Nat} (h:(a++b).Nodup):(b++a).Nodup:=(Φ (l₁:=a) (l₂:=b)).nodup_iff.1 h
theorem o9 {S:TS} {p z:Int} {t:BT} {n:Nat} (h:bS S p z t) (hl:∀y,y∈t.nodes->y<n):z=-1\/(0<=z/\z<n):=by
 rw [h.root]
 by_cases e:t=.nil
 ·left;rw [e];rfl
 ·right;have h1:=bD e;have:=hl _ h1.1;omega
section
variable {w:World} {B:PB} {F:List Nat} {gt ct:Nat} {A:NS} {st:Nat} {S:TS} {af:List Int}
theorem wU (h:fT w B F gt ct A st S af) (a b:BT) (ha:bS S (-1) a.root a) (hb:bS S (-1) b.root b) (la:Lone a) (lb:Lone b) (hn:(a.nodes++b.nodes).Nodup) (hin:∀z,z∈a.nodes++b.nodes->bP A (z:Int)=true) :
  Calls Tryz.prog 215 #[.pointer (some ⟨B.n0,0,none⟩),.int .i64 a.root,.int .i64 b.root] w fun e w'=>e=.returned (.int .i64 (dm A a b).root)/\aa [B.ba,B.c] w w'/\∃st' S',fT w' B F gt ct A st' S' af/\bS S' (-1) (dm A a b).root (dm A a b)/\∀z,z∉a.nodes++b.nodes->S.at S' z:=by
 cases a with
 | nil=>
  rw [qD];refine (ug b.root w B.n0).mono ?_;rintro e w' ⟨rfl,rfl⟩;exact ⟨rfl,aa.refl _ _,st,S,h,hb,fun z _=>⟨rfl,rfl,rfl⟩⟩
 | node x l r=>
  cases b with
  | nil=>
   rw [pg];refine (BF (BT.node x l r).root w B.n0).mono ?_;rintro e w' ⟨rfl,rfl⟩;exact ⟨rfl,aa.refl _ _,st,S,h,ha,fun z _=>⟨rfl,rfl,rfl⟩⟩
  | node y m q=>
   have e1:r=.nil:=la;have e2:q=.nil:=lb;subst e1 e2;have hlt:∀z,z∈(BT.node x l .nil).nodes++(BT.node y m .nil).nodes->z<A.cs.length:=fun z hz=>((aj _ _).1 (hin z hz)).1;have hxy:x≠y:=fun e=>by
    rw [θ] at hn;exact hn.2.2 x (by simp [BT.nodes]) y (by simp [BT.nodes]) e
   have hrx:=o9 (n:=A.cs.length) ha.2.2.1 (fun z hz=>hlt z (by simp [BT.nodes,hz]));have Zx:=o9 (n:=A.cs.length) hb.2.2.1 (fun z hz=>hlt z (by simp [BT.nodes,hz]));have hne:∀ {u:Nat} {t t':BT},S.l u=t.root->(∀z,z∈t.nodes->z∉t'.nodes)->∀v,v∈t'.nodes->S.l u≠(v:Int):=fun {u t t'} h1 h2 v hv e=>by
    rw [h1] at e;have h6:t≠.nil:=fun e'=>by rw [e'] at e;simp [BT.root] at e
    have h7:=(bD h6).1;rw [e,π] at h7;exact h2 v h7 hv
   have hnn:=hn;rw [θ] at hnn;have hnx:S.l x≠(y:Int):=hne (t':=.node y m .nil) ha.2.2.1.root (fun z hz hm=>hnn.2.2 z (by simp [BT.nodes,hz]) z hm rfl) y (by simp [BT.nodes]);have hny:S.l y≠(x:Int):=hne (t':=.node x l .nil) hb.2.2.1.root (fun z hz hm=>hnn.2.2 z hm z (by simp [BT.nodes,hz]) rfl) x (by simp [BT.nodes]);refine (ED h x y (hin x (by simp [BT.nodes])) (hin y (by simp [BT.nodes])) hxy hrx Zx hnx hny).mono ?_;rintro e w' ⟨rfl,⟨st',hM⟩,hu⟩;rw [oV]
   by_cases hc:eB A y x
   ·simp only [Δ hc] at hM ⊢;obtain ⟨h1,h2⟩:=Am hb ha (xY hn);exact ⟨rfl,hu,st',_,hM,h1,fun z hz=>h2 z (fun hm=>hz (by rw [τ] at hm ⊢;exact hm.symm))⟩
   ·simp only [Γ hc] at hM ⊢;obtain ⟨h1,h2⟩:=Am ha hb hn;exact ⟨rfl,hu,st',_,hM,h1,h2⟩
end
theorem RS:(Tryz.prog.info? 217).map (fun i=>(i.zero,i.size,i.bytes))=some (some (.agg #[.int .i64 0,.int .i64 0,.int .i64 0]),3,24):=by kernel_rfl
theorem KT (n:Nat):wK H7 (NS.new n) TS.none [-1] (fun _=>.nil):=CB n
theorem LP (n:Nat) (w:World) (h:n<=65536) :
  Calls Tryz.prog 96 #[.int .i64 (n:Int)] w fun e w'=>∃B F gt,e=.returned (.tuple #[.pointer (some ⟨B.n0,0,none⟩),.int .i64 0])/\mH w' B F gt 1 (NS.new n) 0 (fun _=>.nil)/\aa [] w w'/\∀x,x∈B.blk F gt->w.heap.size<=x:=by
 have hcs:(NS.new n).cs.length=n:=by simp [NS.new]
 have HCS:=χ hcs;clear hcs
 go_enter Tryz.func96,Tryz.ntmps96
 go_wp2_with (first
  | ((go_at_call 107;(with_reducible refine (mi n _ h).mono ?_));rintro e w1 ⟨c,F,rfl,hC,hu1,hF⟩)
  | (at_make;refine wpList_make_row rfl _ 213 rfl 217 (.agg #[.int .i64 0,.int .i64 0,.int .i64 0]) 3 24 Tryz.underlying213 RS n rfl ω μ ?_;intro w3 hr3 hu3))
 have l1:=hu1.size;have l3:=hu3.size;have l4:=hr3.lt;have l7:=hC.lt;have lc:=l7 c hC.mem;have e3:((w3.alloc (.cells #[.int .i64 (-1)] 3)).heap.size)=w3.heap.size+1:=by rw [Κ]
 have hv:aa [] w3 (w3.alloc (.cells #[.int .i64 (-1)] 3)):=(aa.refl _ _).alloc _;obtain ⟨W4,Yq⟩:∃W4,W4=(w3.alloc (.cells #[.int .i64 (-1)] 3)).alloc (.cells #[.pointer (some ⟨c,0,none⟩),.slice (some ⟨w1.heap.size,0,none⟩) n n,.slice (some ⟨w3.heap.size,0,none⟩) 1 1] 215):=⟨_,rfl⟩;have hw:aa [] w3 W4:=by rw [Yq];exact hv.alloc _
 have hh:=dC (w3.alloc (.cells #[.int .i64 (-1)] 3)) [.pointer (some ⟨c,0,none⟩),.slice (some ⟨w1.heap.size,0,none⟩) n n,.slice (some ⟨w3.heap.size,0,none⟩) 1 1] 215;rw [e3] at hh;rw [←Yq] at hh;have hi:IZ W4 w3.heap.size 1 [-1]:=by rw [Yq];exact (IZ.lit w3 [-1] σ).upd ((aa.refl [] _).alloc _) σ
 have Ul:aB W4 c F (NS.new n) 0:=(hC.ae hu3).ae hw;have hr4:=hr3.upd hw σ;have u4:aa [] w W4:=(hu1.trans hu3).trans hw;have hF':∀x,x∈F->x<w1.heap.size:=l7;have hnF:∀x,w1.heap.size<=x->x∉F:=fun x hx hm=>by have:=hF' x hm;omega
 have l5:=hw.size;rw [←Yq];clear Yq e3 hv hu3 hr3 hw hC;have H4:=χ (ψ Ul (ψ hi (ψ u4 (ψ hF (ψ hF' hnF)))));clear Ul hi u4 hF hF' hnF hu1 l7;go_wp2
 go_loopw [7,27] (fun v7 i wr=>∃ (k:Nat) (f:Nat->Value),k<=n/\i=.int .i64 k/\aF wr (w3.heap.size+1) 215 3 (fun j=>[Value.pointer (some ⟨c,0,none⟩),.slice (some ⟨w1.heap.size,0,none⟩) n n,.slice (some ⟨w3.heap.size,0,none⟩) 1 1].getD j undef)/\aF wr w1.heap.size 217 (n*3) f/\(∀j,j<k*3->f j=.int .i64 (-1))/\aa [w1.heap.size] W4 wr) (fun _ i _=>n-(intOf i).toNat)
 case atStart=>exact ⟨0,_,ω,rfl,hh.ext (fun j hj=>by (have h3:j<3:=by simpa using hj);rcases (ω:j=0\/j=1\/j=2) with rfl|rfl|rfl<;>rfl),hr4,ω,aa.refl _ _⟩
 case round=>
  obtain ⟨k,f,hk,rfl,hH,hR,hf,hu⟩:=hrel;rename World=>wr
  by_cases hkn:k<n
  ·have c0:=hH.cellAt 1 ω rfl;have d0:=hR.cell (k*3) ω;have d1:=hR.cell (k*3+1) ω;have d2:=hR.cell (k*3+2) ω;have e0:=hR.free (k*3);have e1:=hR.free (k*3+1);have e2:=hR.free (k*3+2);have HF:=χ (ψ hf (ψ hH (ψ hR hu)));have Da:decide ((k:Int)<(n:Int))=true:=ζ;clear hf hH hR hu hh hr4;go_wp2
   go_roundw
   case rel=>
    obtain ⟨hf,hH,hR,hu⟩:=HF.out;refine ⟨k+1,_,ω,by go_num,((hH.far _ _ ζ).far _ _ ζ).far _ _ ζ,((hR.set _ _).set _ _).set _ _,fun j hj=>?_,((hu.setCell (Α σ) _).setCell (Α σ) _).setCell (Α σ) _⟩
    show (if j=k*3+2 then _ else if j=k*3+1 then _ else if j=k*3 then _ else f j)=_
    split
    ·rfl
    ·split
     ·rfl
     ·split
      ·rfl
      ·exact hf j ω
   case measure=>simp [intOf];omega
  ·obtain rfl:k=n:=ω;have Da:decide ((k:Int)<(k:Int))=false:=σ;have HF:=χ (ψ hf (ψ hH (ψ hR hu)));clear hf hH hR hu hh hr4;go_wp2;go_ret2;obtain ⟨hf,hH,hR,hu⟩:=HF.out;obtain ⟨Ul,hi,u4,hF,hF',hnF⟩:=H4.out;have hcs:=HCS.out
   refine ⟨⟨w3.heap.size+1,c,w1.heap.size⟩,F,w3.heap.size,rfl,⟨TS.none,[-1],⟨by rw [hcs];exact hH,Ul.upd hu (fun x hx=>by simp at hx;rw [hx];exact hnF _ (Θ _)),?_,hi.upd hu ζ,rfl,⟨hnF _ (by simp only;omega),hnF _ (by simp only;omega),hnF _ ω⟩,⟨by simp only;omega,by simp only;omega,by simp only;omega⟩⟩,KT _,fun _=>trivial⟩,u4.joined hu (fun x hx=>Β (by simp at hx;omega)),fun x hx=>?_⟩
   ·rw [hcs];exact hR.ext (fun j hj=>by rw [hf j hj];unfold bU TS.none;simp)
   ·simp only [PB.blk,ρ] at hx;rcases hx with rfl|rfl|rfl|hx
    ·omega
    ·omega
    ·omega
    ·exact hF x hx
theorem wK.VL {A:NS} {S:TS} {af:List Int} {tr:Nat->BT} (h:wK H7 A S af tr) (hL:∀h,Lone (tr h)) {g:Nat} (hg:0<dA A g):∃m:Nat,(tr g).root=m/\bu A g=some m:=by
 obtain ⟨x,hx,hi,h0⟩:=dL.1 hg;have hxm:x∈(tr g).nodes:=(h.mem g x).2 ⟨ω,hx,hi⟩;cases ht:tr g with
 | nil=>rw [ht] at hxm;cases hxm
 | node m l r=>
  have hm:=(h.mem g m).1 (by rw [ht];simp [BT.nodes]);have hH:dU A (tr g):=h.heap g;have hl:=hL g;rw [ht] at hH hl;have hr:r=.nil:=hl;subst hr;refine ⟨m,rfl,(dD h0).2 ⟨hm.2.1,hm.2.2,fun y hy hyi=>?_⟩⟩;have hym:=(h.mem g y).2 ⟨ω,hy,hyi⟩;rw [ht] at hym;exact X9 hH y hym
section
variable {w:World} {B:PB} {F:List Nat} {gt ct:Nat} {A:NS} {st:Nat} {tr:Nat->BT}
theorem yY (h:mH w B F gt ct A st tr) (g:Nat) (hn:0<dA A g) :
  Calls Tryz.prog 213 #[.pointer (some ⟨B.n0,0,none⟩),.int .i64 (g:Int)] w fun e w'=>∃m:Nat,bu A g=some m/\(tr g).root=m/\e=.returned (.tuple #[.int .i64 (m:Int),.bool true])/\w'=w:=by
 obtain ⟨S,af,hM,hI,hL⟩:=h;obtain ⟨m,hm,hf⟩:=hI.VL hL hn;obtain ⟨x,hx,hi,h0⟩:=dL.1 hn;have ok:=hM.cells.ok;have hgl:g<A.hs.length:=by have:=(ok.nat x hx).2;omega
 have YV:=ok.h1;have k:=nE hM.cells (g:Int) ω;have hh0:=hM.h0;have h3:=hM.h2;have d:=hM.jC.cell g (by rw [hM.jk];exact hgl);rw [hI.top g hgl,hm] at d;have htl:g<af.length:=by rw [hM.jk];exact hgl
 generalize hl:dA A (g:Int)=n at *;have hb:((n:Int) == 0)=false:=ζ;have HF:=χ (ψ hf hm);clear hM hI hm hf hx hi h0 ok hl
 go_enter Tryz.func213,Tryz.ntmps213
 go_wp2_with (first|(go_at_call 142;(with_reducible refine (k).mono ?_);rintro e w9 ⟨rfl,aO⟩;rw [aO];clear aO w9))
 go_ret2;exact ⟨m,HF.out.1,HF.out.2,rfl,rfl⟩
theorem FO (h:mH w B F gt ct A st tr) (x:Int) (hx:-9223372036854775808<=x/\x<=9223372036854775807) (hn:dA A x=0) :
  Calls Tryz.prog 213 #[.pointer (some ⟨B.n0,0,none⟩),.int .i64 x] w fun e w'=>e=.returned (.tuple #[.int .i64 0,.bool false])/\w'=w:=by
 obtain ⟨S,af,hM, -⟩:=h;have k:=nE hM.cells x hx;rw [hn] at k;have h0:=hM.h0;clear hM hn
 go_enter Tryz.func213,Tryz.ntmps213
 go_wp2_with (first|(go_at_call 142;(with_reducible refine (k).mono ?_);rintro e w9 ⟨rfl,aO⟩;rw [aO];clear aO w9))
 go_ret2;exact ⟨rfl,rfl⟩
theorem Ke (h:mH w B F gt ct A st tr) (hl:65536<A.hs.length) :
  Calls Tryz.prog 211 #[.pointer (some ⟨B.n0,0,none⟩)] w fun e w'=>e=.returned (.int .i64 0)/\Goes (B.blk F gt) w w' (fun F'=>∃F1,F'=B.blk F1 gt/\mH w' B F1 gt ct A st tr):=by
 obtain ⟨S,af,hM,hI⟩:=h;have k:=gL hM.cells;have e1:bR A=0:=by unfold bR;rw [Δ hl]
 have e2:aD A=A:=by unfold aD;rw [Δ hl]
 rw [e1,e2] at k;have h0:=hM.h0;have HM:=χ hM;have HI:=χ hI;clear hM hI e1 e2
 go_enter Tryz.func211,Tryz.ntmps211
 go_wp2_with (first|((go_at_call 156;(with_reducible refine (k).mono ?_));rintro e w1 ⟨rfl,F1,hC,hu,hF⟩))
 go_ret
 exact ⟨rfl,B.blk F1 gt,⟨F1,rfl,S,af,HM.out.fe hu hC hF rfl rfl,HI.out⟩,hu.mono (fun y hy=>by simp [PB.blk,hy]),fun x hx=>by
  simp only [PB.blk,ρ] at hx ⊢;rcases hx with rfl|rfl|rfl|hx
  ·simp
  ·simp
  ·simp
  ·rcases hF x hx with h|h
   ·simp [h]
   ·exact Β h⟩
theorem G8 (h:mH w B F gt ct A st tr) (hl:¬65536<A.hs.length) :
  Calls Tryz.prog 211 #[.pointer (some ⟨B.n0,0,none⟩)] w fun e w'=>e=.returned (.int .i64 (A.hs.length:Int))/\Goes (B.blk F gt) w w' (fun F'=>∃F1 nD Fh,F'=B.blk F1 nD/\mH w' B F1 nD Fh (aD A) st tr):=by
 obtain ⟨S,af,hM,hI,hL⟩:=h;have k:=gL hM.cells;have e1:bR A=A.hs.length:=by unfold bR;rw [Γ hl]
 rw [e1] at k;have hcs:(aD A).cs.length=A.cs.length:=by unfold aD;rw [Γ hl]
 have nC:(aD A).hs.length=A.hs.length+1:=by unfold aD;rw [Γ hl];simp
 have hI2:=hI.make hM.cells.ok hM.jk hl;have h0:=hM.h0;have hh0:=hM.cells.ok.h0;have HTN:=χ hM.jk;have htb:af.length<=65536:=by rw [hM.jk];omega
 have HM:=χ hM;have HI:=χ (ψ hI2 hL);clear hM hI hL e1 hI2
 go_enter Tryz.func211,Tryz.ntmps211
 go_wp2_with (first
  | ((go_at_call 156;(with_reducible refine (k).mono ?_));rintro e w1 ⟨rfl,F1,hC,hu,hF⟩;(have d3:=hu.kept HM.out.h2 HM.out.bA.1);(have f3:=hu.aP HM.out.h2 HM.out.bA.1 (HM.out.head.free 2));(have ho1:=(HM.out.jC.upd hu HM.out.bA.2.2).own);(have g0:B.n0≠gt:=HM.out.sep.2.1);(have gl:=(HM.out.jC.upd hu HM.out.bA.2.2).lt))
  | ((at_builtin;refine ak rfl _ _ 26 rfl 0 3 (.int .i64 0) 1 8 Tryz.underlying26 cO rfl δ _ _ _ rfl (ho1) [.int .i64 (-1)] rfl (by simp [Value.oneCell']) (by first|rfl|(rw [Κ];rfl)) μ ω (ω) ?_;intro v2 w2 ho2 hu2 lq);(have hu2:aa [gt] w1 w2:=hu2);obtain ⟨nD,Fh,ev,hI2, -⟩:=IZ.fE (l:=af++[-1]) (by rw [aT,υ];exact ho2) σ;rw [υ,List.length_singleton] at ev;subst ev;(have d4:=hu2.kept d3 ζ);(have f4:=hu2.aP d3 ζ f3)))
 go_ret;have hM:=HM.out;have hlt:=hM.lt;have f:=hM.bA;have q:=hM.sep;have hw3:aa [B.n0] w2 (w2.setCell ⟨B.n0,2,none⟩ (.slice (some ⟨nD,0,none⟩) (af.length+1) Fh)):=β;have hg1:nD=gt\/w1.heap.size<nD:=by
  rcases lq with h|h
  ·exact Α (Option.some.inj h)
  ·exact Β (h nD rfl)
 have hws:=hu.size;have jH:=hC.lt;have l0:=hlt B.n0 (by simp [PB.blk]);have l1:=hlt B.ba (by simp [PB.blk]);have l4:=hlt gt (by simp [PB.blk]);have hnF:∀y,y<w.heap.size->y∉F->y∉F1:=fun y hy hn hm=>by rcases hF y hm with h'|h';exact hn h';omega
 have wY:nD∉F1:=by
  rcases hg1 with e|e
  ·rw [e];exact hnF gt l4 f.2.2
  ·exact fun hm=>by have:=jH nD hm;omega
 have hb:w.heap.size<=nD\/nD=gt:=ω;have hhd:=((hM.head.upd hu f.1).upd hu2 ζ).set 2 (.slice (some ⟨nD,0,none⟩) (af.length+1) Fh);refine ⟨rfl,B.blk F1 nD,⟨F1,nD,Fh,rfl,S,af++[-1],⟨?_,?_,?_,hI2.upd hw3 ζ,?_,⟨hnF _ l0 f.1,hnF _ l1 f.2.1,wY⟩,⟨q.1,ω,ω⟩⟩,HI.out⟩,?_,fun y hy=>?_⟩
 ·rw [hcs,υ,List.length_singleton];refine hhd.ext (fun j hj=>?_);rcases (ω:j=0\/j=1\/j=2) with rfl|rfl|rfl<;>rfl
 ·exact (hC.upd hu2 (fun y hy=>by simp at hy;rw [hy];exact hnF gt l4 f.2.2)).upd hw3 (fun y hy=>by simp at hy;rw [hy];exact hnF _ l0 f.1)
 ·rw [hcs];exact ((hM.ties.upd hu f.2.1).upd hu2 ζ).upd hw3 ζ
 ·rw [υ,List.length_singleton,nC,HTN.out]
 ·have u1:aa (B.blk F gt) w w1:=hu.mono (fun y hy=>by simp [PB.blk,hy]);exact (u1.trans (hu2.mono (fun y hy=>by simp at hy;simp [PB.blk,hy]))).trans (hw3.mono (fun y hy=>by simp at hy;simp [PB.blk,hy]))
 ·simp only [PB.blk,ρ] at hy ⊢;rcases hy with rfl|rfl|rfl|hy
  ·simp
  ·simp
  ·rcases hb with h|h
   ·exact Β h
   ·exact Α (by simp [h])
  ·rcases hF y hy with h|h
   ·simp [h]
   ·exact Β h
end
section
variable {w:World} {B:PB} {F:List Nat} {gt ct:Nat} {A:NS} {st:Nat} {S:TS} {af:List Int}
theorem Km (h:fT w B F gt ct A st S af) (x:Nat) (hin:bP A (x:Int)=true) (l:BT) (hl:bS S (x:Int) (S.l x) l) (hlt:∀z,z∈l.nodes->z<A.cs.length) (hsz:l.size<=65536) :
  Calls Tryz.prog 217 #[.pointer (some ⟨B.n0,0,none⟩),.int .i64 (x:Int)] w fun e w'=>∃ao co,e=.returned (.slice ao (bq l).length co)/\w'.ownsRow w.heap.size 3 1 (.slice ao (bq l).length co) (bq l).length (aM (bM (bq l)))/\fT w' B F gt ct A st S af/\aa F w w':=by
 have kh:=iK h.cells x hin;have hx:=(aj _ _).1 hin;have hA:=h.cells.ok.c1;have c0:=h.h0;have hM1:∀w1,aB w1 B.c F A st->aa F w w1->fT w1 B F gt ct A st S af:=fun w1 hC hu=>h.fe hu hC (fun z hz=>Α hz) rfl rfl;have DN:(x:Int)<(A.cs.length:Int):=ω;have HL:=χ (ψ hl hlt);clear h hl hlt
 go_enter Tryz.func217,Tryz.ntmps217
 go_upto_region 5 with (first
  | ((go_at_call 140;(with_reducible refine (kh).mono ?_));rintro e w1 ⟨rfl,hC,hu1⟩)
  | fail)
 have hM:=hM1 w1 hC hu1;have c1:=hM.h1;have dl:=hM.l x hx.1;have hs1:=hu1.size;have HM:=χ (ψ hM hu1);have hlr:=HL.out.1.root;rw [hlr] at dl;clear hM hM1 hC hu1 kh;go_wp2
 go_loopg [7,8] l.size (fun fu ov zv wr=>∃ (t:BT) (p:Int) (o:List Int) (k:Nat) (ao:Option Addr) (co:Nat),zv=.int .i64 t.root/\ov=.slice ao k co/\bS S p t.root t/\(∀z,z∈t.nodes->z<A.cs.length)/\wr.ownsRow w1.heap.size 3 1 (.slice ao k co) k (aM o)/\o++bM (bq t)=bM (bq l)/\t.size<=fu/\k+t.size<=65536/\aa [] w1 wr)
 case atStart=>exact ⟨l,x,[],0,none,0,rfl,rfl,by rw [←hlr];exact HL.out.1,HL.out.2,⟨rfl,Α ⟨rfl,rfl⟩⟩,rfl,Θ _,ω,aa.refl _ _⟩
 case round=>
  rename Nat=>fu;obtain ⟨t,p,o,k,ao,co,rfl,rfl,hT,hlt,ho,Bw,hfu,hk,hu⟩:=hrel;rename World=>wr;cases t with
  | nil=>
   have hr:(BT.nil.root != (-1:Int))=false:=rfl;have hk2:k=(bq l).length:=by
    have h1:=ho.1;rw [fB] at h1;have h2:=congrArg List.length Bw;simp [bM,bq] at h2;omega
   have hr2:(BT.nil).root=-1:=rfl;rw [hr2] at *;have HO:=χ (ψ ho (ψ Bw (ψ hu hk2)));clear ho Bw hT hlt;go_wp2;go_ret;obtain ⟨ho,Bw,hu,hk2⟩:=HO.out;subst hk2;have e:o=bM (bq l):=by simpa [bM,bq] using Bw
   rw [e] at ho;exact ⟨ao,co,rfl,iJ ho hs1,HM.out.1.ae hu,HM.out.2.then hu⟩
  | node y a b=>
   have hyl:y<A.cs.length:=hlt y (by simp [BT.nodes]);have hy2:(BT.node y a b).root=(y:Int):=rfl;rw [hy2] at *;have hyb:((y:Int) != -1)=true:=σ;have WE:(y:Int)<(A.cs.length:Int):=ω;have hMw:=HM.out.1.ae hu;have e1:=hMw.h1;have e2:=hMw.r y hyl;rw [hT.2.2.2.root] at e2;have hos:=hu.size;simp only [BT.size] at hfu hk;obtain ⟨fv,rfl⟩:∃fv,fu=fv+1:=⟨fu-1,ω⟩;have HO:=χ (ψ hT (ψ hlt (ψ Bw hu)));clear hT hlt Bw hMw;have hb2:w1.heap.size<=wr.heap.size:=hos;have hnba:B.n0<w1.heap.size/\B.ba<w1.heap.size:=⟨HM.out.1.lt _ (by simp [PB.blk]),HM.out.1.lt _ (by simp [PB.blk])⟩
   go_wp2_with (first|((at_builtin;refine ak rfl _ _ 26 rfl w1.heap.size 3 (.int .i64 0) 1 8 Tryz.underlying26 cO rfl δ _ _ _ rfl (ho) [.int .i64 (y:Int)] rfl (by simp [Value.oneCell']) (by first|rfl|(rw [Κ];rfl)) μ ω (ω) ?_;intro v2 w2 ho2 hu2 lq);obtain ⟨a2,c2,rfl,hc2⟩:=aR ho2;(have hv2:aa [] w1 w2:=HO.out.2.2.2.own ho (Θ _) hu2);(have hn2:B.n0∉(Value.slice ao k co).ownBlock.toList:=fun hm=>by (have h9:=(ho.lt B.n0 (Option.mem_toList.1 hm)).1);omega);(have Jh:B.ba∉(Value.slice ao k co).ownBlock.toList:=fun hm=>by (have h9:=(ho.lt B.ba (Option.mem_toList.1 hm)).1);omega);(have e3:=hu2.kept e1 hn2);(have e4:=hu2.kept e2 Jh))|fail)
   go_roundg fv
   case rel=>
    obtain ⟨hT,hlt,Bw,hu⟩:=HO.out;refine ⟨b,y,o++[(y:Int)],k+1,a2,c2,rfl,rfl,?_,fun z hz=>hlt z (by simp [BT.nodes,hz]),by rw [aT];exact ho2,?_,ω,ω,hv2⟩
    ·have h4:=hT.2.2.2;rw [h4.root] at h4;exact h4
    ·rw [←Bw];simp [bM,bq,BT.root]
   all_goals omega
end
end Go.Proofs.YtklibcncmbofpaaGreat
namespace Go.Proofs.YtklibcncmbofpaaGreat
structure RJ (A:NS) (S:TS) (l:List BT):Prop where
 ok:∀t,t∈l->bS S (-1) t.root t/\Lone t
 nd:(eU l).Nodup
 inn:∀z,z∈eU l->bP A (z:Int)=true
theorem RJ.link {A:NS} {S S':TS} {D r:List BT} {a b:BT} (h:RJ A S (D++a::b::r)) (hT:bS S' (-1) (dm A a b).root (dm A a b)) (hs:∀z,z∉a.nodes++b.nodes->S.at S' z):RJ A S' (D++dm A a b::r):=by
 have la:=(h.ok a σ).2;have lb:=(h.ok b σ).2;have hp:(eU (D++dm A a b::r)).Perm (eU (D++a::b::r)):=by
  rw [dW,dW,bz,bz,bz,←ϋ a.nodes];exact ((lK A la lb).append_right _).append_left _
 have hnd:=h.nd;rw [dW,bz,bz] at hnd;rw [θ] at hnd;obtain ⟨_,n2,n3⟩:=hnd;rw [←ϋ,θ] at n2;obtain ⟨_,_,n4⟩:=n2;refine ⟨fun t ht=>?_,hp.nodup_iff.2 h.nd,fun z hz=>h.inn z (hp.mem_iff.1 hz)⟩;rcases τ.1 ht with e|e
 ·have h1:=h.ok t (by simp [e]);refine ⟨h1.1.frame (fun z hz=>hs z (fun hm=>?_)),h1.2⟩;refine n3 z (List.mem_flatMap.2 ⟨t,e,hz⟩) z ?_ rfl;rcases τ.1 hm with e2|e2
  ·exact τ.2 (Α e2)
  ·exact τ.2 (Β (τ.2 (Α e2)))
 ·rcases ρ.1 e with e|e
  ·rw [e];exact ⟨hT,nR A la lb⟩
  ·have h1:=h.ok t (by simp [e]);exact ⟨h1.1.frame (fun z hz=>hs z (fun hm=>n4 z hm z (List.mem_flatMap.2 ⟨t,e,hz⟩) rfl)),h1.2⟩
theorem RJ.two {A:NS} {S:TS} {D r:List BT} {a b:BT} (h:RJ A S (D++a::b::r)):bS S (-1) a.root a/\bS S (-1) b.root b/\Lone a/\Lone b/\(a.nodes++b.nodes).Nodup/\∀z,z∈a.nodes++b.nodes->bP A (z:Int)=true:=by
 have hnd:=h.nd;rw [dW,bz,bz,θ] at hnd;have n2:=hnd.2.1;rw [←ϋ,θ] at n2;refine ⟨(h.ok a σ).1,(h.ok b σ).1,(h.ok a σ).2,(h.ok b σ).2,n2.1,fun z hz=>h.inn z ?_⟩;rw [dW,bz,bz,←ϋ];simp only [τ] at hz ⊢;rcases hz with e|e
 ·simp [e]
 ·simp [e]
theorem Mt (S:TS) (x:Nat):∀z,(eQ S x []).l z=(S.aC x false (-1)).l z/\(eQ S x []).r z=(S.aC x false (-1)).r z/\(eQ S x []).u z=(S.aC x false (-1)).u z:=fun z=>by
 unfold eQ TS.aC;simp
theorem Gw (S:TS) (x k j:Nat) (ks:List Int) (h:ks[j]?=some (k:Int)):∀z,(eQ S x (ks.take (j+1))).l z=(((eQ S x (ks.take j)).aC k true (-1)).bG k (-1)).l z/\(eQ S x (ks.take (j+1))).r z=(((eQ S x (ks.take j)).aC k true (-1)).bG k (-1)).r z/\(eQ S x (ks.take (j+1))).u z=(((eQ S x (ks.take j)).aC k true (-1)).bG k (-1)).u z:=fun z=>by
 have e:ks.take (j+1)=ks.take j++[(k:Int)]:=by rw [ϐ,h];rfl
 rw [e];unfold eQ TS.aC TS.bG;have hz:((z:Int)=(k:Int))=(z=k):=propext ⟨fun h=>ω,fun h=>ω⟩;simp only [τ,ϔ,hz];refine ⟨σ,?_,?_⟩
 ·by_cases h1:z=k
  ·simp [h1]
  ·simp [h1]
 ·by_cases h1:z=k
  ·simp [h1]
  ·simp [h1]
theorem L8 (A:NS) {l:List BT} {j:Nat} (h:2*j+1<l.length):∃a b r,l.drop (2*j)=a::b::r/\l[2*j]?=some a/\l[2*j+1]?=some b/\r=l.drop (2*(j+1))/\(bH A l).take (j+1)=(bH A l).take j++[dm A a b]:=by
 have h1:l.drop (2*j)=l[2*j]::l[2*j+1]::l.drop (2*j+2):=by
  rw [ϡ ω,ϡ ω]
 refine ⟨l[2*j],l[2*j+1],l.drop (2*j+2),h1,ε _,ε _,by rw [show 2*(j+1)=2*j+2 by omega],?_⟩;have h2:=sM A j l ω;rw [h1] at h2;have hl:((bH A l).take j).length=j:=by rw [ϑ,qa];omega
 have h3:(bH A l)[j]?=some (dm A l[2*j] l[2*j+1]):=by
  rw [h2,ϊ ω,hl,Nat.sub_self];rfl
 rw [ϐ,h3];rfl
theorem LQ (A:NS) {l:List BT} {j:Nat} (h:2*j+1=l.length):∃a,l.drop (2*j)=[a]/\l[2*j]?=some a/\(bH A l).take (j+1)=(bH A l).take j++[a]/\l.drop (2*(j+1))=[]:=by
 have h1:l.drop (2*j)=[l[2*j]]:=by
  rw [ϡ ω,List.drop_eq_nil_of_le ω]
 refine ⟨l[2*j],h1,ε _,?_,List.drop_eq_nil_of_le ω⟩;have h2:=sM A j l ω;rw [h1] at h2;have hl:((bH A l).take j).length=j:=by rw [ϑ,qa];omega
 have h3:(bH A l)[j]?=some l[2*j]:=by
  rw [h2,ϊ ω,hl,Nat.sub_self];rfl
 rw [ϐ,h3];rfl
theorem P5 (A:NS) {l:List BT} {j:Nat} (h:l.length<=2*j):(bH A l).take j=bH A l:=List.take_of_length_le (by rw [qa];omega)
theorem rest_step (A:NS) {l:List BT} {j:Nat} (h:j<l.length):dZ A (l.drop j)=dm A l[j] (dZ A (l.drop (j+1))):=by
 rw [ϡ h];rfl
theorem RJ.start {A:NS} {S:TS} {x:Nat} {l:BT} (hl:bS S (x:Int) (S.l x) l) (hn:(x::l.nodes).Nodup) (hin:∀z,z∈l.nodes->bP A (z:Int)=true):RJ A (eQ S x (bM (bq l))) (bq l):=by
 obtain ⟨n1,n2⟩:=List.nodup_cons.1 hn;have e:=hl.root;rw [e] at hl;have XH:∀ (t:BT) u,u∈bq t->Lone u:=by
  intro t
  induction t with
  | nil=>intro u hu;cases hu
  | node y a b _ ih=>
   intro u hu;simp only [bq,ρ] at hu;rcases hu with e|e
   ·subst e;rfl
   ·exact ih u e
 exact ⟨fun t ht=>⟨DL hl n2 n1 (fun z hz=>Iff.rfl) t ht,XH l t ht⟩,(ig l).nodup_iff.2 n2,fun z hz=>hin z ((ig l).mem_iff.1 hz)⟩
structure IX (A:NS) (S0 S:TS) (l:BT) (L:List BT):Prop where
 fo:RJ A S L
 sub:∀z,z∈eU L->z∈l.nodes
 fr:∀z,z∉l.nodes->S0.at S z
theorem IX.link {A:NS} {S0 S S':TS} {l:BT} {D r:List BT} {a b:BT} (h:IX A S0 S l (D++a::b::r)) (hT:bS S' (-1) (dm A a b).root (dm A a b)) (hs:∀z,z∉a.nodes++b.nodes->S.at S' z):IX A S0 S' l (D++dm A a b::r):=by
 have la:=(h.fo.ok a σ).2;have lb:=(h.fo.ok b σ).2;have hp:(eU (D++dm A a b::r)).Perm (eU (D++a::b::r)):=by
  rw [dW,dW,bz,bz,bz,←ϋ a.nodes];exact ((lK A la lb).append_right _).append_left _
 refine ⟨h.fo.link hT hs,fun z hz=>h.sub z (hp.mem_iff.1 hz),fun z hz=>?_⟩;have h1:=h.fr z hz
 have h2:=hs z (fun hm=>hz (h.sub z (by
  rw [dW,bz,bz,←ϋ];simp only [τ] at hm ⊢;rcases hm with e|e
  ·simp [e]
  ·simp [e])))
 exact ⟨h2.1.trans h1.1,h2.2.1.trans h1.2.1,h2.2.2.trans h1.2.2⟩
theorem IX.start {A:NS} {S:TS} {x:Nat} {l:BT} (hl:bS S (x:Int) (S.l x) l) (hn:(x::l.nodes).Nodup) (hin:∀z,z∈l.nodes->bP A (z:Int)=true):IX A (eQ S x (bM (bq l))) (eQ S x (bM (bq l))) l (bq l):=
 ⟨RJ.start hl hn hin,fun z hz=>(ig l).mem_iff.1 hz,fun z _=>⟨rfl,rfl,rfl⟩⟩
theorem IX.nil {A:NS} {S0 S:TS} {l:BT} {L:List BT} (h:IX A S0 S l L):IX A S0 S l (L++[BT.nil]):=by
 have e:eU (L++[BT.nil])=eU L:=by rw [dW];simp [eU,BT.nodes]
 refine ⟨⟨fun t ht=>?_,by rw [e];exact h.fo.nd,by rw [e];exact h.fo.inn⟩,by rw [e];exact h.sub,h.fr⟩;rcases τ.1 ht with e|e
 ·exact h.fo.ok t e
 ·have e2:t=.nil:=by simpa using e
  subst e2;exact ⟨rfl,trivial⟩
theorem IX.done {A:NS} {S S':TS} {x:Nat} {l t:BT} (h:IX A (eQ S x (bM (bq l))) S' l [t]) (hx:x∉l.nodes):bS S' (-1) t.root t/\S'.l x=-1/\S'.r x=S.r x/\S'.u x=S.u x/\∀z,z∉x::l.nodes->S.at S' z:=by
 have h1:=h.fr x hx;have hk:∀z:Nat,z∉l.nodes->(z:Int)∉bM (bq l):=fun z hz hm=>hz (Jn hm);have hs:∀z:Nat,z∉l.nodes->z≠x->S.at (eQ S x (bM (bq l))) z:=fun z hz hzx=>MX hzx (hk z hz);refine ⟨(h.fo.ok t σ).1,?_,?_,?_,fun z hz=>?_⟩
 ·rw [h1.1];simp [eQ]
 ·rw [h1.2.1];simp [eQ,hk x hx]
 ·rw [h1.2.2];simp [eQ,hk x hx]
 ·simp only [ρ,not_or] at hz;have h2:=h.fr z hz.2;have h3:=hs z hz.2 hz.1;exact ⟨h2.1.trans h3.1,h2.2.1.trans h3.2.1,h2.2.2.trans h3.2.2⟩
theorem lV {l:List BT} {j:Nat} {t:BT} (h:l[j]?=some t):(bM l).getD j 0=t.root/\(bM l)[j]?=some t.root:=by
 unfold bM;simp [φ,h]
theorem FT (l:List BT):(bM l).length=l.length:=by unfold bM;simp
theorem rX (a b:List BT):bM (a++b)=bM a++bM b:=by unfold bM;rw [List.map_append]
theorem Fg:∀ (t:BT),(bq t).length<=t.nodes.length
 | .nil=>Θ _
 | .node x l r=>by
  have:=Fg r;simp only [bq,Ω,BT.nodes,υ];omega
theorem Kw (A:NS) {tw:List BT} {i:Nat} (h:i<tw.length):tw.take (i+1)=tw.take i++[tw[i]]/\dZ A (tw.drop i)=dm A tw[i] (dZ A (tw.drop (i+1))):=by
 refine ⟨?_,rest_step A h⟩;rw [ϐ,ε h];rfl
end Go.Proofs.YtklibcncmbofpaaGreat
namespace Go.Proofs.YtklibcncmbofpaaGreat
open Go Go.RowKit
section
variable {w:World} {B:PB} {F:List Nat} {gt ct:Nat} {A:NS} {st:Nat} {S:TS} {af:List Int}
def Ml (w:World) (base:Nat) (v:Value) (xs:List Int):Prop:=w.ownsRow base 3 1 v xs.length (aM xs)
theorem Ml.cell {W:World} {base:Nat} {a:Option Addr} {n c:Nat} {xs:List Int} (h:W.ownsRow base 3 1 (.slice a n c) n (aM xs)) {j:Nat} {y:Int} (hj:xs[j]?=some y):∃g,a=some ⟨g,0,none⟩/\base<=g/\g<W.heap.size/\∀W',aa [] W W'->W'.cell? ⟨g,j,none⟩=some (.int .i64 y):=by
 have hl:=h.1;rw [fB] at hl;have hjl:j<xs.length:=(List.getElem?_eq_some_iff.1 hj).1;obtain ⟨g,cap,e,hb,_⟩:=dM h ω
 injection e with e1 e2 e3
 subst e1;have hlt:=h.lt g rfl;refine ⟨g,rfl,hb,hlt.2,fun W' hW=>hW.was ?_⟩;rw [h.cellAt j ω,lL hjl,φ,hj];rfl
theorem xS (h:fT w B F gt ct A st S af) (x:Nat) (hin:bP A (x:Int)=true) (l:BT) (hl:bS S (x:Int) (S.l x) l) (hnd:(x::l.nodes).Nodup) (hinl:∀z,z∈l.nodes->bP A (z:Int)=true) (hsz:l.size<=65536) :
    Calls Tryz.prog 216 #[.pointer (some ⟨B.n0,0,none⟩),.int .i64 (x:Int)] w fun e w'=>e=.returned (.int .i64 (dZ A (bH A (bq l))).root)/\aa (B.ba::F) w w'/\∃st' S',fT w' B F gt ct A st' S' af/\bS S' (-1) (dZ A (bH A (bq l))).root (dZ A (bH A (bq l)))/\S'.l x=-1/\S'.r x=S.r x/\S'.u x=S.u x/\∀z,z∉x::l.nodes->S.at S' z:=by
  have hx:=(aj _ _).1 hin;have hA:=h.cells.ok.c1;have hlt:∀z,z∈l.nodes->z<A.cs.length:=fun z hz=>((aj _ _).1 (hinl z hz)).1;have kk:=Km h x hin l hl hlt hsz;have hlen:(bq l).length<=65536:=by have:=Fg l;rw [BT.jT] at this;omega
  have HS:=χ (IX.start hl hnd hinl);have hxl:x∉l.nodes:=(List.nodup_cons.1 hnd).1;have hkr:∀ (j:Nat) (k:BT),(bq l)[j]?=some k->∃y:Nat,k.root=(y:Int)/\y<A.cs.length:=fun j k hk=>by
    have h1:=Fw (Η hk);exact ⟨_,h1.2.1,hlt _ ((ig l).mem_iff.1 (List.mem_flatMap.2 ⟨k,Η hk,h1.1⟩))⟩
  have HK:=χ (ψ hkr (ψ hxl hlen));have hbl:=h.lt;have hn0:B.n0<w.heap.size/\B.ba<w.heap.size/\∀z,z∈F->z<w.heap.size:=⟨hbl _ (by simp [PB.blk]),hbl _ (by simp [PB.blk]),fun z hz=>hbl z (by simp [PB.blk,hz])⟩;clear hlt hl hnd hinl hkr hxl hbl;generalize hks:bq l=ks at *
  go_enter Tryz.func216,Tryz.ntmps216
  go_upto_region 2 with (first
    | ((go_at_call 217;(with_reducible refine (kk).mono ?_));rintro e w1 ⟨ao,co,rfl,ho,hM1,hu1⟩)
    | fail)
  clear h kk;have hs1:=hu1.size;have c1:=hM1.h1;have dl:=hM1.l x hx.1;have ff:=hM1.f (x*3);have DN:(x:Int)<(A.cs.length:Int):=ω;have HO:=χ (ψ ho (ψ hM1 hu1));clear ho hM1 hu1;obtain ⟨hkr,hxl,hlen⟩:=HK.out;clear hkr hxl
  go_upto_region 3 with (fail)
  refine fA (fun W=>fT W B F gt ct A st (S.aC x false (-1)) af/\aa [B.ba] w1 W) ⟨(HO.out.2.1.FN x (-1)).ae (by first|exact ⟨rfl,rfl,rfl,Θ _,fun _ _ _=>rfl⟩|exact ν),β⟩ ?_;rintro W ⟨kW,hu2⟩;have HW:=χ (ψ kW hu2);clear kW hu2 c1 dl ff;go_wp2
  go_loopw [7,24] (fun v7 v24 wr=>∃ (j:Nat),j<=ks.length/\v24=.int .i64 (j:Int)/\fT wr B F gt ct A st (eQ S x ((bM ks).take j)) af/\aa [B.ba] w1 wr) (fun _ v24 _=>ks.length-(intOf v24).toNat)
  case atStart=>exact ⟨0,Nat.zero_le _,rfl,by rw [List.take_zero];exact HW.out.1.ext (Mt S x),HW.out.2⟩
  case round=>
    obtain ⟨j,hj,rfl,hM,hu⟩:=hrel;rename World=>wr
    by_cases hjn:j<ks.length
    · obtain ⟨t,ht⟩:∃t,ks[j]?=some t:=⟨ks[j],ε hjn⟩
      obtain ⟨y,hy,hyl⟩:=HK.out.1 j t ht;have hro:=(lV ht).2;rw [hy] at hro;obtain ⟨g,rfl,hg1,hg2,hgc⟩:=Ml.cell HO.out.1 hro;have hgr:wr.cell? ⟨g,j,none⟩=some (.int .i64 (y:Int)):=hu.kept (hgc w1 (aa.refl _ _)) ζ;have c1:=hM.h1;have dr:=hM.r y hyl;have du:=hM.u y hyl;have QH:=hM.f (y*3+1);have QG:=hM.f (y*3+2);have FD:decide ((j:Int)<(ks.length:Int))=true:=ζ;have WE:(y:Int)<(A.cs.length:Int):=ω;have hn1:¬B.n0=B.ba:=hM.sep.1;have hn2:¬B.ba=B.n0:=fun e=>hM.sep.1 e.symm;have HM:=χ (ψ hM (ψ hu hro));clear hM hu hro hy ht hgc;go_wp2
      go_region_law (fail)
      all_goals
        go_wp2
        go_roundw
        case rel=>
          refine ⟨j+1,ω,by go_num,?_,HM.out.2.1.trans β⟩;exact (((HM.out.1.cZ y (-1)).pX y (-1)).ae (by first|exact ⟨rfl,rfl,rfl,Θ _,fun _ _ _=>rfl⟩|exact ν)).ext (Gw S x y j (bM ks) HM.out.2.2)
        case measure=>simp [intOf];omega
    · obtain rfl:j=ks.length:=ω
      have FD:decide ((ks.length:Int)<(ks.length:Int))=false:=σ;have e:(bM ks).take ks.length=bM ks:=List.take_of_length_le (by rw [FT];exact Θ _);rw [e] at hM;have HM:=χ (ψ hM hu);clear hM hu e;go_wp2;refine fA (fun W=>aa [] wr W) (by first|exact ⟨rfl,rfl,rfl,Θ _,fun _ _ _=>rfl⟩|exact ν) ?_;intro W2 hW2;have uV:=χ (ψ (HM.out.1.ae hW2) (HM.out.2.trans (hW2.mono σ)));have hs2:=uV.out.2.size;clear HM hW2
      go_loopw [8,9] (fun v8 v9 wr=>∃ (j m:Nat) (a2:Option Addr) (c2:Nat) (st':Nat) (S':TS),m=2*j/\j<=(bH A ks).length/\v9=.int .i64 (m:Int)/\v8=.slice a2 j c2/\wr.ownsRow W2.heap.size 3 1 (.slice a2 j c2) j (aM (bM ((bH A ks).take j)))/\fT wr B F gt ct A st' S' af/\IX A (eQ S x (bM ks)) S' l ((bH A ks).take j++ks.drop m)/\aa [B.ba,B.c] W2 wr) (fun _ v9 _=>ks.length+2-(intOf v9).toNat)
      case atStart=>exact ⟨0,0,none,0,st,_,rfl,Nat.zero_le _,rfl,rfl,⟨rfl,Α ⟨rfl,rfl⟩⟩,uV.out.1,by simpa using HS.out,aa.refl _ _⟩
      case round=>
        obtain ⟨j,m,a2,c2,st',S',hm,hj,rfl,rfl,ho2,hM,hF,hu⟩:=hrel;rename World=>wr;have htl:=qa A ks;have hos:=hu.size;have hbl:∀z,z∈B.blk F gt->z<W2.heap.size:=uV.out.1.lt;have hgb:∀g,g∈(Value.slice a2 j c2).ownBlock.toList->W2.heap.size<=g:=fun g hg=>(ho2.lt g (Option.mem_toList.1 hg)).1;have wM:B.ba<W2.heap.size/\B.c<W2.heap.size:=⟨hbl _ (by simp [PB.blk]),hbl _ (by simp [PB.blk,hM.cF])⟩;have HG:=χ (ψ hbl hgb);have hw1:aa [B.ba,B.c] w1 wr:=(uV.out.2.mono σ).trans hu
        by_cases Cu:m<ks.length
        · have hmI:decide ((m:Int)<(ks.length:Int))=true:=ζ
          have hjb:j<=65536:=ω;have hwr:IntKind.i64.wrap ((m:Int)+1)=(m:Int)+1:=Μ _ ω
          by_cases hlast:m+1=ks.length
          · obtain ⟨t,l1,l2,l3,l4⟩:=LQ A (l:=ks) (j:=j) ω
            rw [←hm] at l1 l2;have hro:=(lV l2).2;obtain ⟨g,rfl,hg1,hg2,hgc⟩:=Ml.cell HO.out.1 hro;have hgr:wr.cell? ⟨g,m,none⟩=some (.int .i64 t.root):=hw1.kept (hgc w1 (aa.refl _ _)) (by simp;have:=hn0.2.2 _ hM.cF;omega);have hqI:((m:Int)+1 == (ks.length:Int))=true:=ζ;have HL:=χ (ψ hM (ψ hF (ψ hu (ψ l1 (ψ l3 (ψ l4 (ψ hm htl)))))));clear hM hF hu hw1 l1 l2 l3 l4 hro hgc hm htl hlast hbl hgb wM
            go_wp2_with (first
              | ((at_builtin;refine ak rfl _ _ 26 rfl W2.heap.size 3 (.int .i64 0) 1 8 Tryz.underlying26 cO rfl δ _ _ _ rfl (ho2) [.int .i64 t.root] rfl (by simp [Value.oneCell']) (by first|rfl|(rw [Κ];rfl)) μ ω (ω) ?_;intro v2 w2 ho3 hu3 lq);obtain ⟨a3,c3,rfl,hc3⟩:=aR ho3)
              | fail)
            go_roundw
            case rel=>
              obtain ⟨hM,hF,hu,l1,l3,l4,hm,htl⟩:=HL.out;refine ⟨j+1,m+2,a3,c3,st',S',ω,ω,by go_num,rfl,?_,hM.upd hu3 (fun g hg hb=>by have:=HG.out.1 g hb;have:=HG.out.2 g hg;omega),?_,hu.joined hu3 (fun g hg=>Β (HG.out.2 g hg))⟩
              · rw [l3,rX,aT];exact ho3
              · rw [show m+2=2*(j+1) by omega,l4,l3,Υ,←l1];exact hF
            case measure=>simp [intOf];omega
          · obtain ⟨ta,tb,r,l1,l2,l2b,l3,l4⟩:=L8 A (l:=ks) (j:=j) ω
            rw [←hm] at l1 l2 l2b;have X7:=(lV l2).2;have XA:=(lV l2b).2;obtain ⟨g,rfl,hg1,hg2,hgc⟩:=Ml.cell HO.out.1 X7;obtain ⟨g',e', -, -,X0⟩:=Ml.cell HO.out.1 XA;cases e';have Vh:g∉[B.ba,B.c]:=by simp;have:=hn0.2.2 _ hM.cF;omega
            have hgr:wr.cell? ⟨g,m,none⟩=some (.int .i64 ta.root):=hw1.kept (hgc w1 (aa.refl _ _)) Vh;have hgr':wr.cell? ⟨g,m+1,none⟩=some (.int .i64 tb.root):=hw1.kept (X0 w1 (aa.refl _ _)) Vh;have hqI:((m:Int)+1 == (ks.length:Int))=false:=ζ;have hm1:m+1<ks.length:=ω;have hm1I:(m:Int)+1<(ks.length:Int):=ω;have hm0I:(0:Int)<=(m:Int)+1:=ω;rw [l1] at hF;obtain ⟨t1,t2,t3,t4,t5,t6⟩:=hF.fo.two;have kl:=fun W (hW:aa [] wr W)=>wU (hM.ae hW) ta tb t1 t2 t3 t4 t5 t6;have HL:=χ (ψ hF (ψ hu (ψ l3 (ψ l4 (ψ hm htl)))))
            clear hM hF hu hw1 l1 l2 l2b l3 l4 X7 XA hgc X0 hm htl hlast hbl hgb t1 t2 t3 t4 t5 t6 Vh;have hcb:∀k,(Value.slice a2 j c2).ownBlock=some k->k∉[B.ba,B.c]:=fun k hk=>by have:=HG.out.2 k (Option.mem_toList.2 hk);simp;omega
            have HC:=χ hcb;clear hcb
            go_upto_region 14 with (fail)
            go_region_law (first
              | (go_simp;go_at_call 215;(with_reducible refine (kl _ β).mono ?_);rintro e w3 ⟨rfl,RL,Za,S3,mE,Ba,hf3⟩;(have hu3:aa [B.ba,B.c] wr w3:=aa.trans β RL);(have ho3:=aA ho2 hu3 HC.out);(have hos3:=hu3.size))
              | (refine lg rfl _ _ 26 rfl W2.heap.size 3 (.int .i64 0) 1 8 Tryz.underlying26 cO rfl δ (.slice a2 j c2) j (aM (bM ((bH A ks).take j))) rfl (ho3.alloc _) w3.heap.size [.int .i64 (dm A ta tb).root] rfl rfl (fun i u hi=>lM w3 [.int .i64 (dm A ta tb).root] 3 i u hi) (by simp [Value.oneCell']) μ ω ζ ?_
                 intro v2 w2 UE hu4a hv2;have jN:aa (Value.slice a2 j c2).ownBlock.toList w3 w2:=aa.trans ((aa.refl _ _).alloc _) hu4a
                 obtain ⟨a3,c3,rfl,hc3⟩:=aR UE)
              | fail)
            all_goals
              go_wp2
              go_roundw
              case rel=>
                obtain ⟨hF,hu,l3,l4,hm,htl⟩:=HL.out;refine ⟨j+1,m+2,a3,c3,Za,S3,ω,ω,by go_num,rfl,?_,mE.upd jN (fun g hg hb=>by have:=HG.out.1 g hb;have:=HG.out.2 g hg;omega),?_,(hu.trans hu3).joined jN (fun g hg=>Β (HG.out.2 g hg))⟩
                · rw [l4,rX,aT];exact UE
                · rw [show m+2=2*(j+1) by omega,←l3,l4,ϋ];exact hF.link Ba hf3
              case measure=>simp [intOf];omega
        · have hmI:decide ((m:Int)<(ks.length:Int))=false:=ζ
          have hjl:j=(bH A ks).length:=ω;have hdr:ks.drop m=[]:=List.drop_eq_nil_of_le ω;rw [P5 A ω] at ho2 hF;rw [hdr,Υ] at hF;have htn:(bH A ks).length<=65536:=ω;generalize ZR:bH A ks=tw at *;subst hjl;have hF2:=hF.nil;have HL:=χ (ψ hM (ψ hF2 (ψ hw1 ZR)));have HO2:=χ ho2;clear hM hF hu hw1 hF2 ho2 hdr hm hj htl hbl hgb ZR;go_wp2;refine fA (fun W=>aa [] wr W) (by first|exact ⟨rfl,rfl,rfl,Θ _,fun _ _ _=>rfl⟩|exact ν) ?_;intro W3 hW3;have HW3:=χ hW3;clear hW3
          go_loopw [10,11] (fun v10 v11 wr3=>∃ (i Za:Nat) (S3:TS),i<=tw.length/\v11=.int .i64 ((i:Int)-1)/\v10=.int .i64 (dZ A (tw.drop i)).root/\fT wr3 B F gt ct A Za S3 af/\IX A (eQ S x (bM ks)) S3 l (tw.take i++[dZ A (tw.drop i)])/\aa [B.ba,B.c] W3 wr3) (fun _ v11 _=>((intOf v11)+1).toNat)
          case atStart=>
            have e1:tw.drop tw.length=[]:=List.drop_length;have e2:tw.take tw.length=tw:=List.take_length;refine ⟨tw.length,st',S',Θ _,by go_num,by rw [e1];rfl,HL.out.1.ae HW3.out,?_,aa.refl _ _⟩;rw [e1,e2];exact HL.out.2.1
          case round=>
            obtain ⟨i,Za,S3,hi,hz,rfl,hM,hF,hu⟩:=hrel;rename World=>wr3;cases i with
            | zero=>
              have hz2:((0:Nat):Int)-1=-1:=rfl;rw [hz2] at hz;subst hz;rw [List.drop_zero,List.take_zero,ϟ] at hF;simp only [List.drop_zero];have HR:=χ (ψ hM (ψ hF hu));clear hM hF hu;go_wp2;go_ret;obtain ⟨hM,hF,hu⟩:=HR.out;have ZR:=HL.out.2.2.2;subst ZR;have hc:=hM.cF;have v1:aa [B.ba,B.c] w1 wr3:=(HL.out.2.2.1.trans (HW3.out.mono σ)).trans hu;exact ⟨rfl,(HO.out.2.2.mono (by simp +contextual)).trans (v1.mono (by simp [hc])),Za,S3,hM,(show IX A (eQ S x (bM (bq l))) _ l [dZ A (bH A ks)] by rw [hks];exact hF).done HK.out.2.1⟩
            | succ i0=>
              have hz2:((i0+1:Nat):Int)-1=(i0:Int):=ω;rw [hz2] at hz;subst hz;have hil:i0<tw.length:=ω;obtain ⟨q1,q2⟩:=Kw A hil;have hro:=(lV (ε hil)).2;obtain ⟨g,rfl,hg1,hg2,hgc⟩:=Ml.cell HO2.out hro;have hgr:wr3.cell? ⟨g,i0,none⟩=some (.int .i64 (tw[i0]).root):=hu.kept (hgc W3 HW3.out) ζ;rw [q1,ϋ] at hF;obtain ⟨t1,t2,t3,t4,t5,t6⟩:=hF.fo.two;have kl:=wU hM tw[i0] (dZ A (tw.drop (i0+1))) t1 t2 t3 t4 t5 t6;rw [←q2] at kl;have HR:=χ (ψ hF (ψ hu q2));have Dg:decide ((i0:Int)≥0)=true:=σ;clear hM hF hu hgc hro q1 q2 t1 t2 t3 t4 t5 t6;generalize Bc:tw[i0]=ta at *
              generalize htb:dZ A (tw.drop (i0+1))=tb at *
              go_wp2_with (first
                | (go_at_call 215;(with_reducible refine (kl).mono ?_);rintro e w3 ⟨rfl,hu3,TY,S4,xu,QD,hf4⟩)
                | fail)
              go_roundw
              case rel=>
                obtain ⟨hF,hu,q2⟩:=HR.out;refine ⟨i0,TY,S4,ω,by go_num,rfl,xu,?_,hu.trans hu3⟩;rw [q2] at QD ⊢;exact hF.link QD hf4
              case measure=>first|(simp [intOf];done)|(simp [intOf];omega)
end
theorem DV (S:TS) (p x:Nat) (s:Bool) (hpx:p≠x) (h:S.r x=-1):∀z,(iT S p s x).l z=(((S.aC p s (-1)).aC x true (-1)).bG x (-1)).l z/\(iT S p s x).r z=(((S.aC p s (-1)).aC x true (-1)).bG x (-1)).r z/\(iT S p s x).u z=(((S.aC p s (-1)).aC x true (-1)).bG x (-1)).u z:=fun z=>by
 unfold iT TS.aC TS.bG;rw [h];have:¬ (z:Int)=-1:=ω;cases s<;>simp [this]
theorem El (S:TS) (p x o:Nat) (s:Bool) (hpx:p≠x) (h:S.r x=o):∀z,(iT S p s x).l z=((((S.aC p s o).bG o p).aC x true (-1)).bG x (-1)).l z/\(iT S p s x).r z=((((S.aC p s o).bG o p).aC x true (-1)).bG x (-1)).r z/\(iT S p s x).u z=((((S.aC p s o).bG o p).aC x true (-1)).bG x (-1)).u z:=fun z=>by
 unfold iT TS.aC TS.bG;rw [h];have:((z:Int)=(o:Int))=(z=o):=propext ⟨fun h=>ω,fun h=>ω⟩;simp only [this];cases s<;>simp
section
variable {w:World} {B:PB} {F:List Nat} {gt ct:Nat} {A:NS} {st:Nat} {S:TS} {af:List Int}
theorem Q3 (h:fT w B F gt ct A st S af) (p x:Nat) (hp:p<A.cs.length) (hx:x<A.cs.length) (hpx:p≠x) (hkl:S.l p=x) (hu:S.u x=p) (ho:S.r x=-1) :
  Calls Tryz.prog 214 #[.pointer (some ⟨B.n0,0,none⟩),.int .i64 (x:Int)] w fun e w'=>e=.returned (.tuple #[])/\fT w' B F gt ct A st (iT S p false x) af/\aa [B.ba] w w':=by
 have hA:=h.cells.ok.c1;have c1:=h.h1;have dl:=h.l p hp;have dr:=h.r x hx;have du:=h.u x hx;rw [hu] at du;have ff:=h.f;have QH:=ff (p*3);have QG:=ff (p*3+1);have Tt:=ff (x*3+1);have RD:=ff (x*3+2);have UD:=h.r p hp;have hsep:=h.sep;have hn1:¬B.n0=B.ba:=hsep.1;have hn2:¬B.ba=B.n0:=fun e=>hsep.1 e.symm;have DN:(x:Int)<(A.cs.length:Int):=ω;have X6:(p:Int)<(A.cs.length:Int):=ω;have m1:¬x*3+1=p*3:=ω;have m2:¬x*3+1=p*3+1:=ω;have m3:¬x*3+2=p*3:=ω;have m4:¬x*3+2=p*3+1:=ω;have m5:¬p*3=x*3+1:=ω;have m6:¬p*3=x*3+2:=ω;have m7:¬p*3+1=x*3+1:=ω;have m8:¬p*3+1=x*3+2:=ω;have HM:=χ h;clear h ff hsep
 rw [hkl] at dl;have hq:((x:Int) == (x:Int))=true:=σ;have HE:=χ (DV S p x false hpx ho);rw [ho] at dr;have hlr:((-1:Int) != -1)=false:=σ;have HQ:=χ (show (S.aC p false (-1)).r x=-1/\S.u x=p from ⟨by unfold TS.aC;(have hxp:¬x=p:=fun e=>hpx e.symm);simpa [hxp] using ho,hu⟩);clear ho hu hkl;generalize S.l p=slp at *
 go_enter Tryz.func214,Tryz.ntmps214
 go_upto_region 1 with (fail)
 go_quiet (fail)
 go_upto_region 2 with (fail)
 go_cut [] (fun W=>aa [] (w.setCell ⟨B.ba,p*3,none⟩ (.int .i64 (-1))) W)
 case first=>
  go_region_law (fail)
  all_goals
   go_wp2
   go_meet
   first|exact ⟨rfl,rfl,rfl,Θ _,fun _ _ _=>rfl⟩|exact ν
 case rest=>
  have hW:=hcut;clear hcut;rename World=>W;have kW:=(HM.out.FN p (-1)).ae hW;have e1:=kW.h1;have e2:=kW.r x hx;rw [HQ.out.1] at e2;have e3:=kW.u x hx;rw [Ao,HQ.out.2] at e3;have e6:=kW.f (x*3+1);have e7:=kW.f (x*3+2);have eu:aa [B.ba] w W:=aa.trans β (hW.mono σ);have HW:=χ (ψ kW eu);clear kW hW eu c1 dl dr du QH QG Tt RD UD;go_wp2;go_end0;refine ⟨rfl,fT.ext (((HW.out.1.cZ x (-1)).pX x (-1)).ae ?_) HE.out,HW.out.2.trans ?_⟩
  ·first|exact ⟨rfl,rfl,rfl,Θ _,fun _ _ _=>rfl⟩|exact ν
  ·exact β
end
section
variable {w:World} {B:PB} {F:List Nat} {gt ct:Nat} {A:NS} {st:Nat} {S:TS} {af:List Int}
theorem Sj (h:fT w B F gt ct A st S af) (p x:Nat) (hp:p<A.cs.length) (hx:x<A.cs.length) (hpx:p≠x) (hkl:S.l p=x) (hu:S.u x=p) (o:Nat) (uz:S.r x=o) (hol:o<A.cs.length) (hop:o≠p) (hox:o≠x) :
  Calls Tryz.prog 214 #[.pointer (some ⟨B.n0,0,none⟩),.int .i64 (x:Int)] w fun e w'=>e=.returned (.tuple #[])/\fT w' B F gt ct A st (iT S p false x) af/\aa [B.ba] w w':=by
 have hA:=h.cells.ok.c1;have c1:=h.h1;have dl:=h.l p hp;have dr:=h.r x hx;have du:=h.u x hx;rw [hu] at du;have ff:=h.f;have QH:=ff (p*3);have QG:=ff (p*3+1);have Tt:=ff (x*3+1);have RD:=ff (x*3+2);have UD:=h.r p hp;have hsep:=h.sep;have hn1:¬B.n0=B.ba:=hsep.1;have hn2:¬B.ba=B.n0:=fun e=>hsep.1 e.symm;have DN:(x:Int)<(A.cs.length:Int):=ω;have X6:(p:Int)<(A.cs.length:Int):=ω;have m1:¬x*3+1=p*3:=ω;have m2:¬x*3+1=p*3+1:=ω;have m3:¬x*3+2=p*3:=ω;have m4:¬x*3+2=p*3+1:=ω;have m5:¬p*3=x*3+1:=ω;have m6:¬p*3=x*3+2:=ω;have m7:¬p*3+1=x*3+1:=ω;have m8:¬p*3+1=x*3+2:=ω;have HM:=χ h;clear h ff hsep
 rw [hkl] at dl;have hq:((x:Int) == (x:Int))=true:=σ;have HE:=χ (El S p x o false hpx uz);rw [uz] at dr;have E8:((o:Int) != -1)=true:=σ;have hoI:(o:Int)<(A.cs.length:Int):=ω;have XT:=HM.out.u o hol;have ff5:=HM.out.f (o*3+2);have k1:¬o*3+2=p*3:=ω;have k2:¬o*3+2=p*3+1:=ω;have k3:¬x*3+1=o*3+2:=ω;have k4:¬x*3+2=o*3+2:=ω;have k5:¬o*3+2=x*3+1:=ω;have k6:¬o*3+2=x*3+2:=ω;have HQ:=χ (show (S.aC p false (o:Int)).r x=o/\S.u x=p from ⟨by unfold TS.aC;(have hxp:¬x=p:=fun e=>hpx e.symm);simpa [hxp] using uz,hu⟩);clear uz hu hkl;generalize S.l p=slp at *
 go_enter Tryz.func214,Tryz.ntmps214
 go_upto_region 1 with (fail)
 go_quiet (fail)
 go_upto_region 2 with (fail)
 go_cut [] (fun W=>aa [] (w.setCell ⟨B.ba,p*3,none⟩ (.int .i64 (o:Int))) W)
 case first=>
  go_region_law (fail)
  all_goals
   go_wp2
   go_meet
   first|exact ⟨rfl,rfl,rfl,Θ _,fun _ _ _=>rfl⟩|exact ν
 case rest=>
  have hW:=hcut;clear hcut;rename World=>W;have kW:=(HM.out.FN p (o:Int)).ae hW;have e1:=kW.h1;have e2:=kW.r x hx;rw [HQ.out.1] at e2;have e3:=kW.u x hx;rw [Ao,HQ.out.2] at e3;have e4:=kW.u o hol;have e5:=kW.f (o*3+2);have e6:=kW.f (x*3+1);have e7:=kW.f (x*3+2);have eu:aa [B.ba] w W:=aa.trans β (hW.mono σ);have HW:=χ (ψ kW eu);clear kW hW eu c1 dl dr du QH QG Tt RD ff5 UD XT
  go_upto_region 5 with (fail)
  go_region_law (fail)
  all_goals
   go_wp2;go_end0;refine ⟨rfl,fT.ext ((((HW.out.1.pX o p).cZ x (-1)).pX x (-1)).ae ?_) HE.out,HW.out.2.trans ?_⟩
   ·first|exact ⟨rfl,rfl,rfl,Θ _,fun _ _ _=>rfl⟩|exact ν
   ·exact β
end
section
variable {w:World} {B:PB} {F:List Nat} {gt ct:Nat} {A:NS} {st:Nat} {S:TS} {af:List Int}
theorem QW (h:fT w B F gt ct A st S af) (p x:Nat) (hp:p<A.cs.length) (hx:x<A.cs.length) (hpx:p≠x) (hkr:S.r p=x) (hkl:S.l p≠x) (hu:S.u x=p) (ho:S.r x=-1) :
  Calls Tryz.prog 214 #[.pointer (some ⟨B.n0,0,none⟩),.int .i64 (x:Int)] w fun e w'=>e=.returned (.tuple #[])/\fT w' B F gt ct A st (iT S p true x) af/\aa [B.ba] w w':=by
 have hA:=h.cells.ok.c1;have c1:=h.h1;have dl:=h.l p hp;have dr:=h.r x hx;have du:=h.u x hx;rw [hu] at du;have ff:=h.f;have QH:=ff (p*3);have QG:=ff (p*3+1);have Tt:=ff (x*3+1);have RD:=ff (x*3+2);have UD:=h.r p hp;have hsep:=h.sep;have hn1:¬B.n0=B.ba:=hsep.1;have hn2:¬B.ba=B.n0:=fun e=>hsep.1 e.symm;have DN:(x:Int)<(A.cs.length:Int):=ω;have X6:(p:Int)<(A.cs.length:Int):=ω;have m1:¬x*3+1=p*3:=ω;have m2:¬x*3+1=p*3+1:=ω;have m3:¬x*3+2=p*3:=ω;have m4:¬x*3+2=p*3+1:=ω;have m5:¬p*3=x*3+1:=ω;have m6:¬p*3=x*3+2:=ω;have m7:¬p*3+1=x*3+1:=ω;have m8:¬p*3+1=x*3+2:=ω;have HM:=χ h;clear h ff hsep
 have hq:(S.l p == (x:Int))=false:=by simpa using hkl
 have HE:=χ (DV S p x true hpx ho);rw [ho] at dr;have hlr:((-1:Int) != -1)=false:=σ;have HQ:=χ (show (S.aC p true (-1)).r x=-1/\S.u x=p from ⟨by unfold TS.aC;(have hxp:¬x=p:=fun e=>hpx e.symm);simpa [hxp] using ho,hu⟩);clear ho hu hkl hkr;generalize S.l p=slp at *
 go_enter Tryz.func214,Tryz.ntmps214
 go_upto_region 1 with (fail)
 go_quiet (fail)
 go_upto_region 3 with (fail)
 go_cut [] (fun W=>aa [] (w.setCell ⟨B.ba,p*3+1,none⟩ (.int .i64 (-1))) W)
 case first=>
  go_region_law (fail)
  all_goals
   go_wp2
   go_meet
   first|exact ⟨rfl,rfl,rfl,Θ _,fun _ _ _=>rfl⟩|exact ν
 case rest=>
  have hW:=hcut;clear hcut;rename World=>W;have kW:=(HM.out.cZ p (-1)).ae hW;have e1:=kW.h1;have e2:=kW.r x hx;rw [HQ.out.1] at e2;have e3:=kW.u x hx;rw [Ao,HQ.out.2] at e3;have e6:=kW.f (x*3+1);have e7:=kW.f (x*3+2);have eu:aa [B.ba] w W:=aa.trans β (hW.mono σ);have HW:=χ (ψ kW eu);clear kW hW eu c1 dl dr du QH QG Tt RD UD;go_wp2;go_end0;refine ⟨rfl,fT.ext (((HW.out.1.cZ x (-1)).pX x (-1)).ae ?_) HE.out,HW.out.2.trans ?_⟩
  ·first|exact ⟨rfl,rfl,rfl,Θ _,fun _ _ _=>rfl⟩|exact ν
  ·exact β
end
section
variable {w:World} {B:PB} {F:List Nat} {gt ct:Nat} {A:NS} {st:Nat} {S:TS} {af:List Int}
theorem QQ (h:fT w B F gt ct A st S af) (p x:Nat) (hp:p<A.cs.length) (hx:x<A.cs.length) (hpx:p≠x) (hkr:S.r p=x) (hkl:S.l p≠x) (hu:S.u x=p) (o:Nat) (uz:S.r x=o) (hol:o<A.cs.length) (hop:o≠p) (hox:o≠x) :
  Calls Tryz.prog 214 #[.pointer (some ⟨B.n0,0,none⟩),.int .i64 (x:Int)] w fun e w'=>e=.returned (.tuple #[])/\fT w' B F gt ct A st (iT S p true x) af/\aa [B.ba] w w':=by
 have hA:=h.cells.ok.c1;have c1:=h.h1;have dl:=h.l p hp;have dr:=h.r x hx;have du:=h.u x hx;rw [hu] at du;have ff:=h.f;have QH:=ff (p*3);have QG:=ff (p*3+1);have Tt:=ff (x*3+1);have RD:=ff (x*3+2);have UD:=h.r p hp;have hsep:=h.sep;have hn1:¬B.n0=B.ba:=hsep.1;have hn2:¬B.ba=B.n0:=fun e=>hsep.1 e.symm;have DN:(x:Int)<(A.cs.length:Int):=ω;have X6:(p:Int)<(A.cs.length:Int):=ω;have m1:¬x*3+1=p*3:=ω;have m2:¬x*3+1=p*3+1:=ω;have m3:¬x*3+2=p*3:=ω;have m4:¬x*3+2=p*3+1:=ω;have m5:¬p*3=x*3+1:=ω;have m6:¬p*3=x*3+2:=ω;have m7:¬p*3+1=x*3+1:=ω;have m8:¬p*3+1=x*3+2:=ω;have HM:=χ h;clear h ff hsep
 have hq:(S.l p == (x:Int))=false:=by simpa using hkl
 have HE:=χ (El S p x o true hpx uz);rw [uz] at dr;have E8:((o:Int) != -1)=true:=σ;have hoI:(o:Int)<(A.cs.length:Int):=ω;have XT:=HM.out.u o hol;have ff5:=HM.out.f (o*3+2);have k1:¬o*3+2=p*3:=ω;have k2:¬o*3+2=p*3+1:=ω;have k3:¬x*3+1=o*3+2:=ω;have k4:¬x*3+2=o*3+2:=ω;have k5:¬o*3+2=x*3+1:=ω;have k6:¬o*3+2=x*3+2:=ω;have HQ:=χ (show (S.aC p true (o:Int)).r x=o/\S.u x=p from ⟨by unfold TS.aC;(have hxp:¬x=p:=fun e=>hpx e.symm);simpa [hxp] using uz,hu⟩);clear uz hu hkl hkr;generalize S.l p=slp at *
 go_enter Tryz.func214,Tryz.ntmps214
 go_upto_region 1 with (fail)
 go_quiet (fail)
 go_upto_region 3 with (fail)
 go_cut [] (fun W=>aa [] (w.setCell ⟨B.ba,p*3+1,none⟩ (.int .i64 (o:Int))) W)
 case first=>
  go_region_law (fail)
  all_goals
   go_wp2
   go_meet
   first|exact ⟨rfl,rfl,rfl,Θ _,fun _ _ _=>rfl⟩|exact ν
 case rest=>
  have hW:=hcut;clear hcut;rename World=>W;have kW:=(HM.out.cZ p (o:Int)).ae hW;have e1:=kW.h1;have e2:=kW.r x hx;rw [HQ.out.1] at e2;have e3:=kW.u x hx;rw [Ao,HQ.out.2] at e3;have e4:=kW.u o hol;have e5:=kW.f (o*3+2);have e6:=kW.f (x*3+1);have e7:=kW.f (x*3+2);have eu:aa [B.ba] w W:=aa.trans β (hW.mono σ);have HW:=χ (ψ kW eu);clear kW hW eu c1 dl dr du QH QG Tt RD ff5 UD XT
  go_upto_region 5 with (fail)
  go_region_law (fail)
  all_goals
   go_wp2;go_end0;refine ⟨rfl,fT.ext ((((HW.out.1.pX o p).cZ x (-1)).pX x (-1)).ae ?_) HE.out,HW.out.2.trans ?_⟩
   ·first|exact ⟨rfl,rfl,rfl,Θ _,fun _ _ _=>rfl⟩|exact ν
   ·exact β
end
section
variable {w:World} {B:PB} {F:List Nat} {gt ct:Nat} {A:NS} {st:Nat} {S:TS} {af:List Int}
theorem LC (h:fT w B F gt ct A st S af) (p x:Nat) (s:Bool) (hp:p<A.cs.length) (hx:x<A.cs.length) (hpx:p≠x) (hk:S.kid s p=x) (hs:s=true->S.l p≠x) (hu:S.u x=p) (hr:S.r x=-1\/(0<=S.r x/\S.r x<A.cs.length)) (hrp:S.r x≠p) (hrx:S.r x≠x) :
  Calls Tryz.prog 214 #[.pointer (some ⟨B.n0,0,none⟩),.int .i64 (x:Int)] w fun e w'=>e=.returned (.tuple #[])/\fT w' B F gt ct A st (iT S p s x) af/\aa [B.ba] w w':=by
 cases s with
 | false=>
  by_cases ho:S.r x=-1
  ·exact Q3 h p x hp hx hpx hk hu ho
  ·obtain ⟨o,uz⟩:∃o:Nat,S.r x=o:=⟨(S.r x).toNat,ω⟩;exact Sj h p x hp hx hpx hk hu o uz ω (fun e=>hrp (by rw [uz,e])) (fun e=>hrx (by rw [uz,e]))
 | true=>
  by_cases ho:S.r x=-1
  ·exact QW h p x hp hx hpx hk (hs rfl) hu ho
  ·obtain ⟨o,uz⟩:∃o:Nat,S.r x=o:=⟨(S.r x).toNat,ω⟩;exact QQ h p x hp hx hpx hk (hs rfl) hu o uz ω (fun e=>hrp (by rw [uz,e])) (fun e=>hrx (by rw [uz,e]))
end
section
variable {w:World} {B:PB} {F:List Nat} {gt ct:Nat} {A:NS} {st:Nat} {tr:Nat->BT}
theorem fT.sepc {S:TS} {af:List Int} (h:fT w B F gt ct A st S af):B.n0∉[B.ba,B.c,gt]/\gt∉[B.ba,B.c]:=by
 have a1:=h.sep;have a2:B.n0≠B.c:=fun e=>h.bA.1 (by rw [e];exact h.cF);have a3:gt≠B.c:=fun e=>h.bA.2.2 (by rw [e];exact h.cF);constructor<;>simp<;>omega
theorem CP (h:mH w B F gt ct A st tr) (hh x:Nat) (k s:Int) (hk:-9223372036854775808<=k/\k<=9223372036854775807/\0<=s/\s<=18446744073709551615) (hB:iX A hh x=true) :
  Calls Tryz.prog 210 #[.pointer (some ⟨B.n0,0,none⟩),.int .i64 (hh:Int),.int .i64 (x:Int),.agg #[.int .i64 k,.int .u64 s]] w fun e w'=>e=.returned (.bool true)/\aa (B.blk F gt) w w'/\
   ∃st',mH w' B F gt ct (au A hh x k s) st' (fun q=>if q=hh then dm (au A hh x k s) (tr hh) (single x) else tr q):=by
 obtain ⟨S,af,hM,hI,hL⟩:=h;have hlt:=hM.lt;have ok:=hM.cells.ok;have ok':=qR ok hh x k s hk;obtain ⟨b1,b2,b3⟩:=(bV _ _ _).1 hB;have b4:=(aK _ _).1 b1;have hx:x<A.cs.length:=by have:=(dB _ _).1 b2;omega
 have MN:(A.c x).i=0:=by
  have:=(ok.nat x hx).1;have h3:¬ (0<(A.c x).i):=fun h'=>by rw [(aj A x).2 ⟨hx,h'⟩] at b3;cases b3
  omega
 have hcs:(au A hh x k s).cs.length=A.cs.length:=by unfold au;rw [Δ hB,dK]
 have nC:(au A hh x k s).hs.length=A.hs.length:=by unfold au;rw [Δ hB];rfl
 have hcx:∀y,(au A hh x k s).c y=if y=x then ⟨hh,k,s⟩ else A.c y:=fun y=>by
  unfold au;rw [Δ hB,π,iy]
  by_cases e:y=x
  ·rw [Δ ⟨e,hx⟩,Δ e]
  ·rw [Γ (fun h=>e h.1),Γ e]
 have su:x∉(tr hh).nodes:=hI.out MN;have hX:((tr hh).nodes++(single x).nodes).Nodup:=by
  rw [θ];refine ⟨hI.nd hh,by simp [single,BT.nodes],fun a ha b hb e=>?_⟩;simp only [single,BT.nodes,Υ,ϔ] at hb;exact su (by rw [←hb,←e];exact ha)
 have hin:∀y,y∈(tr hh).nodes++(single x).nodes->bP (au A hh x k s) (y:Int)=true:=fun y hy=>by
  rw [aj,hcs,hcx];simp only [single,BT.nodes,Υ,τ,ϔ] at hy
  by_cases e:y=x
  ·rw [Δ e,e];exact ⟨hx,by show (0:Int)<(hh:Int);omega⟩
  ·rw [Γ e];have:=(hI.mem hh y).1 (hy.resolve_right e);exact ⟨this.2.1,ω⟩
 have Ug:dU (au A hh x k s) (tr hh):=dU.frame (hI.heap hh) (fun y hy=>by rw [hcx,Γ (fun e=>su (by rw [←e];exact hy))]);have mp:=lK (au A hh x k s) (hL hh) (show Lone (single x) from rfl);have ml:=nR (au A hh x k s) (hL hh) (show Lone (single x) from rfl);have mh:=qL (hL hh) (show Lone (single x) from rfl) Ug (show dU (au A hh x k s) (single x) from ⟨by simp [BT.nodes],trivial,trivial⟩) hX;have hfr:=hI.free x hx MN;have hLh:=hL hh
 have FI:Hid (∀ (W:World) (S':TS) (st':Nat),fT W B F gt ct (au A hh x k s) st' S' (af.set hh (dm (au A hh x k s) (tr hh) (single x)).root)->bS S' (-1) (dm (au A hh x k s) (tr hh) (single x)).root (dm (au A hh x k s) (tr hh) (single x))->
   (∀y,y∉(tr hh).nodes++(single x).nodes->S.at S' y)->mH W B F gt ct (au A hh x k s) st' (fun q=>if q=hh then dm (au A hh x k s) (tr hh) (single x) else tr q)):=fun W S' st' a1 a2 a4=>by
  refine ⟨S',_,a1,hI.put ok hM.jk hB a2 mp mh a4,fun q=>?_⟩
  show Lone (if q=hh then _ else _)
  split
  ·exact ml
  ·exact hL q
 have Tw:=hI.IE hh;have htop:=hI.top hh ω;have hgn:hh<af.length:=by rw [hM.jk];omega
 have u1:aa [] w (w.alloc (.cells #[.int .i64 k,.int .u64 s] 129)):=(aa.refl _ _).alloc _;have kp:=fun W (hW:aa [] (w.alloc (.cells #[.int .i64 k,.int .u64 s] 129)) W)=>lX (hM.cells.ae (u1.trans hW)) hh x k s hk hB;have h0:=hM.h0;have vY:B.n0∉F:=hM.bA.1;have hsz:w.heap.size∉F:=fun hm=>by have:=hlt w.heap.size (by simp [PB.blk,hm]);omega
 have r0:∀W,aa F (w.alloc (.cells #[.int .i64 k,.int .u64 s] 129)) W->W.cell? ⟨B.n0,0,none⟩=some (.pointer (some ⟨B.c,0,none⟩)):=fun W hW=>hW.kept (u1.was h0) vY;have r1:∀W,aa F (w.alloc (.cells #[.int .i64 k,.int .u64 s] 129)) W->W.cell? ⟨w.heap.size,0,none⟩=some (.int .i64 k):=fun W h=>h.kept σ hsz;have r2:∀W,aa F (w.alloc (.cells #[.int .i64 k,.int .u64 s] 129)) W->W.cell? ⟨w.heap.size,1,none⟩=some (.int .u64 s):=fun W h=>h.kept σ hsz;have HM:=χ hM;have HH:=χ (ψ hX (ψ hin (ψ Tw (ψ hLh hfr))));have hA:=ok.c1;have YV:=ok.h1
 clear hM hI hL ok ok' b1 b2 b3 MN hcx su hX hin Ug mp mh ml hfr h0 hlt Tw hLh;generalize hA':au A hh x k s=A' at *;generalize htr:tr hh=th at *
 go_enter Tryz.func210,Tryz.ntmps210
 go_wp2
 go_region_held3 (aa F (w.alloc (.cells #[.int .i64 k,.int .u64 s] 129))) (exact ν)
  ((go_at_call 154;(with_reducible refine (kp _ β).mono ?_);rintro e w1 ⟨rfl,jH,hu1⟩;(have hu2:aa F (w.alloc (.cells #[.int .i64 k,.int .u64 s] 129)) w1:=ν)))
 have uF:aa F w (w.alloc (.cells #[.int .i64 k,.int .u64 s] 129)):=u1.mono σ;have hM1:=HM.out.fe (uF.trans hu2) jH (fun y hy=>Α hy) hcs nC;have hw1:aa F w w1:=uF.trans hu2;clear r0 r1 r2 kp hu1 hu2 jH uF;have km:=fun W (hW:aa [] w1 W)=>wU (hM1.ae hW) th (single x) HH.out.2.2.1 (tC HH.out.2.2.2.2) HH.out.2.2.2.1 rfl HH.out.1 HH.out.2.1;rw [show (single x).root=(x:Int) from rfl] at km;have d4:=hM1.jC.cell hh hgn;rw [htop] at d4;have f4:=hM1.jC.free hh;have h3:=hM1.h2;obtain ⟨RP,hgc⟩:=hM1.sepc
 have r3:∀W,aa [B.ba,B.c] w1 W->W.cell? ⟨B.n0,2,none⟩=some (.slice (some ⟨gt,0,none⟩) af.length ct):=fun W hW=>hW.kept h3 (fun hm=>RP (by simp at hm ⊢;omega));have r4:∀W,aa [B.ba,B.c] w1 W->W.cell? ⟨gt,hh,none⟩=some (.int .i64 th.root)/\W.frozen? ⟨gt,hh,none⟩=false:=fun W hW=>⟨hW.kept d4 hgc,hW.aP d4 hgc f4⟩
 have Gp:(0:Int)<=(hh:Int):=ω;have JQ:(hh:Int)<(af.length:Int):=ω;generalize hmt:dm A' th (single x)=mt at *;clear hM1 f4 h3 RP hgc;have q3:=r3 _ (aa.refl _ _);have q4:=(r4 _ (aa.refl _ _)).1;go_wp2
 go_region_law
  (first
   | (go_simp;go_at_call 215;(with_reducible refine (km _ β).mono ?_);rintro e w5 ⟨rfl,Br,WK,S5,Bj,ML,hs5⟩;(have dF:aa [B.ba,B.c] w1 w5:=aa.trans β Br);obtain ⟨d5,f5⟩:=r4 _ dF;(have q5:=r3 _ dF)))
 all_goals
  go_wp2;go_ret;have r9:=HM.out.cF;have v1:aa (B.blk F gt) w w1:=hw1.mono (fun y hy=>by simp only [PB.blk,ρ];simp [hy])
  have v3:aa (B.blk F gt) w w5:=v1.trans (dF.mono (fun y hy=>by
   simp only [ρ,ς,or_false] at hy;simp only [PB.blk,ρ];rcases hy with rfl|rfl
   ·simp
   ·simp [r9]))
  subst hmt;exact ⟨rfl,v3.setCell (Α (by simp [PB.blk])) _,WK,FI.out _ S5 WK (Bj.sZ hh _) ML hs5⟩
end
theorem ry {P:List Fr} {t:BT} {y:Nat}:y∈(ah P t).nodes↔y∈t.nodes\/y∈bZ P:=by
 rw [(aW P t).mem_iff,τ]
theorem Uc {S S' YI:TS} {x:Nat} (h:S.at S' x) (h':S'.at YI x):S.at YI x:=⟨h'.1.trans h.1,h'.2.1.trans h.2.1,h'.2.2.trans h.2.2⟩
section
variable {w:World} {B:PB} {F:List Nat} {gt ct:Nat} {A:NS} {st:Nat} {S:TS} {af:List Int}
theorem XY (h:fT w B F gt ct A st S af) {f:Fr} {P:List Fr} {x:Nat} {l r:BT} (hT:bS S (-1) (ah (f::P) (.node x l r)).root (ah (f::P) (.node x l r))) (hn:(ah (f::P) (.node x l r)).nodes.Nodup) (hlt:∀y,y∈(ah (f::P) (.node x l r)).nodes->y<A.cs.length) :
  Calls Tryz.prog 214 #[.pointer (some ⟨B.n0,0,none⟩),.int .i64 (x:Int)] w fun e w'=>e=.returned (.tuple #[])/\fT w' B F gt ct A st (iT S f.1 f.2.1 x) af/\aa [B.ba] w w':=by
 obtain ⟨-, -, -,k1,k2,k3⟩:=Ep hT hn;have h1:=((cB _ _).1 hT).1;have hpn:=(aW (f::P) (.node x l r)).nodup_iff.1 hn;rw [θ] at hpn;obtain ⟨n1,n2,n3⟩:=hpn;simp only [BT.nodes,Ζ,τ,not_or] at n1;have hfp:f.1∈bZ (f::P):=by simp [bZ]
 have hfx:f.1≠x:=fun e=>n3 x (by simp [BT.nodes]) f.1 hfp e.symm;have hrn:∀z:Nat,S.r x=(z:Int)->z∈r.nodes:=fun z hz=>by
  have h4:S.r x=r.root:=h1.2.2.2.root;rw [h4] at hz;have h6:r≠.nil:=fun e'=>by rw [e'] at hz;simp [BT.root] at hz
  have h7:=(bD h6).1;rw [hz,π] at h7;exact h7
 have hr:=o9 (n:=A.cs.length) h1.2.2.2 (fun z hz=>hlt z (ry.2 (Α (by simp [BT.nodes,hz]))));exact LC h f.1 x f.2.1 (hlt _ (ry.2 (Β hfp))) (hlt _ (ry.2 (Α (by simp [BT.nodes])))) hfx k1 k2 k3 hr (fun e=>n3 f.1 (by simp [BT.nodes,hrn _ e]) f.1 hfp rfl) (fun e=>n1.1.2 (hrn _ e))
end
end Go.Proofs.YtklibcncmbofpaaGreat
namespace Go.Proofs.YtklibcncmbofpaaGreat
theorem Ai (A:NS):∀ (l:List BT),(∀t,t∈l->dU A t/\Lone t)->(eU l).Nodup->∀t,t∈bH A l->dU A t/\Lone t
 | [],_,_,t,ht=>by cases ht
 | [a],h,_,t,ht=>h t ht
 | a::b::l,h,hn,t,ht=>by
  rw [bz,bz,←ϋ,θ] at hn;have ha:=h a σ;have hb:=h b σ;rcases ρ.1 (show t∈dm A a b::bH A l from ht) with e|e
  ·subst e;exact ⟨qL ha.2 hb.2 ha.1 hb.1 hn.1,nR A ha.2 hb.2⟩
  ·exact Ai A l (fun u hu=>h u (by simp [hu])) hn.2.1 t e
theorem AA (A:NS):∀ (l:List BT),(∀t,t∈l->dU A t/\Lone t)->(eU l).Nodup->dU A (dZ A l)
 | [],_,_=>trivial
 | a::l,h,hn=>by
  have ha:=h a σ;have hp:=ve A l (fun t ht=>(h t (by simp [ht])).2);have ih:=AA A l (fun u hu=>h u (by simp [hu])) (by rw [bz,θ] at hn;exact hn.2.1);exact qL ha.2 hp.2 ha.1 ih ((hp.1.append_left a.nodes).nodup_iff.2 hn)
theorem vC {A:NS} {l:BT} (h:dU A l) (hn:l.nodes.Nodup):(dZ A (bH A (bq l))).nodes.Perm l.nodes/\Lone (dZ A (bH A (bq l)))/\dU A (dZ A (bH A (bq l))):=by
 have hk:=A8 h;have hkn:=(ig l).nodup_iff.2 hn;have h2:=Ai A _ hk hkn;have p2:=AV A (bq l) (fun t ht=>(hk t ht).2);have p3:=ve A (bH A (bq l)) (fun t ht=>(h2 t ht).2);exact ⟨(p3.1.trans p2).trans (ig l),p3.2,AA A _ h2 (p2.nodup_iff.2 hkn)⟩
theorem zR {n:Nat} {l:List Nat} (hn:l.Nodup) (h:∀x,x∈l->x<n):l.length<=n:=by
 induction n generalizing l with
 | zero=>
  cases l with
  | nil=>simp
  | cons a l=>exact absurd (h a σ) ω
 | succ n ih=>
  by_cases hm:n∈l
  ·have h1:=ih (l:=l.erase n) (hn.erase n) (fun x hx=>by
    have h2:=(hn.mem_erase_iff).1 hx;have:=h x h2.2
    omega)
   rw [List.length_erase_of_mem hm] at h1;omega
  ·have:=ih hn (fun x hx=>by
    have h1:=h x hx;have h2:x≠n:=fun e=>hm (by rw [←e];exact hx)
    omega)
   omega
end Go.Proofs.YtklibcncmbofpaaGreat
namespace Go.Proofs.YtklibcncmbofpaaGreat
open Go Go.RowKit
section
variable {w:World} {B:PB} {F:List Nat} {gt ct:Nat} {A:NS} {st:Nat} {S:TS} {af:List Int}
theorem Kt (hM:fT w B F gt ct A st S af) {g x:Nat} {l:BT} (hg:(A.c x).i=g) (hg0:0<g) (hgt:g<af.length) (htop:af.getD g 0=x) (hT:bS S (-1) x (.node x l .nil)) (hn:(BT.node x l .nil).nodes.Nodup) (hall:∀y,y∈(BT.node x l .nil).nodes->bP A (y:Int)=true) :
  Calls Tryz.prog 208 #[.pointer (some ⟨B.n0,0,none⟩),.int .i64 (x:Int)] w fun e w'=>e=.returned (.bool true)/\aa (B.blk F gt) w w'/\∃st' S',fT w' B F gt ct (aL A x) st' S' (af.set g (dZ A (bH A (bq l))).root)/\bS S' (-1) (dZ A (bH A (bq l))).root (dZ A (bH A (bq l)))/\(S'.l x=-1/\S'.r x=-1/\S'.u x=-1)/\∀y,y∉(BT.node x l .nil).nodes->S.at S' y:=by
 have hin:bP A (x:Int)=true:=hall x (by simp [BT.nodes]);have hn':(x::l.nodes).Nodup:=by simpa [BT.nodes] using hn
 have hl':∀z,z∈l.nodes->bP A (z:Int)=true:=fun z hz=>hall z (by simp [BT.nodes,hz]);have hsz:l.size<=65536:=by
  rw [←BT.jT];have:=zR (n:=A.cs.length) (List.nodup_cons.1 hn').2 (fun y hy=>((aj _ _).1 (hl' y hy)).1);have:=hM.cells.ok.c1;omega
 have kh:=iK hM.cells x hin;rw [hg] at kh;have h0:=hM.h0;have HM:=χ hM;have HT:=χ (ψ hT (ψ hn' (ψ hl' (ψ hsz hin))));have Sm:=χ htop;have YV:=hM.cells.ok.h1;have htn:af.length=A.hs.length:=hM.jk;have TK:(g:Int)<(af.length:Int):=ω;have hA:=hM.cells.ok.c1;have hxl:x<A.cs.length:=((aj _ _).1 hin).1;clear hM hT hn hn' hl' hsz hin hall htop htn hg;generalize hR:dZ A (bH A (bq l))=R at *;have Oe:((x:Int) == (x:Int))=true:=σ
 go_enter Tryz.func208,Tryz.ntmps208
 go_wp2_with (first
  | ((go_at_call 140;(with_reducible refine (kh).mono ?_));rintro e w1 ⟨rfl,jH,hu1⟩;(have hM1:=HM.out.fe hu1 jH (fun y hy=>Α hy) rfl rfl);(have g21:=hM1.h2);(have g22:=hM1.jC.cell g hgt);rw [Sm.out] at g22)
  | fail)
 have ks:=fun W (hW:aa [] w1 W)=>xS (hM1.ae hW) x HT.out.2.2.2.2 l HT.out.1.2.2.1 HT.out.2.1 HT.out.2.2.1 HT.out.2.2.2.1;rw [hR] at ks;have f4:=hM1.jC.free g;have hnn:B.n0∉B.ba::F/\gt∉B.ba::F:=by
  have a1:=hM1.sep;have a2:=hM1.bA;exact ⟨by simp only [ρ,not_or];exact ⟨a1.1,a2.1⟩,by simp only [ρ,not_or];exact ⟨fun e=>a1.2.2 e.symm,a2.2.2⟩⟩
 obtain ⟨OX,xY⟩:=hnn;have HS1:=χ hM1.sep;have h3:=hM1.h2;have h00:=hM1.h0;have r3:∀W,aa (B.ba::F) w1 W->W.cell? ⟨B.n0,2,none⟩=some (.slice (some ⟨gt,0,none⟩) af.length ct):=fun W hW=>hW.kept h3 OX;have r4:∀W,aa (B.ba::F) w1 W->W.cell? ⟨gt,g,none⟩=some (.int .i64 (x:Int))/\W.frozen? ⟨gt,g,none⟩=false:=fun W hW=>⟨hW.kept g22 xY,hW.aP g22 xY f4⟩
 have Gp:(0:Int)<=(g:Int):=ω;have Xz:aa (B.blk F gt) w w1:=hu1.mono (fun y hy=>by simp only [PB.blk,ρ];simp [hy]);have HU:=χ Xz;clear hM1 f4 h3 OX xY jH hu1 kh Xz;have q3:=r3 _ (aa.refl _ _);have q4:=(r4 _ (aa.refl _ _)).1
 go_upto_region 5 with (fail)
 go_region_law
  (first
   | (go_simp;go_at_call 216;(with_reducible refine (ks _ β).mono ?_);rintro e w5 ⟨rfl,Br,WK,S5,Bj,ML,hl5,Om,Qy,hs5⟩;(have dF:aa (B.ba::F) w1 w5:=aa.trans β Br);obtain ⟨d5,f5⟩:=r4 _ dF;(have q5:=r3 _ dF)))
 all_goals
  have rW:=Bj.sZ g R.root;have kd:=fQ rW.cells x HT.out.2.2.2.2;have h06:=rW.h0
  go_wp2_with (first
   | ((go_at_call 151;(with_reducible refine (kd).mono ?_));rintro e w7 ⟨rfl,Xu,qN⟩)
   | fail)
  go_ret;have hbn:∀y,y∉(BT.node x l .nil).nodes->y∉x::l.nodes:=fun y hy hm=>hy (by simpa [BT.nodes] using hm);have v5:aa (B.blk F gt) w w5:=HU.out.trans (dF.mono (fun y hy=>by simp only [PB.blk,ρ] at hy ⊢;rcases hy with h|h<;>simp [h]));refine ⟨rfl,(v5.setCell (Α (by simp [PB.blk])) _).trans (qN.mono (fun y hy=>by simp only [PB.blk,ρ];simp [hy])),WK,S5,rW.fe qN Xu (fun y hy=>Α hy) (cK _ _) (by rw [fJ]),ML,⟨hl5,?_,?_⟩,fun y hy=>hs5 y (hbn y hy)⟩
  ·rw [Om];exact HT.out.1.2.2.2
  ·rw [Qy];exact HT.out.1.2.1
theorem OT (hM:fT w B F gt ct A st S af) {g x:Nat} {f:Fr} {P:List Fr} {l r:BT} (hg:(A.c x).i=g) (hg0:0<g) (hgt:g<af.length) (htop:af.getD g 0=(ah (f::P) (.node x l r)).root) (hT:bS S (-1) (ah (f::P) (.node x l r)).root (ah (f::P) (.node x l r))) (hn:(ah (f::P) (.node x l r)).nodes.Nodup)
  (hL:Lone (ah (f::P) (.node x l r))) (hH:dU A (ah (f::P) (.node x l r))) (hall:∀y,y∈(ah (f::P) (.node x l r)).nodes->bP A (y:Int)=true) :
  Calls Tryz.prog 208 #[.pointer (some ⟨B.n0,0,none⟩),.int .i64 (x:Int)] w fun e w'=>e=.returned (.bool true)/\aa (B.blk F gt) w w'/\∃st' S',fT w' B F gt ct (aL A x) st' S' (af.set g (dm A (ah (f::P) r) (dZ A (bH A (bq l)))).root)/\bS S' (-1) (dm A (ah (f::P) r) (dZ A (bH A (bq l)))).root (dm A (ah (f::P) r) (dZ A (bH A (bq l))))/\(S'.l x=-1/\S'.r x=-1/\S'.u x=-1)/\∀y,y∉(ah (f::P) (.node x l r)).nodes->S.at S' y:=by
 have hin:bP A (x:Int)=true:=hall x (ry.2 (Α (by simp [BT.nodes])));obtain ⟨o1,o2,o3, -⟩:=Ep hT hn;obtain ⟨oh1, -⟩:=E5 (P:=f::P) hH;have hpm:=EW (f::P) x l r;have AY:((ah (f::P) r).nodes++(BT.node x l .nil).nodes).Nodup:=xY (hpm.nodup_iff.1 hn);have Yj:∀y,y∈(ah (f::P) r).nodes++(BT.node x l .nil).nodes->y∈(ah (f::P) (.node x l r)).nodes:=fun y hy=>by
  rw [hpm.mem_iff,τ];rw [τ] at hy;exact hy.symm
 have WL:Lone (ah (f::P) r):=vJ (t:=.node x l r) σ hL;have hrt:(ah (f::P) (.node x l r)).root=(ah (f::P) r).root:=oz _ _ _ _;have hroot:(ah (f::P) r).root≠(x:Int):=fun e=>by
  have h6:ah (f::P) r≠.nil:=fun e'=>by rw [e'] at e;simp [BT.root] at e
  have h7:=(bD h6).1;rw [e,π] at h7;rw [θ] at AY;exact AY.2.2 x h7 x (by simp [BT.nodes]) rfl
 rw [hrt] at htop;have hn':(x::l.nodes).Nodup:=by
  rw [θ] at AY;simpa [BT.nodes] using AY.2.1
 have hl':∀z,z∈l.nodes->bP A (z:Int)=true:=fun z hz=>hall z (Yj z (by simp [BT.nodes,hz]));have hsz:l.size<=65536:=by
  rw [←BT.jT];have:=zR (n:=A.cs.length) (List.nodup_cons.1 hn').2 (fun y hy=>((aj _ _).1 (hl' y hy)).1);have:=hM.cells.ok.c1;omega
 obtain ⟨t1,t2,t3⟩:=vC oh1.2.1 (List.nodup_cons.1 hn').2;have Z8:((ah (f::P) r).nodes++(dZ A (bH A (bq l))).nodes).Nodup:=by
  have h1:((ah (f::P) r).nodes++l.nodes).Nodup:=by
   rw [θ] at AY ⊢;exact ⟨AY.1,(List.nodup_cons.1 hn').2,fun a ha b hb=>AY.2.2 a ha b (by simp [BT.nodes,hb])⟩
  exact (t1.append_left _).nodup_iff.2 h1
 have Xm:∀y,y∈(ah (f::P) r).nodes++(dZ A (bH A (bq l))).nodes->y∈(ah (f::P) (.node x l r)).nodes/\y≠x:=fun y hy=>by
  rw [τ,t1.mem_iff] at hy;refine ⟨Yj y (by simp only [τ,BT.nodes,Υ,ρ];rcases hy with h|h<;>simp [h]),fun e=>?_⟩;subst e;rw [θ] at AY;rcases hy with h|h
  ·exact AY.2.2 y h y (by simp [BT.nodes]) rfl
  ·exact (List.nodup_cons.1 hn').1 h
 have hra:∀y,y∈(ah (f::P) r).nodes->y∉x::l.nodes:=fun y hy hm=>by
  rw [θ] at AY;exact AY.2.2 y hy y (by simpa [BT.nodes] using hm) rfl
 have hsub:∀y,y∈x::l.nodes->y∈(ah (f::P) (.node x l r)).nodes:=fun y hy=>Yj y (by rw [τ];right;simpa [BT.nodes] using hy);have ko:=fun (w1:World) (hM1:fT w1 B F gt ct A st S af)=>XY hM1 hT hn (fun y hy=>((aj _ _).1 (hall y hy)).1);have kh:=iK hM.cells x hin;rw [hg] at kh;have h0:=hM.h0;have HM:=χ hM;have HT:=χ (ψ o1 (ψ o2 (ψ o3 (ψ hn' (ψ hl' (ψ hsz hin))))));have HX:=χ (ψ Z8 (ψ Xm (ψ WL (ψ t2 (ψ hra (ψ hsub hall))))));have Sm:=χ htop;have YV:=hM.cells.ok.h1;have htn:af.length=A.hs.length:=hM.jk;have TK:(g:Int)<(af.length:Int):=ω;have hA:=hM.cells.ok.c1
 have hxl:x<A.cs.length:=((aj _ _).1 hin).1;have hr0:(ah (f::P) r).root=-1\/0<=(ah (f::P) r).root:=by
  have:=o9 (n:=A.cs.length) o2 (fun z hz=>((aj _ _).1 (hall z (Yj z (by simp [hz])))).1);omega
 clear hM hT hn hn' hl' hsz hin hall htop htn hg o1 o2 o3 oh1 hpm AY Yj WL hrt t1 t2 t3 Z8 Xm hra hsub hL hH;generalize hR:dZ A (bH A (bq l))=R at *;generalize Bc:ah (f::P) r=ta at *;have Oe:(ta.root == (x:Int))=false:=by simpa using hroot
 go_enter Tryz.func208,Tryz.ntmps208
 go_wp2_with (first
  | ((go_at_call 140;(with_reducible refine (kh).mono ?_));rintro e w1 ⟨rfl,jH,hu1⟩;(have hM1:=HM.out.fe hu1 jH (fun y hy=>Α hy) rfl rfl);(have g21:=hM1.h2);(have g22:=hM1.jC.cell g hgt);rw [Sm.out] at g22;(have ko1:=ko w1 hM1))
  | ((go_at_call 214;(with_reducible refine (ko1).mono ?_));rintro e w3 ⟨rfl,mE,hu3⟩)
  | fail)
 have ks:=fun W (hW:aa [] w3 W)=>xS (mE.ae hW) x HT.out.2.2.2.2.2.2 l HT.out.1.2.2.1 HT.out.2.2.2.1 HT.out.2.2.2.2.1 HT.out.2.2.2.2.2.1;rw [hR] at ks;have kl:Hid (∀W TY S4,fT W B F gt ct A TY S4 af->bS S4 (-1) R.root R->(∀z,z∉x::l.nodes->(iT S f.1 f.2.1 x).at S4 z)->_):=fun W TY S4 xu QD hs4=>wU xu ta R (HT.out.2.1.frame (fun y hy=>hs4 y (HX.out.2.2.2.2.1 y hy))) QD HX.out.2.2.1 HX.out.2.2.2.1 HX.out.1 (fun y hy=>HX.out.2.2.2.2.2.2 y (HX.out.2.1 y hy).1);have d4:=mE.jC.cell g hgt;rw [Sm.out] at d4;have f4:=mE.jC.free g;have hnn:B.n0∉B.ba::F/\gt∉B.ba::F:=by
  have a1:=mE.sep;have a2:=mE.bA;exact ⟨by simp only [ρ,not_or];exact ⟨a1.1,a2.1⟩,by simp only [ρ,not_or];exact ⟨fun e=>a1.2.2 e.symm,a2.2.2⟩⟩
 obtain ⟨OX,xY⟩:=hnn;have HS1:=χ mE.sep;have r9:=mE.cF;have h3:=mE.h2;have r3:∀W,aa (B.ba::F) w3 W->W.cell? ⟨B.n0,2,none⟩=some (.slice (some ⟨gt,0,none⟩) af.length ct):=fun W hW=>hW.kept h3 OX;have r4:∀W,aa (B.ba::F) w3 W->W.cell? ⟨gt,g,none⟩=some (.int .i64 ta.root)/\W.frozen? ⟨gt,g,none⟩=false:=fun W hW=>⟨hW.kept d4 xY,hW.aP d4 xY f4⟩
 have Gp:(0:Int)<=(g:Int):=ω;have Xz:aa (B.blk F gt) w w1:=hu1.mono (fun y hy=>by simp only [PB.blk,ρ];simp [hy]);have HU:=χ (Xz.trans (hu3.mono (fun y hy=>by simp at hy;simp [PB.blk,hy])));clear hM1 mE f4 h3 OX xY jH hu1 kh Xz hu3 ko ko1 g21 g22;have q3:=r3 _ (aa.refl _ _);have q4:=(r4 _ (aa.refl _ _)).1;generalize hmt:dm A ta R=mt at *
 go_upto_region 8 with (fail)
 go_region_law
  (first
   | (go_simp;go_at_call 216;(with_reducible refine (ks _ β).mono ?_);rintro e w5 ⟨rfl,Br,WK,S5,Bj,ML,hl5,Om,Qy,hs5⟩;(have dF:aa (B.ba::F) w3 w5:=aa.trans β Br);obtain ⟨d5,f5⟩:=r4 _ dF;(have q5:=r3 _ dF);(have km:=fun W (hW:aa [] w5 W)=>kl W WK S5 (Bj.ae hW) ML hs5))
   | (go_simp;go_at_call 215;(with_reducible refine (km _ β).mono ?_);rintro e w6 ⟨rfl,hu6a,st6,S6,rW,J8,hs6⟩;(have hu6b:aa [B.ba,B.c] w5 w6:=aa.trans β hu6a);(have fq:aa (B.ba::F) w3 w6:=dF.trans (hu6b.mono (fun y hy=>by simp at hy;rcases hy with h|h<;>simp [h,r9])));obtain ⟨d6,f6⟩:=r4 _ fq;(have q6:=r3 _ fq)))
 all_goals
  subst hmt;have Fz:=rW.sZ g (dm A ta R).root;have kd:=fQ Fz.cells x HT.out.2.2.2.2.2.2;have h06:=Fz.h0
  go_wp2_with (first
   | ((go_at_call 151;(with_reducible refine (kd).mono ?_));rintro e w8 ⟨rfl,hC8,vV⟩)
   | fail)
  go_ret;have hxa:x∉ta.nodes++R.nodes:=fun hm=>(HX.out.2.1 x hm).2 rfl;have a6:=hs6 x hxa;have v5:aa (B.blk F gt) w w6:=HU.out.trans (fq.mono (fun y hy=>by simp only [PB.blk,ρ] at hy ⊢;rcases hy with h|h<;>simp [h]));refine ⟨rfl,(v5.setCell (Α (by simp [PB.blk])) _).trans (vV.mono (fun y hy=>by simp only [PB.blk,ρ];simp [hy])),st6,S6,Fz.fe vV hC8 (fun y hy=>Α hy) (cK _ _) (by rw [fJ]),J8,⟨?_,?_,?_⟩,fun y hy=>?_⟩
  ·rw [a6.1];exact hl5
  ·rw [a6.2.1,Om];exact HT.out.1.2.2.2
  ·rw [a6.2.2,Qy];exact HT.out.1.2.1
  ·exact Uc (Uc (HT.out.2.2.1 y hy) (hs5 y (fun hm=>hy (HX.out.2.2.2.2.2.1 y hm)))) (hs6 y (fun hm=>hy (HX.out.2.1 y hm).1))
end
section
variable {w:World} {B:PB} {F:List Nat} {gt ct:Nat} {A:NS} {st:Nat} {tr:Nat->BT}
theorem JA {af:List Int} {g:Nat} {v:Int} (hgt:g<af.length):∀q,(af.set g v).getD q 0=if q=g then v else af.getD q 0:=fun q=>by
 by_cases e:q=g
 ·rw [Δ e,e,φ,ύ,Δ rfl,Δ hgt];rfl
 ·rw [Γ e,φ,ύ,Γ (fun h=>e h.symm),←φ]
theorem J2 (h:mH w B F gt ct A st tr) (g x:Nat) (hx:x∈(tr g).nodes) :
  Calls Tryz.prog 208 #[.pointer (some ⟨B.n0,0,none⟩),.int .i64 (x:Int)] w fun e w'=>e=.returned (.bool true)/\aa (B.blk F gt) w w'/\∃st' Kb,mH w' B F gt ct (aL A x) st' Kb:=by
 obtain ⟨S,af,hM,hI,hL⟩:=h;have hm:=(hI.mem g x).1 hx;have e:=vT hx;generalize (pathOf (tr g) x).1=P at *;generalize (pathOf (tr g) x).2.1=l at *;generalize (pathOf (tr g) x).2.2=r at *;have hgt:g<af.length:=by rw [hM.jk];have:=(hM.cells.ok.nat x hm.2.1);omega
 have hgh:g<A.hs.length:=by rw [←hM.jk];exact hgt
 have hT:=hI.IE g;have hn:=hI.nd g;have hH:dU A (tr g):=hI.heap g;have VB:=hL g;have htp:=hI.top g hgh;have hall:∀y,y∈(tr g).nodes->bP A (y:Int)=true:=fun y hy=>by
  have:=(hI.mem g y).1 hy;exact (aj A y).2 ⟨this.2.1,ω⟩
 rw [e] at hT hn hH VB htp hall;cases P with
 | nil=>
  have hr:r=.nil:=VB;subst hr;have e2:tr g=.node x l .nil:=e;refine (Kt hM hm.2.2 hm.1 hgt htp hT hn hall).mono ?_;rintro e' w' ⟨rfl,hu,st',S',q1,q2,q3,q4⟩;have hn':(x::l.nodes).Nodup:=by
   have h9:(BT.node x l .nil).nodes.Nodup:=hn;simpa [BT.nodes] using h9
  have hH':dU A (.node x l .nil):=hH;obtain ⟨t1,t2,t3⟩:=vC hH'.2.1 (List.nodup_cons.1 hn').2;have hp:(x::(dZ A (bH A (bq l))).nodes).Perm (tr g).nodes:=by
   rw [e2];simp only [BT.nodes,Υ];exact List.Perm.cons x t1
  have h2:=hI.del hx (t':=dZ A (bH A (bq l))) (nU:=af.set g (dZ A (bH A (bq l))).root) q2 hp t3 (fun y hy=>q4 y (by rw [←e2];exact hy)) q3 (fun q _=>JA hgt q);refine ⟨rfl,hu,st',_,S',_,q1,h2,fun q=>?_⟩
  show Lone (if q=g then _ else tr q)
  split
  ·exact t2
  ·exact hL q
 | cons f P2=>
  refine (OT hM hm.2.2 hm.1 hgt htp hT hn VB hH hall).mono ?_;rintro e' w' ⟨rfl,hu,st',S',q1,q2,q3,q4⟩;have hpm:=EW (f::P2) x l r;obtain ⟨oh1,oh2⟩:=E5 (P:=f::P2) hH;have AY:((ah (f::P2) r).nodes++(BT.node x l .nil).nodes).Nodup:=xY (hpm.nodup_iff.1 hn);have WL:Lone (ah (f::P2) r):=vJ (t:=.node x l r) σ VB;have hn':(x::l.nodes).Nodup:=by
   rw [θ] at AY;simpa [BT.nodes] using AY.2.1
  obtain ⟨t1,t2,t3⟩:=vC oh1.2.1 (List.nodup_cons.1 hn').2;have Z8:((ah (f::P2) r).nodes++(dZ A (bH A (bq l))).nodes).Nodup:=by
   have h1:((ah (f::P2) r).nodes++l.nodes).Nodup:=by
    rw [θ] at AY ⊢;exact ⟨AY.1,(List.nodup_cons.1 hn').2,fun a ha b hb=>AY.2.2 a ha b (by simp [BT.nodes,hb])⟩
   exact (t1.append_left _).nodup_iff.2 h1
  have hp:(x::(dm A (ah (f::P2) r) (dZ A (bH A (bq l)))).nodes).Perm (tr g).nodes:=by
   rw [e];refine ((lK A WL t2).cons x).trans ?_;refine ((t1.append_left _).cons x).trans ?_;refine Ϣ ?_ hpm.symm;simp only [BT.nodes,Υ,List.cons_append];exact List.perm_append_comm.cons x
  have h2:=hI.del hx (t':=dm A (ah (f::P2) r) (dZ A (bH A (bq l)))) (nU:=af.set g (dm A (ah (f::P2) r) (dZ A (bH A (bq l)))).root) q2 hp (qL WL t2 oh2 t3 Z8) (fun y hy=>q4 y (by rw [←e];exact hy)) q3 (fun q _=>JA hgt q);refine ⟨rfl,hu,st',_,S',_,q1,h2,fun q=>?_⟩
  show Lone (if q=g then _ else tr q)
  split
  ·exact nR _ WL t2
  ·exact hL q
theorem yh (h:mH w B F gt ct A st tr) (g:Nat) (hn:0<dA A g) :
  Calls Tryz.prog 209 #[.pointer (some ⟨B.n0,0,none⟩),.int .i64 (g:Int)] w fun e w'=>∃m:Nat,bu A g=some m/\e=.returned (.tuple #[.int .i64 (m:Int),.bool true])/\aa (B.blk F gt) w w'/\∃st' Kb,mH w' B F gt ct (aL A m) st' Kb:=by
 have k:=yY h g hn;have kd:=fun m hm=>J2 h g m hm;have hroot:∀m:Nat,(tr g).root=m->m∈(tr g).nodes:=fun m hm=>by
  have hne:tr g≠.nil:=fun e=>by rw [e] at hm;have:(-1:Int)=m:=hm;omega
  have:=(bD hne).1;rw [hm] at this;simpa using this
 clear h
 go_enter Tryz.func209,Tryz.ntmps209
 go_wp2_with (first
  | ((go_at_call 213;(with_reducible refine (k).mono ?_));rintro e w1 ⟨m,hm1,hm2,rfl,rfl⟩;(have Xw:=kd m (hroot m hm2)))
  | ((go_at_call 208;(with_reducible refine (Xw).mono ?_));rintro e w2 ⟨rfl,hu2,hL2⟩)
  | fail)
 go_ret2;exact ⟨m,hm1,rfl,hu2,hL2⟩
end
theorem Gc (p c:Nat):∀W:World,W.cell? ⟨p,0,none⟩=some (.pointer (some ⟨c,0,none⟩))->(method 429 178 (.pointer (some ⟨p,0,none⟩)) "Has").run Tryz.prog W=.ok (139,.pointer (some ⟨c,0,none⟩)) W:=(by intro W h;unfold method;have hm:∃m,(Array.find? (fun x=>x.name == "Has") Tryz.t178.methods)=some m/\m.path.toList=[⟨215,0,true⟩]/\m.func=some (139,true)/\m.path.isEmpty=false:=⟨(Array.find? (fun x=>x.name == "Has") Tryz.t178.methods).get!,by kernel_rfl,by kernel_rfl,by kernel_rfl,by kernel_rfl⟩;obtain ⟨m,h1,h2,h3,h4⟩:=hm;go_simp;simp only [follow,Place.get];go_simp;(try unfold receiverAt);(try simp only [Place.get]);(try go_simp))
theorem Ca (p c:Nat):∀W:World,W.cell? ⟨p,0,none⟩=some (.pointer (some ⟨c,0,none⟩))->(method 429 178 (.pointer (some ⟨p,0,none⟩)) "Entry").run Tryz.prog W=.ok (137,.pointer (some ⟨c,0,none⟩)) W:=(by intro W h;unfold method;have hm:∃m,(Array.find? (fun x=>x.name == "Entry") Tryz.t178.methods)=some m/\m.path.toList=[⟨215,0,true⟩]/\m.func=some (137,true)/\m.path.isEmpty=false:=⟨(Array.find? (fun x=>x.name == "Entry") Tryz.t178.methods).get!,by kernel_rfl,by kernel_rfl,by kernel_rfl,by kernel_rfl⟩;obtain ⟨m,h1,h2,h3,h4⟩:=hm;go_simp;simp only [follow,Place.get];go_simp;(try unfold receiverAt);(try simp only [Place.get]);(try go_simp))
theorem QT (p:Nat):∀W:World,(method 429 178 (.pointer (some ⟨p,0,none⟩)) "Make").run Tryz.prog W=.ok (211,.pointer (some ⟨p,0,none⟩)) W:=fun _=>by kernel_rfl
theorem KJ (p:Nat):∀W:World,(method 429 178 (.pointer (some ⟨p,0,none⟩)) "Insert").run Tryz.prog W=.ok (210,.pointer (some ⟨p,0,none⟩)) W:=fun _=>by kernel_rfl
theorem VK (p:Nat):∀W:World,(method 429 178 (.pointer (some ⟨p,0,none⟩)) "Min").run Tryz.prog W=.ok (213,.pointer (some ⟨p,0,none⟩)) W:=fun _=>by kernel_rfl
theorem Ib (p:Nat):∀W:World,(method 429 178 (.pointer (some ⟨p,0,none⟩)) "Extract").run Tryz.prog W=.ok (209,.pointer (some ⟨p,0,none⟩)) W:=fun _=>by kernel_rfl
def PaQ (w:World) (p:Nat) (F:List Nat) (A:NS):Prop:=∃B F1 gt ct st tr,p=B.n0/\F=B.blk F1 gt/\mH w B F1 gt ct A st tr
def wN:dI where
 ty:=178
 at_:=PaQ
 upd:=fun h hu hS=>by
  obtain ⟨B,F1,gt,ct,st,tr,rfl,rfl,hL⟩:=h;exact ⟨B,F1,gt,ct,st,tr,rfl,rfl,hL.upd hu hS⟩
 lt:=fun h=>by
  obtain ⟨B,F1,gt,ct,st,tr,rfl,rfl,S,af,hM, -⟩:=h;exact hM.lt
 ok:=fun h=>by
  obtain ⟨B,F1,gt,ct,st,tr,rfl,rfl,S,af,hM, -⟩:=h;exact hM.cells.ok
 make:=fun {w p F A} h=>by
  obtain ⟨B,F1,gt,ct,st,tr,rfl,rfl,hL⟩:=h;refine aV 211 (fun _ _=>by kernel_rfl) (QT _) (fun W hW=>?_);have oD:=hL.ae hW
  by_cases hl:65536<A.hs.length
  ·have e1:bR A=0:=by unfold bR;rw [Δ hl]
   have e2:aD A=A:=by unfold aD;rw [Δ hl]
   rw [e1,e2];refine (Ke oD hl).mono ?_;rintro e w' ⟨rfl,F',⟨F2,rfl,hA⟩,hu,hf⟩;exact ⟨rfl,_,⟨B,F2,gt,ct,st,tr,rfl,rfl,hA⟩,hu,hf⟩
  ·have e1:bR A=A.hs.length:=by unfold bR;rw [Γ hl]
   rw [e1];refine (G8 oD hl).mono ?_;rintro e w' ⟨rfl,F',⟨F2,gt2,ct2,rfl,hA⟩,hu,hf⟩;exact ⟨rfl,_,⟨B,F2,gt2,ct2,st,tr,rfl,rfl,hA⟩,hu,hf⟩
 insert:=fun {w p F A} g y k s hk hB h=>by
  obtain ⟨B,F1,gt,ct,st,tr,rfl,rfl,hL⟩:=h;refine aV 210 (fun _ _=>by kernel_rfl) (KJ _) (fun W hW=>?_);refine (CP (hL.ae hW) g y k s hk hB).mono ?_;rintro e w' ⟨rfl,hu,st',hL2⟩;exact ⟨rfl,Goes.stay ⟨B,F1,gt,ct,_,_,rfl,rfl,hL2⟩ hu⟩
 min:=fun {w p F A} y hB h=>by
  obtain ⟨B,F1,gt,ct,st,tr,rfl,rfl,hL⟩:=h;refine aV 213 (fun _ _=>by kernel_rfl) (VK _) (fun W hW=>?_);have oD:=hL.ae hW;have hok:A.Ok:=by obtain ⟨S,af,hM, -⟩:=hL;exact hM.cells.ok
  by_cases hl:dA A (y:Int)=0
  ·rw [gD.2 hl];have h4:=(aK _ _).1 hB;have h5:=hok.h1;refine (FO oD y ω hl).mono ?_;rintro e w' ⟨rfl,rfl⟩;exact ⟨rfl,Goes.stay ⟨B,F1,gt,ct,st,tr,rfl,rfl,oD⟩ (aa.refl _ _)⟩
  ·refine (yY oD y ω).mono ?_;rintro e w' ⟨m,hm, -,rfl,rfl⟩;rw [hm];exact ⟨rfl,Goes.stay ⟨B,F1,gt,ct,st,tr,rfl,rfl,oD⟩ (aa.refl _ _)⟩
 extract:=fun {w p F A} y m hm h=>by
  obtain ⟨B,F1,gt,ct,st,tr,rfl,rfl,hL⟩:=h;refine aV 209 (fun _ _=>by kernel_rfl) (Ib _) (fun W hW=>?_);have hl:¬dA A (y:Int)=0:=fun e=>by rw [gD.2 e] at hm;cases hm
  refine (yh (hL.ae hW) y ω).mono ?_;rintro e w' ⟨m',hm',rfl,hu,st',Kb,hL2⟩;rw [hm] at hm';cases hm';exact ⟨rfl,Goes.stay ⟨B,F1,gt,ct,_,_,rfl,rfl,hL2⟩ hu⟩
 has:=fun x h=>by
  obtain ⟨B,F1,gt,ct,st,tr,rfl,rfl,S,af,hM, -⟩:=h;exact gJ 139 (fun _ _=>by kernel_rfl) hM.h0 (Gc _ _) (fun W hW=>iE (hM.ae hW).cells x)
 entry:=fun {w p F A} x h=>by
  obtain ⟨B,F1,gt,ct,st,tr,rfl,rfl,S,af,hM, -⟩:=h;refine gJ 137 (fun _ _=>by kernel_rfl) hM.h0 (Ca _ _) (fun W hW=>?_);cases hin:bP A x with
  | false=>simpa using jK (hM.ae hW).cells x hin
  | true=>
   obtain ⟨y,rfl⟩:=oF hin;simpa using iV (hM.ae hW).cells y hin
theorem GH (p:Nat) (w:World):Calls Tryz.prog 95 #[.pointer (some ⟨p,0,none⟩),.int .i64 0] w fun e w'=>e=.returned (.tuple #[.iface 178 (.pointer (some ⟨p,0,none⟩)),.int .i64 0])/\w'=w:=by
 go_enter Tryz.func95,Tryz.ntmps95
 go_wp2;go_ret2;exact ⟨rfl,rfl⟩
theorem Oo (n:Nat) (hn:n<=65536):j4 wN 4 0 n:=by
 intro w;have kn:=fun W=>LP n W hn;have km:=GH;have hty:wN.ty=178:=rfl;have hat:∀w' B F gt,mH w' B F gt 1 (NS.new n) 0 (fun _=>.nil)->wN.at_ w' B.n0 (B.blk F gt) (NS.new n):=fun w' B F gt h=>⟨B,F,gt,_,_,_,rfl,rfl,h⟩
 generalize wN=K at *;rw [hty]
 go_enter Tryz.func81,Tryz.ntmps81
 go_wp2_with (first
  | ((go_at_call 96;(with_reducible refine (kn _).mono ?_));rintro e w1 ⟨B,F,gt,rfl,hS,hu1,hf⟩)
  | ((go_at_call 95;(with_reducible refine (km _ _).mono ?_));rintro e w2 ⟨rfl,rfl⟩)
  | fail)
 go_ret2;exact ⟨B.n0,B.blk F gt,rfl,hat _ _ _ _ hS,aa.trans β hu1,fun x hx=>by have:=hf x hx;simp at this;omega⟩
end Go.Proofs.YtklibcncmbofpaaGreat
