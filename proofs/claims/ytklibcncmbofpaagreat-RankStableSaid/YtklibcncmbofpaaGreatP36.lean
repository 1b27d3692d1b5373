/-
  Lemmas for RankSorts: PaP, Pa, Pa2. Conditions: those of each lemma.
-/
import Derived.Test.YtklibcncmbofpaaGreatP06
import Derived.Test.YtklibcncmbofpaaGreatP14
set_option maxHeartbeats 8000000
set_option maxRecDepth 10000
set_option linter.unusedVariables false
set_option linter.unusedSimpArgs false
namespace Go.Proofs.YtklibcncmbofpaaGreat
def cO (A:NS):BT→Prop
 | .nil=>True
 | .node x l r=>(∀y,y∈l.nodes→bH A x y)∧cO A l∧cO A r
theorem cO.frame {A A':NS}:∀ {t:BT},cO A t→(∀x,x∈t.nodes→A'.c x=A.c x)→cO A' t
 | .nil,_,_=>trivial
 | .node x l r,h,hs=>by
  have hx:=hs x (by simp [BT.nodes])
  exact ⟨fun y hy=>(dJ hx (hs y (by simp [BT.nodes,hy]))).2 (h.1 y hy),h.2.1.frame (fun y hy=>hs y (by simp [BT.nodes,hy])),h.2.2.frame (fun y hy=>hs y (by simp [BT.nodes,hy]))⟩
abbrev DZ:LD:=⟨cO,cO.frame,fun _=>trivial⟩
def Lone:BT→Prop
 | .nil=>True
 | .node _ _ r=>r=.nil
theorem uu {A:NS}:∀ {P:List Fr} {t:BT},cO A (ae P t)→cO A t
 | [],_,h=>h
 | f::P,t,h=>by
  have h1:cO A (aW f t):=uu (P:=P) h;unfold aW at h1
  split at h1
  ·exact h1.2.2
  ·exact h1.2.1
theorem NB {A:NS}:∀ {P:List Fr} {t t':BT},cO A (ae P t)→cO A t'→(∀y,y∈t'.nodes→y∈t.nodes)→cO A (ae P t')
 | [],_,_,_,h,_=>h
 | f::P,t,t',h,h',hs=>by
  have h1:cO A (aW f t):=uu (P:=P) h;refine NB (P:=P) h ?_ (fun y hy=>?_)
  ·unfold aW at h1 ⊢
   split at h1
   ·rename_i e;rw [if_pos e];exact ⟨h1.1,h1.2.1,h'⟩
   ·rename_i e;rw [if_neg e];exact ⟨fun y hy=>h1.1 y (hs y hy),h',h1.2.2⟩
  ·have hy':=(ig f t').mem_iff.1 hy;refine (ig f t).mem_iff.2 ?_;simp only [List.mem_cons,List.mem_append] at hy' ⊢;rcases hy' with h|h|h
   ·exact Or.inl h
   ·exact Or.inr (Or.inl (hs y h))
   ·exact Or.inr (Or.inr h)
theorem nD:∀ {P:List Fr} {f:Fr} {t t':BT},t≠.nil→Lone (ae (f::P) t)→Lone (ae (f::P) t')
 | [],f,t,t',ht,h=>by
  have h1:Lone (aW f t):=h
  show Lone (aW f t')
  unfold aW at h1 ⊢
  split at h1
  ·exact absurd h1 ht
  ·rename_i e;rw [if_neg e];exact h1
 | g::P,f,t,t',ht,h=>nD (P:=P) (f:=g) (t:=aW f t) (t':=aW f t') (JX f t) h
/-! ### two trees become one -/
noncomputable def bN (A:NS) (a b:BT):BT:=
 match a,b with
 | .nil,t=>t
 | t,.nil=>t
 | .node x l _,.node y m _=>if bH A y x then .node y (.node x l m) .nil else .node x (.node y m l) .nil
theorem qL (A:NS) (t:BT):bN A .nil t=t:=by cases t<;>rfl
theorem nS (A:NS) (t:BT):bN A t .nil=t:=by cases t<;>rfl
theorem nO (A:NS) (x y:Nat) (l r m q:BT):bN A (.node x l r) (.node y m q)=if bH A y x then .node y (.node x l m) .nil else .node x (.node y m l) .nil:=rfl
theorem jD (A:NS) {a b:BT} (ha:Lone a) (hb:Lone b):(bN A a b).nodes.Perm (a.nodes++b.nodes):=by
 cases a with
 | nil=>rw [qL];exact List.Perm.refl _
 | node x l r=>
  cases b with
  | nil=>rw [nS];simp [BT.nodes]
  | node y m q=>
   have e1:r=.nil:=ha;have e2:q=.nil:=hb;subst e1 e2;rw [nO]
   split
   ·simp only [BT.nodes,List.append_nil];exact (List.perm_middle (a:=y) (l₁:=x::l.nodes) (l₂:=m.nodes)).symm
   ·simp only [BT.nodes,List.append_nil];refine List.Perm.cons x ?_;exact ((List.perm_append_comm (l₁:=l.nodes) (l₂:=y::m.nodes))).symm
theorem kQ (A:NS) {a b:BT} (ha:Lone a) (hb:Lone b):Lone (bN A a b):=by
 cases a with
 | nil=>rw [qL];exact hb
 | node x l r=>
  cases b with
  | nil=>rw [nS];exact ha
  | node y m q=>rw [nO];split<;>rfl
theorem Po {A:NS} {x:Nat} {l:BT} (h:cO A (.node x l .nil)):∀y,y∈(BT.node x l .nil).nodes→y=x∨bH A x y:=fun y hy=>by
 simp only [BT.nodes,List.append_nil,List.mem_cons] at hy;rcases hy with e|e
 ·exact Or.inl e
 ·exact Or.inr (h.1 y e)
theorem nA {A:NS} {a b:BT} (ha:Lone a) (hb:Lone b) (h1:cO A a) (h2:cO A b) (hn:(a.nodes++b.nodes).Nodup):cO A (bN A a b):=by
 cases a with
 | nil=>rw [qL];exact h2
 | node x l r=>
  cases b with
  | nil=>rw [nS];exact h1
  | node y m q=>
   have e1:r=.nil:=ha;have e2:q=.nil:=hb;subst e1 e2;have hxy:x≠y:=fun e=>by
    simp only [BT.nodes,List.append_nil,List.nodup_append] at hn;exact hn.2.2 x σ y σ e
   rw [nO]
   split
   ·rename_i h
    refine ⟨fun z hz=>?_,⟨h1.1,h1.2.1,h2.2.1⟩,trivial⟩
    simp only [BT.nodes,List.mem_cons,List.mem_append] at hz;rcases hz with e|e|e
    ·rw [e];exact h
    ·exact bE h (h1.1 z e)
    ·exact h2.1 z e
   ·rename_i h
    have h':bH A x y:=(gH hxy).resolve_right h;refine ⟨fun z hz=>?_,⟨h2.1,h2.2.1,h1.2.1⟩,trivial⟩
    simp only [BT.nodes,List.mem_cons,List.mem_append] at hz;rcases hz with e|e|e
    ·rw [e];exact h'
    ·exact bE h' (h2.1 z e)
    ·exact h1.1 z e
def fB (S:TS) (x y:Nat):TS:=⟨fun z=>if z=x then y else S.l z,fun z=>if z=y then S.l x else S.r z,fun z=>if z=y then x else if (z:Int)=S.l x then y else S.u z⟩
theorem BZ {S:TS} {x y z:Nat} (h1:z≠x) (h2:z≠y) (h3:(z:Int)≠S.l x):S.at (fB S x y) z:=by
 unfold fB TS.at;simp [h1,h2,h3]
theorem y7 {S:TS} {x y:Nat} {l m:BT} (ha:bG S (-1) x (.node x l .nil)) (hb:bG S (-1) y (.node y m .nil)) (hn:((BT.node x l .nil).nodes++(BT.node y m .nil).nodes).Nodup) :
  bG (fB S x y) (-1) x (.node x (.node y m l) .nil)∧∀z,z∉(BT.node x l .nil).nodes++(BT.node y m .nil).nodes→S.at (fB S x y) z:=by
 simp only [BT.nodes,List.append_nil] at hn ⊢;rw [List.nodup_append,List.nodup_cons,List.nodup_cons] at hn;obtain ⟨⟨n1,n2⟩,⟨n3,n4⟩,n5⟩:=hn;obtain ⟨_,a2,a3,a4⟩:=ha;obtain ⟨_,b2,b3,b4⟩:=hb;have hxy:x≠y:=fun e=>n5 x σ y σ e
 have hlx:S.l x=l.root:=a3.root;have hlr:∀z:Nat,(z:Int)=S.l x→z∈l.nodes:=fun z hz=>by
  rw [hlx] at hz
  by_cases e:l=.nil
  ·rw [e] at hz;simp [BT.root] at hz
  ·have h1:=bg e;have:l.root.toNat=z:=ω;rw [←this];exact h1.1
 have e0:(fB S x y).l x=y:=by unfold fB;simp
 have e1:(fB S x y).r x=S.r x:=by unfold fB;simp [hxy]
 have e2:(fB S x y).u x=S.u x:=by
  have h3:(x:Int)≠S.l x:=fun e=>n1 (hlr x e)
  unfold fB;simp [hxy,h3]
 have e3:(fB S x y).l y=S.l y:=by have hyx:¬y=x:=fun e=>hxy e.symm;unfold fB;simp [hyx]
 have e4:(fB S x y).r y=S.l x:=by unfold fB;simp
 have e5:(fB S x y).u y=x:=by unfold fB;simp
 refine ⟨⟨rfl,by rw [e2];exact a2,?_,by rw [e1];exact a4⟩,fun z hz=>?_⟩
 ·rw [e0];refine ⟨rfl,e5,?_,?_⟩
  ·rw [e3];refine b3.frame (fun z hz=>BZ (fun e=>n5 x σ z (by simp [hz]) e.symm) (fun e=>n3 (by rw [←e];exact hz)) (fun e=>n5 z (by simp [hlr z e]) z (by simp [hz]) rfl))
  ·rw [e4];refine a3.GX n2 (fun z hz=>?_) (fun hl=>?_)
   ·have z1:z≠x:=fun e=>n1 (by rw [←e];exact hz)
    have z2:z≠y:=fun e=>n5 z (by simp [hz]) y σ e
    refine ⟨by unfold fB;simp [z1],by unfold fB;simp [z2],fun hr=>?_⟩
    have z3:(z:Int)≠S.l x:=fun e=>hr (by rw [←hlx,←e];simp)
    unfold fB;simp [z2,z3]
   ·have h1:=bg hl;have z2:l.root.toNat≠y:=fun e=>n5 _ (List.mem_cons_of_mem _ h1.1) y σ e
    show (if l.root.toNat=y then (x:Int) else if ((l.root.toNat:Nat):Int)=S.l x then (y:Int) else S.u l.root.toNat)=y
    rw [if_neg z2,if_pos (by rw [hlx];exact h1.2.symm)]
 ·simp only [List.mem_append,List.mem_cons,not_or] at hz;exact BZ hz.1.1 hz.2.1 (fun e=>hz.1.2 (hlr z e))
/-! ### a tree comes off -/
def iJ (S:TS) (p:Nat) (s:Bool) (x:Nat):TS:=
 ⟨fun z=>if s=false∧z=p then S.r x else S.l z,fun z=>if z=x then -1 else if s=true∧z=p then S.r x else S.r z,fun z=>if z=x then -1 else if (z:Int)=S.r x then p else S.u z⟩
theorem xy {S:TS} {f:Fr} {P:List Fr} {x:Nat} {l r:BT} (h:bG S (-1) (ae (f::P) (.node x l r)).root (ae (f::P) (.node x l r))) (hn:(ae (f::P) (.node x l r)).nodes.Nodup) :
  bG (iJ S f.1 f.2.1 x) (-1) x (.node x l .nil)∧bG (iJ S f.1 f.2.1 x) (-1) (ae (f::P) r).root (ae (f::P) r)∧(∀y,y∉(ae (f::P) (.node x l r)).nodes→S.at (iJ S f.1 f.2.1 x) y)∧
   S.kid f.2.1 f.1=x∧(f.2.1=true→S.l f.1≠x)∧S.u x=f.1:=by
 obtain ⟨h1,h2⟩:=(cz _ _).1 h;have hnp:=(aJ (f::P) (.node x l r)).nodup_iff.1 hn;have hmem:∀y,y∈(ae (f::P) (.node x l r)).nodes↔y∈(BT.node x l r).nodes∨y∈bV (f::P):=fun y=>by rw [(aJ (f::P) (.node x l r)).mem_iff,List.mem_append]
 rw [List.nodup_append] at hnp;obtain ⟨n1,n2,n3⟩:=hnp;obtain ⟨_,g2,g3,g4⟩:=h1;obtain ⟨k1,k2,k3,k4⟩:=h2;simp only [BT.nodes,List.nodup_cons,List.mem_append,not_or,List.nodup_append] at n1;obtain ⟨⟨m1,m2⟩,m3,m4,m5⟩:=n1;have hfx:f.1≠x:=fun e=>n3 x (by simp [BT.nodes]) f.1 (by simp [bV]) e.symm
 have hrx:S.r x=r.root:=g4.root;have hrr:∀z:Nat,(z:Int)=S.r x→z∈r.nodes:=fun z hz=>by
  rw [hrx] at hz
  by_cases e:r=.nil
  ·rw [e] at hz;simp [BT.root] at hz
  ·have h1:=bg e;have:r.root.toNat=z:=ω;rw [←this];exact h1.1
 have hat:∀z,z≠f.1→z≠x→(z:Int)≠S.r x→S.at (iJ S f.1 f.2.1 x) z:=fun z z1 z2 z3=>by
  unfold iJ TS.at;simp [z1,z2,z3]
 have hnot:f.2.1=true→S.l f.1≠x:=fun e hl=>by
  rw [e] at k2;have h4:=k2.root;have h5:f.2.2.root=(x:Int):=by rw [←h4];simpa [TS.kid] using hl
  have h6:f.2.2≠.nil:=fun e=>by rw [e] at h5;simp [BT.root] at h5
  have h7:=(bg h6).1;rw [h5,π] at h7;exact n3 x (by simp [BT.nodes]) x (by simp [bV,h7]) rfl
 have hctx:∀z,z∈bV (f::P)→z≠x∧(z:Int)≠S.r x:=fun z hz=>⟨fun e=>n3 x (by simp [BT.nodes]) z hz e.symm,fun e=>n3 z (by simp [BT.nodes,hrr z e]) z hz rfl⟩
 refine ⟨⟨rfl,by unfold iJ;simp,?_,?_⟩,(cz _ _).2 ⟨?_,?_⟩,fun y hy=>?_,k1,hnot,g2⟩
 ·have e:(iJ S f.1 f.2.1 x).l x=S.l x:=by have hyx:¬x=f.1:=fun e=>hfx e.symm;unfold iJ;simp [hyx]
  rw [e];refine g3.frame (fun z hz=>hat z (fun e=>n3 z (by simp [BT.nodes,hz]) f.1 (by simp [bV]) e) (fun e=>m1 (by rw [←e];exact hz)) (fun e=>m5 z hz z (hrr z e) rfl))
 ·show (iJ S f.1 f.2.1 x).r x=-1
  unfold iJ;simp
 ·rw [←hrx];refine g4.GX m4 (fun z hz=>?_) (fun hr=>?_)
  ·have z1:z≠f.1:=fun e=>n3 z (by simp [BT.nodes,hz]) f.1 (by simp [bV]) e
   have z2:z≠x:=fun e=>m2 (by rw [←e];exact hz)
   refine ⟨by unfold iJ;simp [z1],by unfold iJ;simp [z1,z2],fun hr=>?_⟩
   have z3:(z:Int)≠S.r x:=fun e=>hr (by rw [←hrx,←e];simp)
   unfold iJ;simp [z2,z3]
  ·have h1:=bg hr;have z2:r.root.toNat≠x:=fun e=>m2 (by rw [←e];exact h1.1)
   show (if r.root.toNat=x then (-1:Int) else if ((r.root.toNat:Nat):Int)=S.r x then (f.1:Int) else S.u r.root.toNat)=f.1
   rw [if_neg z2,if_pos (by rw [hrx];exact h1.2.symm)]
 ·have hf:=hctx f.1 (by simp [bV])
  refine J2.other (S:=S) (z:=x) ⟨k1,k2,k3,k4⟩ n2 ?_ ?_ ?_ (fun z z1 z2=>hat z z1 (hctx z z2).1 (hctx z z2).2)
  ·unfold TS.kid iJ;cases f.2.1<;>simp [hfx,hrx]
  ·unfold TS.kid iJ;cases f.2.1<;>simp [hfx]
  ·unfold iJ;simp [hf.1,hf.2]
 ·rw [hmem,not_or] at hy;exact hat y (fun e=>hy.2 (by simp [bV,e])) (fun e=>hy.1 (by simp [BT.nodes,e])) (fun e=>hy.1 (by simp [BT.nodes,hrr y e]))
theorem sD (P:List Fr) (x:Nat) (l r:BT):(ae P (.node x l r)).nodes.Perm ((BT.node x l .nil).nodes++(ae P r).nodes):=by
 refine (aJ P _).trans ?_;refine List.Perm.trans ?_ ((aJ P r).symm.append_left _);simp [BT.nodes,List.append_assoc]
theorem wW {A:NS} {P:List Fr} {x:Nat} {l r:BT} (h:cO A (ae P (.node x l r))):cO A (.node x l .nil)∧cO A (ae P r):=by
 have h1:=uu h;exact ⟨⟨h1.1,h1.2.1,trivial⟩,NB h h1.2.2 (fun y hy=>by simp [BT.nodes,hy])⟩
/-! ### what is below a thing comes off it -/
def aX:BT→List BT
 | .nil=>[]
 | .node x l r=>.node x l .nil::aX r
def eH (l:List BT):List Nat:=l.flatMap BT.nodes
theorem iw:∀ (t:BT),(eH (aX t)).Perm t.nodes
 | .nil=>List.Perm.refl _
 | .node x l r=>by
  unfold eH;simp only [aX,List.flatMap_cons,BT.nodes,List.append_nil,List.cons_append];exact List.Perm.cons x ((iw r).append_left _)
theorem zt {A:NS}:∀ {t:BT},cO A t→∀u,u∈aX t→cO A u∧Lone u
 | .nil,_,u,hu=>by cases hu
 | .node x l r,h,u,hu=>by
  simp only [aX,List.mem_cons] at hu;rcases hu with e|e
  ·subst e;exact ⟨⟨h.1,h.2.1,trivial⟩,rfl⟩
  ·exact zt h.2.2 u e
def bK (l:List BT):List Int:=l.map BT.root
def ed (S:TS) (x:Nat) (ks:List Int):TS:=⟨fun z=>if z=x then -1 else S.l z,fun z=>if (z:Int)∈ks then -1 else S.r z,fun z=>if (z:Int)∈ks then -1 else S.u z⟩
theorem BV {t u:BT} (hu:u∈aX t):u.root.toNat∈u.nodes∧u.root=(u.root.toNat:Int)∧u.root∈bK (aX t):=by
 refine ⟨?_,?_,List.mem_map.2 ⟨u,hu,rfl⟩⟩
 all_goals
  induction t with
  | nil=>cases hu
  | node x l r _ ih=>
   simp only [aX,List.mem_cons] at hu;rcases hu with e|e
   ·subst e;simp [BT.root,BT.nodes]
   ·exact ih e
theorem F8 {t:BT} {z:Nat} (h:(z:Int)∈bK (aX t)):z∈t.nodes:=by
 obtain ⟨u,hu,e⟩:=List.mem_map.1 h;have h1:=BV hu;refine (iw t).mem_iff.1 (List.mem_flatMap.2 ⟨u,hu,?_⟩);rw [←show u.root.toNat=z by omega];exact h1.1
theorem Bw {S:TS} {x:Nat} {ks:List Int}:∀ {t:BT} {p:Int},bG S p t.root t→t.nodes.Nodup→x∉t.nodes→(∀z:Nat,z∈t.nodes→((z:Int)∈ks↔(z:Int)∈bK (aX t)))→
  ∀u,u∈aX t→bG (ed S x ks) (-1) u.root u
 | .nil,_,_,_,_,_,u,hu=>by cases hu
 | .node y l r,p,h,hn,hx,hk,u,hu=>by
  simp only [BT.nodes,List.mem_cons,List.mem_append,not_or] at hx;simp only [BT.nodes,List.nodup_cons,List.mem_append,not_or,List.nodup_append] at hn;obtain ⟨⟨m1,m2⟩,m3,m4,m5⟩:=hn;obtain ⟨_,h2,h3,h4⟩:=h;have hl:∀z:Nat,z∈l.nodes→(z:Int)∉ks:=fun z hz hm=>by
   have:=(hk z (by simp [BT.nodes,hz])).1 hm
   simp only [bK,aX,List.map_cons,List.mem_cons,BT.root] at this;rcases this with e|e
   ·have:z=y:=ω;exact m1 (by rw [←this];exact hz)
   ·exact m5 z hz z (F8 e) rfl
  simp only [aX,List.mem_cons] at hu;rcases hu with e|e
  ·subst e;have hyk:(y:Int)∈ks:=(hk y (by simp [BT.nodes])).2 (by simp [bK,aX,BT.root])
   refine ⟨rfl,by simp [ed,hyk],?_,by simp [ed,hyk,bG]⟩
   have e1:(ed S x ks).l y=S.l y:=by have hyx:¬y=x:=fun e=>hx.1 e.symm;simp [ed,hyx]
   rw [e1];exact h3.frame (fun z hz=>⟨by simp [ed,show z≠x from fun e=>hx.2.1 (by rw [←e];exact hz)],by simp [ed,hl z hz],by simp [ed,hl z hz]⟩)
  ·have e4:=h4.root;rw [e4] at h4;refine Bw h4 m4 hx.2.2 (fun z hz=>?_) u e
   rw [hk z (by simp [BT.nodes,hz])]
   simp only [bK,aX,List.map_cons,List.mem_cons,BT.root];constructor
   ·rintro (e|e)
    ·have:z=y:=ω;exact absurd (by rw [←this];exact hz) m2
    ·exact e
   ·exact Or.inr
theorem Jt {S:TS} {x z:Nat} {ks:List Int} (h1:z≠x) (h2:(z:Int)∉ks):S.at (ed S x ks) z:=by unfold ed TS.at;simp [h1,h2]
noncomputable def bB (A:NS):List BT→List BT
 | []=>[]
 | [a]=>[a]
 | a::b::l=>bN A a b::bB A l
noncomputable def dU (A:NS) (l:List BT):BT:=l.foldr (bN A) .nil
theorem bf (t:BT) (l:List BT):eH (t::l)=t.nodes++eH l:=rfl
theorem dQ (l m:List BT):eH (l++m)=eH l++eH m:=by unfold eH;rw [List.flatMap_append]
theorem pI (A:NS):∀ (l:List BT),(bB A l).length=(l.length+1) / 2
 | []=>rfl
 | [_]=>by simp [bB]
 | a::b::l=>by
  show (bB A l).length+1=_
  rw [pI A l];simp;omega
theorem zC (A:NS):∀ (l:List BT),(∀t,t∈l→Lone t)→(eH (bB A l)).Perm (eH l)
 | [],_=>List.Perm.refl _
 | [_],_=>List.Perm.refl _
 | a::b::l,h=>by
  show (eH (bN A a b::bB A l)).Perm _
  rw [bf,bf,bf,←List.append_assoc];exact (jD A (h a σ) (h b σ)).append (zC A l (fun t ht=>h t (by simp [ht])))
theorem ug (A:NS):∀ (l:List BT),(∀t,t∈l→Lone t)→(dU A l).nodes.Perm (eH l)∧Lone (dU A l)
 | [],_=>⟨List.Perm.refl _,trivial⟩
 | a::l,h=>by
  have ih:=ug A l (fun t ht=>h t (by simp [ht]))
  exact ⟨(jD A (h a σ) ih.2).trans (ih.1.append_left _),kQ A (h a σ) ih.2⟩
theorem rJ (A:NS):∀ (k:Nat) (l:List BT),2*k≤l.length→bB A l=(bB A l).take k++bB A (l.drop (2*k))
 | 0,l,_=>σ
 | k+1,[],h=>by simp at h
 | k+1,[_],h=>by simp at h;omega
 | k+1,a::b::l,h=>by
  have h1:=rJ A k l (by simp at h;omega)
  show bN A a b::bB A l=_
  rw [show 2*(k+1)=2*k+2 by omega]
  simp only [bB,List.take_succ_cons,List.cons_append,List.drop_succ_cons];rw [←h1]
end Go.Proofs.YtklibcncmbofpaaGreat
namespace Go.Proofs.YtklibcncmbofpaaGreat
open Go Go.RowKit
structure PB where
 n0:Nat
 c:Nat
 ba:Nat
structure eZ (w:World) (B:PB) (F:List Nat) (gt ct:Nat) (A:NS) (st:Nat) (S:TS) (ah:List Int):Prop where
 head:aI w B.n0 215 3 (fun j=>[Value.pointer (some ⟨B.c,0,none⟩),.slice (some ⟨B.ba,0,none⟩) A.cs.length A.cs.length,.slice (some ⟨gt,0,none⟩) ah.length ct].getD j undef)
 cells:az w B.c F A st
 ties:aI w B.ba 217 (A.cs.length*3) (bU S)
 ic:IZ w gt ct ah
 gP:ah.length=A.hs.length
 aZ:B.n0∉F∧B.ba∉F∧gt∉F
 sep:B.n0≠B.ba∧B.n0≠gt∧B.ba≠gt
section
variable {w:World} {B:PB} {F:List Nat} {gt ct:Nat} {A:NS} {st:Nat} {S:TS} {ah:List Int}
def PB.blk (B:PB) (F:List Nat) (gt:Nat):List Nat:=B.n0::B.ba::gt::F
theorem eZ.upd {w':World} {G:List Nat} (h:eZ w B F gt ct A st S ah) (hu:aa G w w') (hG:∀x,x∈G→x∉B.blk F gt):eZ w' B F gt ct A st S ah:=by
 have h1:∀x,x∈B.blk F gt→x∉G:=fun x hx hg=>hG x hg hx
 exact ⟨h.head.upd hu (h1 _ (by simp [PB.blk])),h.cells.upd hu (fun x hx=>fun hm=>hG x hx (by simp [PB.blk,hm])),h.ties.upd hu (h1 _ (by simp [PB.blk])),h.ic.upd hu (h1 _ (by simp [PB.blk])),h.gP,h.aZ,h.sep⟩
theorem eZ.aj {w':World} (h:eZ w B F gt ct A st S ah) (hu:aa [] w w'):eZ w' B F gt ct A st S ah:=h.upd hu σ
theorem eZ.lt (h:eZ w B F gt ct A st S ah):∀x,x∈B.blk F gt→x<w.heap.size:=by
 intro x hx;have:=h.head.lt;have:=h.ties.lt;have:=h.ic.lt;simp only [PB.blk,List.mem_cons] at hx;rcases hx with rfl|rfl|rfl|hx
 ·assumption
 ·assumption
 ·assumption
 ·exact h.cells.lt x hx
theorem eZ.cF (h:eZ w B F gt ct A st S ah):B.c∈F:=h.cells.mem
theorem eZ.h0 (h:eZ w B F gt ct A st S ah):w.cell? ⟨B.n0,0,none⟩=some (.pointer (some ⟨B.c,0,none⟩)):=h.head.cellAt 0 ω rfl
theorem eZ.h1 (h:eZ w B F gt ct A st S ah):w.cell? ⟨B.n0,1,none⟩=some (.slice (some ⟨B.ba,0,none⟩) A.cs.length A.cs.length):=h.head.cellAt 1 ω rfl
theorem eZ.h2 (h:eZ w B F gt ct A st S ah):w.cell? ⟨B.n0,2,none⟩=some (.slice (some ⟨gt,0,none⟩) ah.length ct):=h.head.cellAt 2 ω rfl
theorem eZ.l (h:eZ w B F gt ct A st S ah) (x:Nat) (hx:x<A.cs.length):w.cell? ⟨B.ba,x*3,none⟩=some (.int .i64 (S.l x)):=h.ties.cellAt _ ω (mV S x)
theorem eZ.r (h:eZ w B F gt ct A st S ah) (x:Nat) (hx:x<A.cs.length):w.cell? ⟨B.ba,x*3+1,none⟩=some (.int .i64 (S.r x)):=h.ties.cellAt _ ω (mP S x)
theorem eZ.u (h:eZ w B F gt ct A st S ah) (x:Nat) (hx:x<A.cs.length):w.cell? ⟨B.ba,x*3+2,none⟩=some (.int .i64 (S.u x)):=h.ties.cellAt _ ω (qG S x)
theorem eZ.f (h:eZ w B F gt ct A st S ah) (j:Nat):w.frozen? ⟨B.ba,j,none⟩=false:=h.ties.free j
theorem eZ.fM {w':World} {S':TS} (h:eZ w B F gt ct A st S ah) (hu:aa [B.ba] w w') (hT:aI w' B.ba 217 (A.cs.length*3) (bU S')):eZ w' B F gt ct A st S' ah:=by
 have s:=h.sep;have f:=h.aZ;exact ⟨h.head.upd hu ζ,h.cells.upd hu (fun x hx=>by simp at hx;rw [hx];exact f.2.1),hT,h.ic.upd hu ζ,h.gP,f,s⟩
theorem eZ.ext {S':TS} (h:eZ w B F gt ct A st S ah) (hS:∀x,S'.l x=S.l x∧S'.r x=S.r x∧S'.u x=S.u x):eZ w B F gt ct A st S' ah:=by
 have e:S'=S:=by
  cases S;cases S';simp only [TS.mk.injEq];exact ⟨funext fun x=>(hS x).1,funext fun x=>(hS x).2.1,funext fun x=>(hS x).2.2⟩
 rw [e];exact h
theorem M9 (S:TS) (p:Nat) (v:Int) (j:Nat):(if j=p*3 then Value.int .i64 v else bU S j)=bU (S.aD p false v) j:=by
 unfold bU TS.aD
 by_cases hj2:j=p*3
 ·subst hj2;simp
 ·by_cases h0:j % 3=0
  ·simp [hj2,h0];intro hh;exfalso;omega
  ·simp [hj2,h0]
theorem Mm (S:TS) (p:Nat) (v:Int) (j:Nat):(if j=p*3+1 then Value.int .i64 v else bU S j)=bU (S.aD p true v) j:=by
 unfold bU TS.aD
 by_cases hj2:j=p*3+1
 ·subst hj2;simp;intro hh;exfalso;omega
 ·by_cases h0:j % 3=1
  ·simp [hj2,h0];intro hh;exfalso;omega
  ·simp [hj2,h0]
theorem Mh (S:TS) (p:Nat) (v:Int) (j:Nat):(if j=p*3+2 then Value.int .i64 v else bU S j)=bU (S.bA p v) j:=by
 unfold bU TS.bA
 by_cases hj2:j=p*3+2
 ·subst hj2;simp;intro hh;exfalso;omega
 ·by_cases h0:j % 3=0
  ·simp [hj2,h0]
  ·by_cases h1:j % 3=1
   ·simp [hj2,h1]
   ·simp [hj2,h0,h1];intro hh;exfalso;omega
theorem eZ.Ey (h:eZ w B F gt ct A st S ah) (p:Nat) (v:Int):eZ (w.setCell ⟨B.ba,p*3,none⟩ (.int .i64 v)) B F gt ct A st (S.aD p false v) ah:=
 h.fM β ((h.ties.set _ _).ext (fun j _=>M9 S p v j))
theorem eZ.bJ (h:eZ w B F gt ct A st S ah) (p:Nat) (v:Int):eZ (w.setCell ⟨B.ba,p*3+1,none⟩ (.int .i64 v)) B F gt ct A st (S.aD p true v) ah:=
 h.fM β ((h.ties.set _ _).ext (fun j _=>Mm S p v j))
theorem eZ.oZ (h:eZ w B F gt ct A st S ah) (p:Nat) (v:Int):eZ (w.setCell ⟨B.ba,p*3+2,none⟩ (.int .i64 v)) B F gt ct A st (S.bA p v) ah:=
 h.fM β ((h.ties.set _ _).ext (fun j _=>Mh S p v j))
theorem eZ.nT (h:eZ w B F gt ct A st S ah) (x:Nat) (k:Int):eZ (w.setCell ⟨gt,x,none⟩ (.int .i64 k)) B F gt ct A st S (ah.set x k):=by
 have s:=h.sep;have f:=h.aZ;have hu:aa [gt] w (w.setCell ⟨gt,x,none⟩ (.int .i64 k)):=β;exact ⟨by rw [List.length_set];exact h.head.upd hu ζ,h.cells.upd hu (fun x hx=>by simp at hx;rw [hx];exact f.2.2),h.ties.upd hu ζ,h.ic.set x k,by rw [List.length_set];exact h.gP,f,s⟩
theorem eZ.bI {w':World} {F':List Nat} {A':NS} {st':Nat} (h:eZ w B F gt ct A st S ah) (hu:aa F w w') (hC:az w' B.c F' A' st') (hF:∀x,x∈F'→x∈F∨w.heap.size≤x) (h1:A'.cs.length=A.cs.length) (h2:A'.hs.length=A.hs.length):eZ w' B F' gt ct A' st' S ah:=by
 have f:=h.aZ;have g:=h.lt;have hf:∀x,x<w.heap.size→x∉F→x∉F':=fun x hx hn hm=>by rcases hF x hm with h'|h';exact hn h';omega
 have l0:=g B.n0 (by simp [PB.blk]);have l1:=g B.ba (by simp [PB.blk]);have l4:=g gt (by simp [PB.blk])
 exact ⟨by rw [h1];exact h.head.upd hu f.1,hC,by rw [h1];exact h.ties.upd hu f.2.1,h.ic.upd hu f.2.2,by rw [h2];exact h.gP,⟨hf _ l0 f.1,hf _ l1 f.2.1,hf _ l4 f.2.2⟩,h.sep⟩
end
def j4 (w:World) (B:PB) (F:List Nat) (gt ct:Nat) (A:NS) (st:Nat) (tr:Nat→BT):Prop:=∃S ah,eZ w B F gt ct A st S ah∧sM DZ A S ah tr∧∀h,Lone (tr h)
theorem j4.upd {w w':World} {B:PB} {F G:List Nat} {gt ct st:Nat} {A:NS} {tr:Nat→BT} (h:j4 w B F gt ct A st tr) (hu:aa G w w') (hG:∀x,x∈G→x∉B.blk F gt):j4 w' B F gt ct A st tr:=by
 obtain ⟨S,ah,hM,hI⟩:=h;exact ⟨S,ah,hM.upd hu hG,hI⟩
theorem j4.aj {w w':World} {B:PB} {F:List Nat} {gt ct st:Nat} {A:NS} {tr:Nat→BT} (h:j4 w B F gt ct A st tr) (hu:aa [] w w'):j4 w' B F gt ct A st tr:=h.upd hu σ
section
variable {w:World} {B:PB} {F:List Nat} {gt ct:Nat} {A:NS} {st:Nat} {S:TS} {ah:List Int}
theorem yN (S:TS) (x y:Nat) (h:S.l x=-1):∀z,(fB S x y).l z=((((S.aD y true (S.l x)).bA y x).aD x false y)).l z∧(fB S x y).r z=((((S.aD y true (S.l x)).bA y x).aD x false y)).r z∧(fB S x y).u z=((((S.aD y true (S.l x)).bA y x).aD x false y)).u z:=fun z=>by
 unfold fB TS.aD TS.bA;rw [h];refine ⟨σ,σ,?_⟩;have:¬ (z:Int)=-1:=ω;simp [this]
theorem yP (S:TS) (x y o:Nat) (h:S.l x=o) (hoy:o≠y):∀z,(fB S x y).l z=(((((S.aD y true (S.l x)).bA y x).bA o y).aD x false y)).l z∧(fB S x y).r z=(((((S.aD y true (S.l x)).bA y x).bA o y).aD x false y)).r z∧(fB S x y).u z=(((((S.aD y true (S.l x)).bA y x).bA o y).aD x false y)).u z:=fun z=>by
 unfold fB TS.aD TS.bA;rw [h];refine ⟨σ,σ,?_⟩;simp only [Bool.false_eq_true,if_false,if_true]
 by_cases h1:z=y
 ·subst h1;rw [if_pos rfl,if_neg (fun e=>hoy e.symm),if_pos rfl]
 ·rw [if_neg h1]
  by_cases h2:z=o
  ·subst h2;simp
  ·rw [if_neg (show ¬ (z:Int)=(o:Int) by omega),if_neg h2,if_neg h1]
theorem sK (b:Int) (w:World) (n0:Nat):Calls Tryz.prog 215 #[.pointer (some ⟨n0,0,none⟩),.int .i64 (-1),.int .i64 b] w fun e w'=>e=.returned (.int .i64 b)∧w'=w:=by
 go_enter Tryz.func215,Tryz.ntmps215
 go_wp2;go_ret;exact ⟨rfl,rfl⟩
theorem Bb (a:Int) (w:World) (n0:Nat):Calls Tryz.prog 215 #[.pointer (some ⟨n0,0,none⟩),.int .i64 a,.int .i64 (-1)] w fun e w'=>e=.returned (.int .i64 a)∧w'=w:=by
 by_cases h:a=-1
 ·subst h;exact sK (-1) w n0
 ·have hb:(a == -1)=false:=by simpa using h
  go_enter Tryz.func215,Tryz.ntmps215
  go_wp2;go_ret;exact ⟨rfl,rfl⟩
theorem Cr (h:eZ w B F gt ct A st S ah) (x y:Nat) (hx:bD A (x:Int)=true) (hy:bD A (y:Int)=true) (hxy:x≠y) (hkx:S.l x=-1∨(0≤S.l x∧S.l x<A.cs.length)) (hky:S.l y=-1∨(0≤S.l y∧S.l y<A.cs.length)) (hnx:S.l x≠y) (hny:S.l y≠x) :
  Calls Tryz.prog 215 #[.pointer (some ⟨B.n0,0,none⟩),.int .i64 (x:Int),.int .i64 (y:Int)] w fun e w'=>e=.returned (.int .i64 ((if bH A y x then y else x:Nat):Int))∧(∃st',eZ w' B F gt ct A st' (if bH A y x then fB S y x else fB S x y) ah)∧aa [B.ba,B.c] w w':=by
 have ka:=dC h.cells y x hy hx;have hx2:=(af _ _).1 hx;have hy2:=(af _ _).1 hy;have hA:=h.cells.ok.c1;have c0:=h.h0;have hM1:∀w1,az w1 B.c F A (bC st 1)→aa [B.c] w w1→eZ w1 B F gt ct A (bC st 1) S ah:=fun w1 hC hu=>h.bI (hu.mono (fun z hz=>by simp at hz;rw [hz];exact h.cF)) hC (fun z hz=>Or.inl hz) rfl rfl
 have hb1:((x:Int) == -1)=false:=σ;have hb2:((y:Int) == -1)=false:=σ;have HX:=χ (ψ hM1 h.sep);have hxI:(x:Int)<(A.cs.length:Int):=ω;have hyI:(y:Int)<(A.cs.length:Int):=ω;clear h hx hy hM1
 by_cases hlt:bH A y x
 ·rw [decide_eq_true hlt] at ka;rw [if_pos hlt,if_pos hlt];clear hlt hkx
  go_enter Tryz.func215,Tryz.ntmps215
  go_upto_region 7 with (first
   | ((go_at_call 174;(with_reducible refine (ka).mono ?_));rintro e w1 ⟨rfl,hC,hu1⟩)
   | fail)
  obtain ⟨hM1,hsep⟩:=HX.out;have hM:=hM1 w1 hC hu1;have c1:=hM.h1;have dl:=hM.l y hy2.1;have dr:=hM.r x hx2.1;have du:=hM.u x hx2.1;have ff:=hM.f;have ff1:=ff (x*3+1);have ff2:=ff (x*3+2);have ff3:=ff (y*3);have hn1:¬B.n0=B.ba:=hsep.1;have hn2:¬B.ba=B.n0:=fun e=>hsep.1 e.symm
  have HM:=χ (ψ hM hu1);have nb1:¬y*3=x*3+1:=ω;have nb2:¬y*3=x*3+2:=ω;have nbl:y*3<A.cs.length*3:=ω;clear hM hu1 hC hM1 hsep ka
  by_cases ho:S.l y=-1
  ·have HO:=χ ho;have he:=yN S y x ho;rw [ho] at dl he;have HE:=χ he;have hlr:((-1:Int) != -1)=false:=σ;clear ho he hky hny
   go_upto_region 8 with (fail)
   go_region_law (fail)
   all_goals
    go_wp2;go_ret;refine ⟨rfl,⟨_,eZ.ext ((((HM.out.1.bJ x (-1)).oZ x y).Ey y x).aj ?_) HE.out⟩,(HM.out.2.mono σ).trans ?_⟩
    ·(repeat (first|assumption|exact aa.refl _ _|refine aa.drew ?_|refine aa.alloc ?_ _|refine aa.setCell ?_ ?_ _|focus (left;simp;done)|focus (right;simp;done)|focus (right;simp;omega)|(apply aa.trans;rotate_left;assumption)))
    ·exact β
  ·obtain ⟨o,hoo⟩:∃o:Nat,S.l y=o:=⟨(S.l y).toNat,ω⟩
   have hol:o<A.cs.length:=ω;have hoy:o≠x:=fun e=>hny (by rw [hoo,e])
   have he:=yP S y x o hoo hoy;rw [hoo] at dl he;have HE:=χ he;have hob:((o:Int) != -1)=true:=σ;have hoI:(o:Int)<(A.cs.length:Int):=ω;have do_:=HM.out.1.u o hol;have ff4:=ff (o*3+2);have no1:¬o*3+2=x*3+1:=ω;have no2:¬o*3+2=x*3+2:=ω;have no3:¬y*3=o*3+2:=ω;clear ho he hoo hky hny
   go_upto_region 8 with (fail)
   go_region_law (fail)
   all_goals
    go_wp2;go_ret;refine ⟨rfl,⟨_,eZ.ext (((((HM.out.1.bJ x (o:Int)).oZ x y).oZ o x).Ey y x).aj ?_) HE.out⟩,(HM.out.2.mono σ).trans ?_⟩
    ·(repeat (first|assumption|exact aa.refl _ _|refine aa.drew ?_|refine aa.alloc ?_ _|refine aa.setCell ?_ ?_ _|focus (left;simp;done)|focus (right;simp;done)|focus (right;simp;omega)|(apply aa.trans;rotate_left;assumption)))
    ·exact β
 ·rw [decide_eq_false hlt] at ka;rw [if_neg hlt,if_neg hlt];clear hlt hky
  go_enter Tryz.func215,Tryz.ntmps215
  go_upto_region 7 with (first
   | ((go_at_call 174;(with_reducible refine (ka).mono ?_));rintro e w1 ⟨rfl,hC,hu1⟩)
   | fail)
  obtain ⟨hM1,hsep⟩:=HX.out;have hM:=hM1 w1 hC hu1;have c1:=hM.h1;have dl:=hM.l x hx2.1;have dr:=hM.r y hy2.1;have du:=hM.u y hy2.1;have ff:=hM.f;have ff1:=ff (y*3+1);have ff2:=ff (y*3+2);have ff3:=ff (x*3);have hn1:¬B.n0=B.ba:=hsep.1;have hn2:¬B.ba=B.n0:=fun e=>hsep.1 e.symm
  have HM:=χ (ψ hM hu1);have nb1:¬x*3=y*3+1:=ω;have nb2:¬x*3=y*3+2:=ω;have nbl:x*3<A.cs.length*3:=ω;clear hM hu1 hC hM1 hsep ka
  by_cases ho:S.l x=-1
  ·have HO:=χ ho;have he:=yN S x y ho;rw [ho] at dl he;have HE:=χ he;have hlr:((-1:Int) != -1)=false:=σ;clear ho he hkx hnx
   go_upto_region 8 with (fail)
   go_region_law (fail)
   all_goals
    go_wp2;go_ret;refine ⟨rfl,⟨_,eZ.ext ((((HM.out.1.bJ y (-1)).oZ y x).Ey x y).aj ?_) HE.out⟩,(HM.out.2.mono σ).trans ?_⟩
    ·(repeat (first|assumption|exact aa.refl _ _|refine aa.drew ?_|refine aa.alloc ?_ _|refine aa.setCell ?_ ?_ _|focus (left;simp;done)|focus (right;simp;done)|focus (right;simp;omega)|(apply aa.trans;rotate_left;assumption)))
    ·exact β
  ·obtain ⟨o,hoo⟩:∃o:Nat,S.l x=o:=⟨(S.l x).toNat,ω⟩
   have hol:o<A.cs.length:=ω;have hoy:o≠y:=fun e=>hnx (by rw [hoo,e])
   have he:=yP S x y o hoo hoy;rw [hoo] at dl he;have HE:=χ he;have hob:((o:Int) != -1)=true:=σ;have hoI:(o:Int)<(A.cs.length:Int):=ω;have do_:=HM.out.1.u o hol;have ff4:=ff (o*3+2);have no1:¬o*3+2=y*3+1:=ω;have no2:¬o*3+2=y*3+2:=ω;have no3:¬x*3=o*3+2:=ω;clear ho he hoo hkx hnx
   go_upto_region 8 with (fail)
   go_region_law (fail)
   all_goals
    go_wp2;go_ret;refine ⟨rfl,⟨_,eZ.ext (((((HM.out.1.bJ y (o:Int)).oZ y x).oZ o y).Ey x y).aj ?_) HE.out⟩,(HM.out.2.mono σ).trans ?_⟩
    ·(repeat (first|assumption|exact aa.refl _ _|refine aa.drew ?_|refine aa.alloc ?_ _|refine aa.setCell ?_ ?_ _|focus (left;simp;done)|focus (right;simp;done)|focus (right;simp;omega)|(apply aa.trans;rotate_left;assumption)))
    ·exact β
end
end Go.Proofs.YtklibcncmbofpaaGreat
