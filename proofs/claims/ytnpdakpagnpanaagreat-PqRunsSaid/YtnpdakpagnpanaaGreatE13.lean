/-
  Lemmas.
-/
import Derived.Deep.LoopGhost
import Derived.Test.YtnpdakpagnpanaaGreatE04
import Derived.Test.YtnpdakpagnpanaaGreatE12
set_option linter.all false
set_option maxHeartbeats 8000000
set_option maxRecDepth 10000
namespace Go.Proofs.YtnpdakpagnpanaaGreat
open Tryz
def eH(A:NS):BT->Prop
 | .nil=>True
 | .node x l r=>(∀y,y∈l.nodes->dA A x y)/\eH A l/\eH A r
def eH.frame{A A':NS}:∀{t:BT},eH A t->(∀x,x∈t.nodes->A'.c x=A.c x)->eH A' t
 | .nil,_,_=>trivial
 | .node x l r,h,hs=>by
  have hx:=hs x (by simp[BT.nodes]);exact⟨λy hy=>(fC hx (hs y (by simp[BT.nodes,hy]))).2 (h.1 y hy),h.2.1.frame (λy hy=>hs y (by simp[BT.nodes,hy])),h.2.2.frame (λy hy=>hs y (by simp[BT.nodes,hy]))⟩
abbrev Ml:Tn:=⟨eH,eH.frame,λ_=>trivial⟩
def Lone:BT->Prop
 | .nil=>True
 | .node _ _ r=>r=.nil
def zD{A:NS}:∀{P:List Fr} {t:BT},eH A (ak P t)->eH A t
 | [],_,h=>h
 |f::P,t,h=>by
  have h1:eH A (bN f t):=zD (P:=P) h;unfold bN at h1
  split at h1
  .exact h1.2.2
  .exact h1.2.1
def aaA{A:NS}:∀{P:List Fr} {t t':BT},eH A (ak P t)->eH A t'->(∀y,y∈t'.nodes->y∈t.nodes)->eH A (ak P t')
 | [],_,_,_,h,_=>h
 |f::P,t,t',h,h',hs=>by
  have h1:eH A (bN f t):=zD (P:=P) h;refine aaA (P:=P) h ?_ (λy hy=>?_)
  .unfold bN at h1 ⊢
   split at h1
   .rename_i e;rw[Δ e];exact⟨h1.1,h1.2.1,h'⟩
   .rename_i e;rw[Γ e];exact⟨λy hy=>h1.1 y (hs y hy),h',h1.2.2⟩
  .have hy':=(jP f t').mem_iff.1 hy;refine(jP f t).mem_iff.2 ?_;simp only[ρ,τ] at hy' ⊢;rcases hy' with h|h|h
   .exact Α h
   .exact Β (Α (hs y h))
   .exact Β (Β h)
def r9:∀{P:List Fr} {f:Fr} {t t':BT},t≠.nil->Lone (ak (f::P) t)->Lone (ak (f::P) t')
 | [],f,t,t',ht,h=>by
  have h1:Lone (bN f t):=h
  show Lone (bN f t')
  unfold bN at h1 ⊢
  split at h1
  .exact absurd h1 ht
  .rename_i e;rw[Γ e];exact h1
 |g::P,f,t,t',ht,h=>r9 (P:=P) (f:=g) (t:=bN f t) (t':=bN f t') (VP f t) h
/-! ### two trees become one -/
noncomputable def dG(A:NS)(a b:BT):BT:=
 match a,b with
 | .nil,t=>t
 |t,.nil=>t
 | .node x l _,.node y m _=>if dA A y x then .node y (.node x l m) .nil else .node x (.node y m l) .nil
def wM(A:NS)(t:BT):dG A .nil t=t:=by cases t<;>rfl
def tq(A:NS)(t:BT):dG A t .nil=t:=by cases t<;>rfl
def sP(A:NS)(x y:Nat)(l r m q:BT):dG A (.node x l r) (.node y m q)=if dA A y x then .node y (.node x l m) .nil else .node x (.node y m l) .nil:=rfl
def lJ(A:NS){a b:BT}(e:Lone a)(f:Lone b):(dG A a b).nodes.Perm (a.nodes++b.nodes):=by
 cases a with
 |nil=>rw[wM];exact ό _
 |node x l r=>
  cases b with
  |nil=>rw[tq];simp[BT.nodes]
  |node y m q=>
   have c:r=.nil:=e;have d:q=.nil:=f;subst c d;rw[sP]
   split
   .simp only[BT.nodes,Υ]
    grind
   .simp only[BT.nodes,Υ]
    grind
def mV(A:NS){a b:BT}(c:Lone a)(d:Lone b):Lone (dG A a b):=by
 cases a with
 |nil=>rw[wM];exact d
 |node x l r=>
  cases b with
  |nil=>rw[tq];exact c
  |node y m q=>rw[sP];split<;>rfl
def aen{A:NS}{x:Nat}{l:BT}(h:eH A (.node x l .nil)):∀y,y∈(BT.node x l .nil).nodes->y=x\/dA A x y:=λy a=>by
 simp only[BT.nodes,Υ,ρ] at a;rcases a with e|e
 .exact Α e
 .exact Β (h.1 y e)
def oL{A:NS}{a b:BT}(o:Lone a)(p:Lone b)(c:eH A a)(d:eH A b)(j:(a.nodes++b.nodes).Nodup):eH A (dG A a b):=by
 cases a with
 |nil=>rw[wM];exact d
 |node x l r=>
  cases b with
  |nil=>rw[tq];exact c
  |node y m q=>
   have k:r=.nil:=o;have n:q=.nil:=p;subst k n;have g:x≠y:=λe=>by
    simp only[BT.nodes,Υ,θ] at j;exact j.2.2 x σ y σ e
   rw[sP]
   split
   .rename_i h
    refine⟨λz f=>?_,⟨c.1,c.2.1,d.2.1⟩,trivial⟩;simp only[BT.nodes,ρ,τ] at f;rcases f with e|e|e
    .rw[e];exact h
    .exact dH h (c.1 z e)
    .exact d.1 z e
   .rename_i h
    have i:dA A x y:=(jA g).resolve_right h;refine⟨λz f=>?_,⟨d.1,d.2.1,c.2.1⟩,trivial⟩;simp only[BT.nodes,ρ,τ] at f;rcases f with e|e|e
    .rw[e];exact i
    .exact dH i (d.1 z e)
    .exact c.1 z e
def iF(S:TS)(x y:Nat):TS:=⟨λz=>if z=x then y else S.l z,λz=>if z=y then S.l x else S.r z,λz=>if z=y then x else if(z:Int)=S.l x then y else S.u z⟩
def Ki{S:TS}{x y z:Nat}(a:z≠x)(b:z≠y)(c:(z:Int)≠S.l x):S.at (iF S x y) z:=by
 unfold iF TS.at;simp[a,b,c]
def En{S:TS}{x y:Nat}{l m:BT}(F:dL S (-1) x (.node x l .nil))(G:dL S (-1) y (.node y m .nil))(i:((BT.node x l .nil).nodes++(BT.node y m .nil).nodes).Nodup):
  dL (iF S x y) (-1) x (.node x (.node y m l) .nil)/\∀z,z∉(BT.node x l .nil).nodes++(BT.node y m .nil).nodes->S.at (iF S x y) z:=by
 simp only[BT.nodes,Υ] at i ⊢;rw[θ,Ζ,Ζ] at i;obtain⟨⟨j,o⟩,⟨p,H⟩,c⟩:=i;obtain⟨_,I,k,q⟩:=F;obtain⟨_,J,r,K⟩:=G;have b:x≠y:=λe=>c x σ y σ e;have f:S.l x=l.root:=k.root;have d:∀z:Nat,(z:Int)=S.l x->z∈l.nodes:=λz a=>by
  rw[f] at a
  by_cases e:l=.nil
  .rw[e] at a;simp[BT.root] at a
  .have n:=cB e
   grind
 have s:(iF S x y).l x=y:=by unfold iF;simp
 have t:(iF S x y).r x=S.r x:=by unfold iF;simp[b]
 have L:(iF S x y).u x=S.u x:=by
  have u:(x:Int)≠S.l x:=λe=>j (d x e);unfold iF;simp[b,u]
 have v:(iF S x y).l y=S.l y:=by have g:¬y=x:=λe=>b e.symm;unfold iF;simp[g]
 have w:(iF S x y).r y=S.l x:=by unfold iF;simp
 have A:(iF S x y).u y=x:=by unfold iF;simp
 refine⟨⟨rfl,by grind,?_,by rw[t];exact q⟩,λz a=>?_⟩
 .rw[s];refine⟨rfl,A,?_,?_⟩
  .rw[v];refine r.frame (λz a=>Ki (λe=>c x σ z (by simp[a]) e.symm) (λe=>p (by grind)) (λe=>c z (by grind) z (by simp[a]) rfl))
  .rw[w];refine k.Rv o (λz a=>?_) (λD=>?_)
   .have B:z≠x:=λe=>j (by grind);have h:z≠y:=λe=>c z (by simp[a]) y σ e;refine⟨by unfold iF;simp[B],by unfold iF;simp[h],λE=>?_⟩;have C:(z:Int)≠S.l x:=λe=>E (by grind);unfold iF;simp[h,C]
   .have n:=cB D;have h:l.root.toNat≠y:=λe=>c _ (Λ _ n.1) y σ e
    show(if l.root.toNat=y then(x:Int) else if((l.root.toNat:Nat):Int)=S.l x then(y:Int) else S.u l.root.toNat)=y
    grind
 .simp only[τ,ρ,not_or] at a;exact Ki a.1.1 a.2.1 (λe=>a.1.2 (d z e))
/-! ### a tree comes off -/
def lq(S:TS)(p:Nat)(s:Bool)(x:Nat):TS:=
 ⟨λz=>if s=false/\z=p then S.r x else S.l z,λz=>if z=x then -1 else if s=true/\z=p then S.r x else S.r z,λz=>if z=x then -1 else if(z:Int)=S.r x then p else S.u z⟩
def BX{S:TS}{f:Fr}{P:List Fr}{x:Nat}{l r:BT}(h:dL S (-1) (ak (f::P) (.node x l r)).root (ak (f::P) (.node x l r)))(U:(ak (f::P) (.node x l r)).nodes.Nodup):
  dL (lq S f.1 f.2.1 x) (-1) x (.node x l .nil)/\dL (lq S f.1 f.2.1 x) (-1) (ak (f::P) r).root (ak (f::P) r)/\(∀y,y∉(ak (f::P) (.node x l r)).nodes->S.at (lq S f.1 f.2.1 x) y)/\
   S.kid f.2.1 f.1=x/\(f.2.1=true->S.l f.1≠x)/\S.u x=f.1:=by
 obtain⟨q,H⟩:=(fe _ _).1 h;have k:=(aV (f::P) (.node x l r)).nodup_iff.1 U;have m:∀y,y∈(ak (f::P) (.node x l r)).nodes↔y∈(BT.node x l r).nodes\/y∈ed (f::P):=λy=>by rw[(aV (f::P) (.node x l r)).mem_iff,τ]
 rw[θ] at k;obtain⟨B,I,i⟩:=k;obtain⟨_,g2,J,C⟩:=q;obtain⟨D,s,K,L⟩:=H;simp only[BT.nodes,Ζ,τ,not_or,θ] at B;obtain⟨⟨M,E⟩,W,N,O⟩:=B;have t:f.1≠x:=λe=>i x (by simp[BT.nodes]) f.1 (by simp[ed]) e.symm;have n:S.r x=r.root:=C.root;have c:∀z:Nat,(z:Int)=S.r x->z∈r.nodes:=λz a=>by
  rw[n] at a
  by_cases e:r=.nil
  .rw[e] at a;simp[BT.root] at a
  .have q:=cB e
   grind
 have d:∀z,z≠f.1->z≠x->(z:Int)≠S.r x->S.at (lq S f.1 f.2.1 x) z:=λz j b w=>by
  unfold lq TS.at;simp[j,b,w]
 have o:f.2.1=true->S.l f.1≠x:=λe T=>by
  rw[e] at s;have Q:=s.root;have u:f.2.2.root=(x:Int):=by rw[←Q];simpa[TS.kid] using T
  have R:f.2.2≠.nil:=λe=>by rw[e] at u;simp[BT.root] at u
  have F:=(cB R).1;rw[u,π] at F;exact i x (by simp[BT.nodes]) x (by simp[ed,F]) rfl
 have g:∀z,z∈ed (f::P)->z≠x/\(z:Int)≠S.r x:=λz a=>⟨λe=>i x (by simp[BT.nodes]) z a e.symm,λe=>i z (by simp[BT.nodes,c z e]) z a rfl⟩
 refine⟨⟨rfl,by unfold lq;simp,?_,?_⟩,(fe _ _).2 ⟨?_,?_⟩,λy p=>?_,D,o,g2⟩
 .have e:(lq S f.1 f.2.1 x).l x=S.l x:=by have v:¬x=f.1:=λe=>t e.symm;unfold lq;simp[v]
  rw[e];refine J.frame (λz a=>d z (λe=>i z (by simp[BT.nodes,a]) f.1 (by simp[ed]) e) (λe=>M (by grind)) (λe=>O z a z (c z e) rfl))
 .show(lq S f.1 f.2.1 x).r x=-1
  unfold lq;simp
 .rw[←n];refine C.Rv N (λz a=>?_) (λA=>?_)
  .have j:z≠f.1:=λe=>i z (by simp[BT.nodes,a]) f.1 (by simp[ed]) e;have b:z≠x:=λe=>E (by grind);refine⟨by unfold lq;simp[j],by unfold lq;simp[j,b],λA=>?_⟩;have w:(z:Int)≠S.r x:=λe=>A (by grind);unfold lq;simp[b,w]
  .have q:=cB A;have b:r.root.toNat≠x:=λe=>E (by grind)
   show(if r.root.toNat=x then(-1:Int) else if((r.root.toNat:Nat):Int)=S.r x then(f.1:Int) else S.u r.root.toNat)=f.1
   grind
 .have G:=g f.1 (by simp[ed]);refine Xp.other (S:=S) (z:=x) ⟨D,s,K,L⟩ I ?_ ?_ ?_ (λz j b=>d z j (g z b).1 (g z b).2)
  .unfold TS.kid lq
   grind
  .unfold TS.kid lq
   grind
  .unfold lq;simp[G.1,G.2]
 .rw[m,not_or] at p;exact d y (λe=>p.2 (by simp[ed,e])) (λe=>p.1 (by simp[BT.nodes,e])) (λe=>p.1 (by simp[BT.nodes,c y e]))
def xY(P:List Fr)(x:Nat)(l r:BT):(ak P (.node x l r)).nodes.Perm ((BT.node x l .nil).nodes++(ak P r).nodes):=by
 refine(aV P _).trans ?_;refine ϝ ?_ ((aV P r).symm.append_left _);simp[BT.nodes,ϋ]
def Cj{A:NS}{P:List Fr}{x:Nat}{l r:BT}(h:eH A (ak P (.node x l r))):eH A (.node x l .nil)/\eH A (ak P r):=by
 have a:=zD h;exact⟨⟨a.1,a.2.1,trivial⟩,aaA h a.2.2 (λy b=>by simp[BT.nodes,b])⟩
/-! ### what is below a thing comes off it -/
def bP:BT->List BT
 | .nil=>[]
 | .node x l r=>.node x l .nil::bP r
def gY(l:List BT):List Nat:=l.flatMap BT.nodes
def jJ:∀(t:BT),(gY (bP t)).Perm t.nodes
 | .nil=>ό _
 | .node x l r=>by
  unfold gY;simp only[bP,List.flatMap_cons,BT.nodes,Υ,List.cons_append];exact List.Perm.cons x ((jJ r).append_left _)
def FM{A:NS}:∀{t:BT},eH A t->∀u,u∈bP t->eH A u/\Lone u
 | .nil,_,u,hu=>by cases hu
 | .node x l r,h,u,hu=>by
  simp only[bP,ρ] at hu;rcases hu with e|e
  .subst e;exact⟨⟨h.1,h.2.1,trivial⟩,rfl⟩
  .exact FM h.2.2 u e
def dV(l:List BT):List Int:=l.map BT.root
def gV(S:TS)(x:Nat)(ks:List Int):TS:=⟨λz=>if z=x then -1 else S.l z,λz=>if(z:Int)∈ks then -1 else S.r z,λz=>if(z:Int)∈ks then -1 else S.u z⟩
def KJ{t u:BT}(a:u∈bP t):u.root.toNat∈u.nodes/\u.root=(u.root.toNat:Int)/\u.root∈dV (bP t):=by
 refine⟨?_,?_,List.mem_map.2 ⟨u,a,rfl⟩⟩
 all_goals
  induction t with
  |nil=>cases a
  |node x l r _ b=>
   simp only[bP,ρ] at a;rcases a with e|e
   .subst e;simp[BT.root,BT.nodes]
   .exact b e
def Pg{t:BT}{z:Nat}(h:(z:Int)∈dV (bP t)):z∈t.nodes:=by
 obtain⟨u,a,e⟩:=List.mem_map.1 h;have b:=KJ a;refine(jJ t).mem_iff.1 (List.mem_flatMap.2 ⟨u,a,?_⟩)
 grind
def Km{S:TS}{x:Nat}{c:List Int}:∀{t:BT} {p:Int},dL S p t.root t->t.nodes.Nodup->x∉t.nodes->(∀z:Nat,z∈t.nodes->((z:Int)∈c↔(z:Int)∈dV (bP t)))->
  ∀u,u∈bP t->dL (gV S x c) (-1) u.root u
 | .nil,_,_,_,_,_,u,hu=>by cases hu
 | .node y l r,p,h,hn,hx,hk,u,hu=>by
  simp only[BT.nodes,ρ,τ,not_or] at hx;simp only[BT.nodes,Ζ,τ,not_or,θ] at hn;obtain⟨⟨i,j⟩,v,k,m⟩:=hn;obtain⟨_,w,n,d⟩:=h;have g:∀z:Nat,z∈l.nodes->(z:Int)∉c:=λz a s=>by
   have:=(hk z (by simp[BT.nodes,a])).1 s;simp only[dV,bP,List.map_cons,ρ,BT.root] at this;rcases this with e|e
   .have:z=y:=ω;exact i (by grind)
   .exact m z a z (Pg e) rfl
  simp only[bP,ρ] at hu;rcases hu with e|e
  .subst e;have b:(y:Int)∈c:=(hk y (by simp[BT.nodes])).2 (by simp[dV,bP,BT.root]);refine⟨rfl,by simp[gV,b],?_,by simp[gV,b,dL]⟩;have o:(gV S x c).l y=S.l y:=by have f:¬y=x:=λe=>hx.1 e.symm;simp[gV,f]
   rw[o];exact n.frame (λz a=>⟨by simp[gV,show z≠x from λe=>hx.2.1 (by grind)],by simp[gV,g z a],by simp[gV,g z a]⟩)
  .have q:=d.root;rw[q] at d;refine Km d k hx.2.2 (λz a=>?_) u e;rw[hk z (by simp[BT.nodes,a])];simp only[dV,bP,List.map_cons,ρ,BT.root];constructor
   .rintro(e|e)
    .have:z=y:=ω;exact absurd (by grind) j
    .exact e
   .exact Β
def WU{S:TS}{x z:Nat}{a:List Int}(b:z≠x)(c:(z:Int)∉a):S.at (gV S x a) z:=by unfold gV TS.at;simp[b,c]
noncomputable def dK(A:NS):List BT->List BT
 | []=>[]
 | [a]=>[a]
 |a::b::l=>dG A a b::dK A l
noncomputable def gJ(A:NS)(l:List BT):BT:=l.foldr (dG A) .nil
def cu(t:BT)(l:List BT):gY (t::l)=t.nodes++gY l:=rfl
def gI(l m:List BT):gY (l++m)=gY l++gY m:=by unfold gY;rw[List.flatMap_append]
def vI(A:NS):∀(l:List BT),(dK A l).length=(l.length+1) / 2
 | []=>rfl
 | [_]=>by simp[dK]
 |a::b::l=>by
  show(dK A l).length+1=_
  rw[vI A l];simp;omega
def Ef(A:NS):∀(l:List BT),(∀t,t∈l->Lone t)->(gY (dK A l)).Perm (gY l)
 | [],_=>ό _
 | [_],_=>ό _
 |a::b::l,h=>by
  show(gY (dG A a b::dK A l)).Perm _
  rw[cu,cu,cu,←ϋ];exact(lJ A (h a σ) (h b σ)).append (Ef A l (λt ht=>h t (by simp[ht])))
def zC(A:NS):∀(l:List BT),(∀t,t∈l->Lone t)->(gJ A l).nodes.Perm (gY l)/\Lone (gJ A l)
 | [],_=>⟨ό _,trivial⟩
 |a::l,h=>by
  have ih:=zC A l (λt ht=>h t (by simp[ht]));exact⟨(lJ A (h a σ) ih.2).trans (ih.1.append_left _),mV A (h a σ) ih.2⟩
def xx(A:NS):∀(k:Nat) (l:List BT),2*k<=l.length->dK A l=(dK A l).take k++dK A (l.drop (2*k))
 |0,l,_=>σ
 |k+1,[],h=>by simp at h
 |k+1,[_],h=>by simp at h;omega
 |k+1,a::b::l,h=>by
  have h1:=xx A k l (by grind)
  show dG A a b::dK A l=_
  rw[show 2*(k+1)=2*k+2 by omega];simp only[dK,List.take_succ_cons,List.cons_append,List.drop_succ_cons];rw[←h1]


open Go Go.RowKit

structure PB where
 n0:Nat
 c:Nat
 ba:Nat
structure iC(w:World)(B:PB)(F:List Nat)(gt ct:Nat)(A:NS)(st:Nat)(S:TS)(ai:List Int):Prop where
 head:aQ w B.n0 188 3 (λj=>[Value.pointer (some B.c),.slice (some B.ba) A.cs.length A.cs.length,.slice (some gt) ai.length ct].getD j undef)
 cells:aD w B.c F A st
 ties:aQ w B.ba 190 (A.cs.length*3) (dZ S)
 iP:IZ w gt ct ai
 iY:ai.length=A.hs.length
 bQ:B.n0∉F/\B.ba∉F/\gt∉F
 sep:B.n0≠B.ba/\B.n0≠gt/\B.ba≠gt
section
variable{w:World}{B:PB}{F:List Nat}{gt ct:Nat}{A:NS}{st:Nat}{S:TS}{ai:List Int}
def PB.blk(B:PB)(F:List Nat)(gt:Nat):List Nat:=B.n0::B.ba::gt::F
def iC.upd{w':World}{G:List Nat}(h:iC w B F gt ct A st S ai)(a:ae G w w')(d:∀x,x∈G->x∉B.blk F gt):iC w' B F gt ct A st S ai:=by
 have b:∀x,x∈B.blk F gt->x∉G:=λx c e=>d x e c;exact⟨h.head.upd a (b _ (by simp[PB.blk])),h.cells.upd a (λx c=>λf=>d x c (by simp[PB.blk,f])),h.ties.upd a (b _ (by simp[PB.blk])),h.iP.upd a (b _ (by simp[PB.blk])),h.iY,h.bQ,h.sep⟩
def iC.ag{w':World}(h:iC w B F gt ct A st S ai)(a:ae [] w w'):iC w' B F gt ct A st S ai:=h.upd a σ
def iC.lt(h:iC w B F gt ct A st S ai):∀x,x∈B.blk F gt->x<w.heap.size:=by
 intro x a;have:=h.head.lt;have:=h.ties.lt;have:=h.iP.lt;simp only[PB.blk,ρ] at a;rcases a with rfl|rfl|rfl|a
 .assumption
 .assumption
 .assumption
 .exact h.cells.lt x a
def iC.cF(h:iC w B F gt ct A st S ai):B.c∈F:=h.cells.mem
def iC.h0(h:iC w B F gt ct A st S ai):w.cell? B.n0=some (B.c:V):=h.head.cellAt 0 ω rfl
def iC.h1(h:iC w B F gt ct A st S ai):w.cell? ⟨B.n0,1,none⟩=some (.slice (some B.ba) A.cs.length A.cs.length):=h.head.cellAt 1 ω rfl
def iC.h2(h:iC w B F gt ct A st S ai):w.cell? ⟨B.n0,2,none⟩=some (.slice (some (gt:Nat)) ai.length ct):=h.head.cellAt 2 ω rfl
def iC.l(h:iC w B F gt ct A st S ai)(x:Nat)(a:x<A.cs.length):w.cell? ⟨B.ba,x*3,none⟩=some (.int .i64 (S.l x)):=h.ties.cellAt _ ω (rW S x)
def iC.r(h:iC w B F gt ct A st S ai)(x:Nat)(a:x<A.cs.length):w.cell? ⟨B.ba,x*3+1,none⟩=some (.int .i64 (S.r x)):=h.ties.cellAt _ ω (rT S x)
def iC.u(h:iC w B F gt ct A st S ai)(x:Nat)(a:x<A.cs.length):w.cell? ⟨B.ba,x*3+2,none⟩=some (.int .i64 (S.u x)):=h.ties.cellAt _ ω (vU S x)
def iC.f(h:iC w B F gt ct A st S ai)(j:Nat):w.frozen? ⟨B.ba,j,none⟩=false:=h.ties.free j
def iC.iT{w':World}{b:TS}(h:iC w B F gt ct A st S ai)(a:ae [B.ba] w w')(c:aQ w' B.ba 190 (A.cs.length*3) (dZ b)):iC w' B F gt ct A st b ai:=by
 have s:=h.sep;have f:=h.bQ;exact⟨h.head.upd a ζ,h.cells.upd a (λx d=>by grind),c,h.iP.upd a ζ,h.iY,f,s⟩
def iC.ext{a:TS}(h:iC w B F gt ct A st S ai)(b:∀x,a.l x=S.l x/\a.r x=S.r x/\a.u x=S.u x):iC w B F gt ct A st a ai:=by
 have e:a=S:=by
  cases S;cases a;simp only[TS.mk.injEq]
  grind
 rw[e];exact h
def YC(S:TS)(p:Nat)(v:Int)(j:Nat):(if j=p*3 then Value.int .i64 v else dZ S j)=dZ (S.aM p false v) j:=by
 unfold dZ TS.aM
 grind
def YU(S:TS)(p:Nat)(v:Int)(j:Nat):(if j=p*3+1 then Value.int .i64 v else dZ S j)=dZ (S.aM p true v) j:=by
 unfold dZ TS.aM
 grind
def XV(S:TS)(p:Nat)(v:Int)(j:Nat):(if j=p*3+2 then Value.int .i64 v else dZ S j)=dZ (S.dE p v) j:=by
 unfold dZ TS.dE
 grind
def iC.MG(h:iC w B F gt ct A st S ai)(p:Nat)(v:Int):iC (w.setCell ⟨B.ba,p*3,none⟩ (.int .i64 v)) B F gt ct A st (S.aM p false v) ai:=
 h.iT β ((h.ties.set _ _).ext (λj _=>YC S p v j))
def iC.dm(h:iC w B F gt ct A st S ai)(p:Nat)(v:Int):iC (w.setCell ⟨B.ba,p*3+1,none⟩ (.int .i64 v)) B F gt ct A st (S.aM p true v) ai:=
 h.iT β ((h.ties.set _ _).ext (λj _=>YU S p v j))
def iC.uW(h:iC w B F gt ct A st S ai)(p:Nat)(v:Int):iC (w.setCell ⟨B.ba,p*3+2,none⟩ (.int .i64 v)) B F gt ct A st (S.dE p v) ai:=
 h.iT β ((h.ties.set _ _).ext (λj _=>XV S p v j))
def iC.mW(h:iC w B F gt ct A st S ai)(x:Nat)(k:Int):iC (w.setCell ⟨gt,x,none⟩ (.int .i64 k)) B F gt ct A st S (ai.set x k):=by
 have s:=h.sep;have f:=h.bQ;have a:ae [gt] w (w.setCell ⟨gt,x,none⟩ (.int .i64 k)):=β;exact⟨by rw[Ι];exact h.head.upd a ζ,h.cells.upd a (λx b=>by grind),h.ties.upd a ζ,h.iP.set x k,by rw[Ι];exact h.iY,f,s⟩
def iC.cK{w':World}{F':List Nat}{A':NS}{a:Nat}(h:iC w B F gt ct A st S ai)(c:ae F w w')(n:aD w' B.c F' A' a)(o:∀x,x∈F'->x∈F\/w.heap.size<=x)(e:A'.cs.length=A.cs.length)(p:A'.hs.length=A.hs.length):iC w' B F' gt ct A' a S ai:=by
 have f:=h.bQ;have g:=h.lt;have b:∀x,x<w.heap.size->x∉F->x∉F':=λx q l m=>by rcases o x m with d|d;exact l d;omega
 have i:=g B.n0 (by simp[PB.blk]);have j:=g B.ba (by simp[PB.blk]);have k:=g gt (by simp[PB.blk]);exact⟨by rw[e];exact h.head.upd c f.1,n,by rw[e];exact h.ties.upd c f.2.1,h.iP.upd c f.2.2,by rw[p];exact h.iY,⟨b _ i f.1,b _ j f.2.1,b _ k f.2.2⟩,h.sep⟩
end
def ny(w:World)(B:PB)(F:List Nat)(gt ct:Nat)(A:NS)(st:Nat)(tr:Nat->BT):Prop:=∃S ai,iC w B F gt ct A st S ai/\xk Ml A S ai tr/\∀h,Lone (tr h)
def ny.upd{w w':World}{B:PB}{F G:List Nat}{gt ct st:Nat}{A:NS}{tr:Nat->BT}(h:ny w B F gt ct A st tr)(c:ae G w w')(d:∀x,x∈G->x∉B.blk F gt):ny w' B F gt ct A st tr:=by
 obtain⟨S,ai,a,b⟩:=h;exact⟨S,ai,a.upd c d,b⟩
def ny.ag{w w':World}{B:PB}{F:List Nat}{gt ct st:Nat}{A:NS}{tr:Nat->BT}(h:ny w B F gt ct A st tr)(a:ae [] w w'):ny w' B F gt ct A st tr:=h.upd a σ
section
variable{w:World}{B:PB}{F:List Nat}{gt ct:Nat}{A:NS}{st:Nat}{S:TS}{ai:List Int}
def Ej(S:TS)(x y:Nat)(h:S.l x=-1):∀z,(iF S x y).l z=((((S.aM y true (S.l x)).dE y x).aM x false y)).l z/\(iF S x y).r z=((((S.aM y true (S.l x)).dE y x).aM x false y)).r z/\(iF S x y).u z=((((S.aM y true (S.l x)).dE y x).aM x false y)).u z:=λz=>by
 unfold iF TS.aM TS.dE;rw[h];refine⟨σ,σ,?_⟩;have:¬(z:Int)=-1:=ω;simp[this]
def ER(S:TS)(x y o:Nat)(h:S.l x=o)(b:o≠y):∀z,(iF S x y).l z=(((((S.aM y true (S.l x)).dE y x).dE o y).aM x false y)).l z/\(iF S x y).r z=(((((S.aM y true (S.l x)).dE y x).dE o y).aM x false y)).r z/\(iF S x y).u z=(((((S.aM y true (S.l x)).dE y x).dE o y).aM x false y)).u z:=λz=>by
 unfold iF TS.aM TS.dE;rw[h];refine⟨σ,σ,?_⟩;simp only[Ϟ,if_false,if_true]
 by_cases a:z=y
 .subst a;rw[Δ rfl,Γ (λe=>b e.symm),Δ rfl]
 .rw[Γ a]
  by_cases c:z=o
  .subst c;simp
  .rw[Γ (show ¬(z:Int)=(o:Int) by omega),Γ c,Γ a]
def yx(b:Int)(w:World)(a:Nat):Calls prog 205 #[a,(-1:Int),b] w λe w'=>e=.returned b/\w'=w:=by
 go_enter func205,ntmps205
 go_wp2;go_ret;exact⟨rfl,rfl⟩
def GH(a:Int)(w:World)(b:Nat):Calls prog 205 #[b,a,(-1:Int)] w λe w'=>e=.returned a/\w'=w:=by
 by_cases h:a=-1
 .subst h;exact yx (-1) w b
 .have c:(a == -1)=false:=by simpa using h
  go_enter func205,ntmps205
  go_wp2;go_ret;exact⟨rfl,rfl⟩
def KG(h:iC w B F gt ct A st S ai)(x y:Nat)(R:bY A (x:Int)=true)(T:bY A (y:Int)=true)(hxy:x≠y)(t:S.l x=-1\/(0<=S.l x/\S.l x<A.cs.length))(u:S.l y=-1\/(0<=S.l y/\S.l y<A.cs.length))(v:S.l x≠y)(C:S.l y≠x):
  Calls prog 205 #[B.n0,(x:Int),(y:Int)] w λe w'=>e=.returned ((if dA A y x then y else x:Nat):Int)/\(∃Q,iC w' B F gt ct A Q (if dA A y x then iF S y x else iF S x y) ai)/\ae [B.ba,B.c] w w':=by
 have D:=fA h.cells y x T R;have n:=(aj _ _).1 R;have p:=(aj _ _).1 T;have c0:=h.h0;have b:∀l,aD l B.c F A (dw st 1)->ae [B.c] w l->iC l B F gt ct A (dw st 1) S ai:=λl m hu=>h.cK (hu.mono (λz G=>by simp at G;rw[G];exact h.cF)) m (λz G=>Α G) rfl rfl;have W:((x:Int) == -1)=false:=σ;have X:((y:Int) == -1)=false:=σ;have U:=χ (ψ b h.sep);have Dy:(x:Int)<(A.cs.length:Int):=ω;have XN:(y:Int)<(A.cs.length:Int):=ω;clear h R T b
 by_cases c:dA A y x
 .rw[Ν c] at D;rw[Δ c,Δ c];clear c t
  go_enter func205,ntmps205
  go_upto_region 7 with((((with_reducible refine D.mono ?_));rintro e l ⟨rfl,m,d⟩))
  obtain⟨b,a⟩:=U.out;have f:=b l m d;have Y:=f.h1;have E:=f.l y p.1;have Z:=f.r x n.1;have du:=f.u x n.1;have ff:=f.f;have H:¬B.n0=B.ba:=a.1;have I:¬B.ba=B.n0:=λe=>a.1 e.symm;have i:=χ (ψ f d);have J:¬y*3=x*3+1:=ω;have K:¬y*3=x*3+2:=ω;clear f d m b a D
  by_cases j:S.l y=-1
  .have HO:=χ j;have g:=Ej S y x j;rw[j] at E g;have q:=χ g;clear j g u C
   go_upto_region 8 with(fail)
   go_region_law (fail)
   all_goals
    go_wp2;go_ret;refine⟨rfl,⟨_,iC.ext ((((i.out.1.dm x (-1)).uW x y).MG y x).ag ?_) q.out⟩,(i.out.2.mono σ).trans ?_⟩
    .exact ν
    .exact β
  .obtain⟨o,k⟩:∃o:Nat,S.l y=o:=⟨(S.l y).toNat,ω⟩;have r:o<A.cs.length:=ω;have s:o≠x:=λe=>C (by rw[k,e]);have g:=ER S y x o k s;rw[k] at E g;have q:=χ g;have K9:((o:Int) != -1)=true:=σ;have L:(o:Int)<(A.cs.length:Int):=ω;have M:=i.out.1.u o r;have N:¬o*3+2=x*3+1:=ω;have O:¬o*3+2=x*3+2:=ω;have P:¬y*3=o*3+2:=ω;clear j g k u C
   go_upto_region 8 with(fail)
   go_region_law (fail)
   all_goals
    go_wp2;go_ret;refine⟨rfl,⟨_,iC.ext (((((i.out.1.dm x (o:Int)).uW x y).uW o x).MG y x).ag ?_) q.out⟩,(i.out.2.mono σ).trans ?_⟩
    .exact ν
    .exact β
 .rw[Ξ c] at D;rw[Γ c,Γ c];clear c u
  go_enter func205,ntmps205
  go_upto_region 7 with((((with_reducible refine D.mono ?_));rintro e l ⟨rfl,m,d⟩))
  obtain⟨b,a⟩:=U.out;have f:=b l m d;have Y:=f.h1;have E:=f.l x n.1;have Z:=f.r y p.1;have du:=f.u y p.1;have ff:=f.f;have H:¬B.n0=B.ba:=a.1;have I:¬B.ba=B.n0:=λe=>a.1 e.symm;have i:=χ (ψ f d);have J:¬x*3=y*3+1:=ω;have K:¬x*3=y*3+2:=ω;clear f d m b a D
  by_cases j:S.l x=-1
  .have HO:=χ j;have g:=Ej S x y j;rw[j] at E g;have q:=χ g;clear j g t v
   go_upto_region 8 with(fail)
   go_region_law (fail)
   all_goals
    go_wp2;go_ret;refine⟨rfl,⟨_,iC.ext ((((i.out.1.dm y (-1)).uW y x).MG x y).ag ?_) q.out⟩,(i.out.2.mono σ).trans ?_⟩
    .exact ν
    .exact β
  .obtain⟨o,k⟩:∃o:Nat,S.l x=o:=⟨(S.l x).toNat,ω⟩;have r:o<A.cs.length:=ω;have s:o≠y:=λe=>v (by rw[k,e]);have g:=ER S x y o k s;rw[k] at E g;have q:=χ g;have K9:((o:Int) != -1)=true:=σ;have L:(o:Int)<(A.cs.length:Int):=ω;have M:=i.out.1.u o r;have N:¬o*3+2=y*3+1:=ω;have O:¬o*3+2=y*3+2:=ω;have P:¬x*3=o*3+2:=ω;clear j g k t v
   go_upto_region 8 with(fail)
   go_region_law (fail)
   all_goals
    go_wp2;go_ret;refine⟨rfl,⟨_,iC.ext (((((i.out.1.dm y (o:Int)).uW y x).uW o y).MG x y).ag ?_) q.out⟩,(i.out.2.mono σ).trans ?_⟩
    .exact ν
    .exact β
end
def zX{a b:List Nat}(h:(a++b).Nodup):(b++a).Nodup:=(Φ (l₁:=a) (l₂:=b)).nodup_iff.1 h
def xC{S:TS}{p z:Int}{t:BT}{n:Nat}(h:dL S p z t)(b:∀y,y∈t.nodes->y<n):z=-1\/(0<=z/\z<n):=by
 rw[h.root]
 by_cases e:t=.nil
 .left;rw[e];rfl
 .right;have a:=cB e
  grind
section
variable{w:World}{B:PB}{F:List Nat}{gt ct:Nat}{A:NS}{st:Nat}{S:TS}{ai:List Int}
def vY(h:iC w B F gt ct A st S ai)(a b:BT)(s:dL S (-1) a.root a)(C:dL S (-1) b.root b)(W:Lone a)(X:Lone b)(D:(a.nodes++b.nodes).Nodup)(g:∀z,z∈a.nodes++b.nodes->bY A (z:Int)=true):
  Calls prog 205 #[B.n0,a.root,b.root] w λe w'=>e=.returned (.int .i64 (dG A a b).root)/\ae [B.ba,B.c] w w'/\∃d L,iC w' B F gt ct A d L ai/\dL L (-1) (dG A a b).root (dG A a b)/\∀z,z∉a.nodes++b.nodes->S.at L z:=by
 cases a with
 |nil=>
  rw[wM];refine(yx b.root w B.n0).mono ?_;rintro e w' ⟨rfl,rfl⟩;exact⟨rfl,ae.refl _ _,st,S,h,C,λz _=>⟨rfl,rfl,rfl⟩⟩
 |node x l r=>
  cases b with
  |nil=>
   rw[tq];refine(GH (BT.node x l r).root w B.n0).mono ?_;rintro e w' ⟨rfl,rfl⟩;exact⟨rfl,ae.refl _ _,st,S,h,s,λz _=>⟨rfl,rfl,rfl⟩⟩
  |node y m q=>
   have P:r=.nil:=W;have Q:q=.nil:=X;subst P Q;have o:∀z,z∈(BT.node x l .nil).nodes++(BT.node y m .nil).nodes->z<A.cs.length:=λz c=>((aj _ _).1 (g z c)).1;have G:x≠y:=λe=>by
    rw[θ] at D;exact D.2.2 x (by simp[BT.nodes]) y (by simp[BT.nodes]) e
   have H:=xC (n:=A.cs.length) s.2.2.1 (λz c=>o z (by simp[BT.nodes,c]));have I:=xC (n:=A.cs.length) C.2.2.1 (λz c=>o z (by simp[BT.nodes,c]));have p:∀{u:Nat} {t t':BT},S.l u=t.root->(∀z,z∈t.nodes->z∉t'.nodes)->∀v,v∈t'.nodes->S.l u≠(v:Int):=λ{u t t'} j k v T e=>by
    rw[j] at e;have R:t≠.nil:=λU=>by rw[U] at e;simp[BT.root] at e
    have N:=(cB R).1;rw[e,π] at N;exact k v N T
   have f:=D;rw[θ] at f;have J:S.l x≠(y:Int):=p (t':=.node y m .nil) s.2.2.1.root (λz c i=>f.2.2 z (by simp[BT.nodes,c]) z i rfl) y (by simp[BT.nodes]);have K:S.l y≠(x:Int):=p (t':=.node x l .nil) C.2.2.1.root (λz c i=>f.2.2 z i z (by simp[BT.nodes,c]) rfl) x (by simp[BT.nodes]);refine(KG h x y (g x (by simp[BT.nodes])) (g y (by simp[BT.nodes])) G H I J K).mono ?_;rintro e w' ⟨rfl,⟨d,E⟩,M⟩;rw[sP]
   by_cases O:dA A y x
   .simp only[Δ O] at E ⊢;obtain⟨j,k⟩:=En C s (zX D);exact⟨rfl,M,d,_,E,j,λz c=>k z (λi=>c (by rw[τ] at i ⊢;exact i.symm))⟩
   .simp only[Γ O] at E ⊢;obtain⟨j,k⟩:=En s C D;exact⟨rfl,M,d,_,E,j,k⟩
end
def Y6:(prog.info? 190).map (λi=>(i.zero,i.size,i.bytes))=some (some (.agg #[(0:Int),(0:Int),(0:Int)]),3,24):=by kernel_rfl
def QJ(n:Nat):xk Ml (NS.new n) TS.none [-1] (λ_=>.nil):=FW n
def SL(n:Nat)(w:World)(h:n<=65536):
  Calls prog 62 #[(n:Int)] w λe w'=>∃B F gt,e=.returned (.tuple #[B.n0,(0:Int)])/\ny w' B F gt 1 (NS.new n) 0 (λ_=>.nil)/\ae [] w w'/\∀x,x∈B.blk F gt->w.heap.size<=x:=by
 have g:(NS.new n).cs.length=n:=by simp[NS.new]
 have K:=χ g;clear g
 go_enter func62,ntmps62
 go_wp2_with (first
  |(((with_reducible refine(pR n _ h).mono ?_));rintro e r ⟨c,F,rfl,J,t,C⟩)
  | (at_make;refine wpList_make_row rfl _ 186 rfl 190 (.agg #[(0:Int),(0:Int),(0:Int)]) 3 24 underlying186 Y6 n rfl ω μ ?_;intro a u o))
 have T:=t.size;have U:=o.size;have W:=u.lt;have M:=J.lt;have N:((a.alloc (.cells #[(-1:Int)] 3)).heap.size)=a.heap.size+1:=by rw[Κ]
 have O:ae [] a (a.alloc (.cells #[(-1:Int)] 3)):=(ae.refl _ _).alloc _;obtain⟨v,z⟩:∃v,v=(a.alloc (.cells #[(-1:Int)] 3)).alloc (.cells #[(c:Nat),.slice (some r.heap.size) n n,.slice (some a.heap.size) 1 1] 188):=⟨_,rfl⟩;have H:ae [] a v:=by rw[z];exact O.alloc _
 have A:=eO (a.alloc (.cells #[(-1:Int)] 3)) [.pointer (some (c:Nat)),.slice (some r.heap.size) n n,.slice (some a.heap.size) 1 1] 188;rw[N] at A;rw[←z] at A;have E:IZ v a.heap.size 1 [-1]:=by rw[z];exact(IZ.lit a [-1] σ).upd ((ae.refl [] _).alloc _) σ
 have D:aD v c F (NS.new n) 0:=(J.ag o).ag H;have y:=u.upd H σ;have G:ae [] w v:=(t.trans o).trans H;have q:∀x,x∈F->x<r.heap.size:=M;have b:∀x,r.heap.size<=x->x∉F:=λx m Q=>by have:=q x Q;omega
 rw[←z];clear z N O o u H J;have P:=χ (ψ D (ψ E (ψ G (ψ C (ψ q b)))));clear D E G C q b t M;go_wp2
 go_loopw [7,27] (λv7 i wr=>∃(k:Nat) (f:Nat->Value),k<=n/\i=.int .i64 k/\aQ wr (a.heap.size+1) 188 3 (λj=>[Value.pointer (some (c:Nat)),.slice (some r.heap.size) n n,.slice (some a.heap.size) 1 1].getD j undef)/\aQ wr r.heap.size 190 (n*3) f/\(∀j,j<k*3->f j=.int .i64 (-1))/\ae [r.heap.size] v wr) (λ_ i _=>n-(intOf i).toNat)
 case atStart=>exact⟨0,_,ω,rfl,A.ext (λj I=>by(have X:j<3:=by simpa using I);rcases(ω:j=0\/j=1\/j=2) with rfl|rfl|rfl<;>rfl),y,ω,ae.refl _ _⟩
 case round=>
  obtain⟨k,f,S,rfl,p,d,s,l⟩:=hrel;rename World=>wr
  by_cases R:k<n
  .have Y:=p.cellAt 1 ω rfl;have Z:=d.cell (k*3) ω;have d1:=d.cell (k*3+1) ω;have d2:=d.cell (k*3+2) ω;have e0:=d.free (k*3);have e1:=d.free (k*3+1);have e2:=d.free (k*3+2);have L:=χ (ψ s (ψ p (ψ d l)));clear s p d l A y;go_wp2
   go_roundw
   case rel=>
    obtain⟨s,p,d,l⟩:=L.out;refine⟨k+1,_,ω,by go_num,((p.far _ _ ζ).far _ _ ζ).far _ _ ζ,((d.set _ _).set _ _).set _ _,λj I=>?_,((l.setCell (Α σ) _).setCell (Α σ) _).setCell (Α σ) _⟩
    show(if j=k*3+2 then _ else if j=k*3+1 then _ else if j=k*3 then _ else f j)=_
    split
    .rfl
    .split
     .rfl
     .split
      .rfl
      .exact s j ω
   case measure=>simp[intOf];omega
  .obtain rfl:k=n:=ω;have L:=χ (ψ s (ψ p (ψ d l)));clear s p d l A y;go_wp2;go_ret2;obtain⟨s,p,d,l⟩:=L.out;obtain⟨D,E,G,C,q,b⟩:=P.out;have g:=K.out;refine⟨⟨a.heap.size+1,c,r.heap.size⟩,F,a.heap.size,rfl,⟨TS.none,[-1],⟨by rw[g];exact p,D.upd l (λx m=>by simp at m;rw[m];exact b _ (Θ _)),?_,E.upd l ζ,rfl,⟨b _ (by simp only;omega),b _ (by simp only;omega),b _ ω⟩,⟨by simp only;omega,by simp only;omega,by simp only;omega⟩⟩,QJ _,λ_=>trivial⟩,G.joined l (λx m=>Β (by simp at m;omega)),λx m=>?_⟩
   .rw[g];exact d.ext (λj I=>by rw[s j I];unfold dZ TS.none;simp)
   .simp only[PB.blk,ρ] at m;rcases m with rfl|rfl|rfl|m
    .omega
    .omega
    .omega
    .exact C x m
def xk.acX{A:NS}{S:TS}{ai:List Int}{tr:Nat->BT}(h:xk Ml A S ai tr)(q:∀h,Lone (tr h)){g:Nat}(s:0<cZ A g):∃m:Nat,(tr g).root=m/\dB A g=some m:=by
 obtain⟨x,j,k,n⟩:=fO.1 s;have a:x∈(tr g).nodes:=(h.mem g x).2 ⟨ω,j,k⟩;cases c:tr g with
 |nil=>rw[c] at a;cases a
 |node m l r=>
  have e:=(h.mem g m).1 (by rw[c];simp[BT.nodes]);have f:eH A (tr g):=h.heap g;have i:=q g;rw[c] at f i;have o:r=.nil:=i;subst o;refine⟨m,rfl,(jB n).2 ⟨e.2.1,e.2.2,λy p d=>?_⟩⟩;have b:=(h.mem g y).2 ⟨ω,p,d⟩;rw[c] at b;exact aen f y b
section
variable{w:World}{B:PB}{F:List Nat}{gt ct:Nat}{A:NS}{st:Nat}{tr:Nat->BT}
def Ci(h:ny w B F gt ct A st tr)(g:Nat)(p:0<cZ A g):
  Calls prog 203 #[B.n0,(g:Int)] w λe w'=>∃m:Nat,dB A g=some m/\(tr g).root=m/\e=.returned (.tuple #[(m:Int),true])/\w'=w:=by
 obtain⟨S,ai,a,c,q⟩:=h;obtain⟨m,f,j⟩:=c.acX q p;obtain⟨x,l,r,s⟩:=fO.1 p;have i:=a.cells.ok;have b:g<A.hs.length:=by have:=(i.nat x l).2;omega
 have t:=i.h1;have k:=jf a.cells (g:Int) ω;have u:=a.h0;have z:=a.h2;have d:=a.iP.cell g (by rw[a.iY];exact b);rw[c.top g b,f] at d;have v:g<ai.length:=by rw[a.iY];exact b
 generalize y:cZ A (g:Int)=n at *;have C:((n:Int) == 0)=false:=ζ;have o:=χ (ψ j f);clear a c f j l r s i y
 go_enter func203,ntmps203
 go_wp2_with (first|((with_reducible refine aP k ?_)))
 go_ret2;exact⟨m,o.out.1,o.out.2,rfl,rfl⟩
def LJ(h:ny w B F gt ct A st tr)(x:Int)(c:-9223372036854775808<=x/\x<=9223372036854775807)(b:cZ A x=0):
  Calls prog 203 #[B.n0,x] w λe w'=>e=.returned (.tuple #[(0:Int),false])/\w'=w:=by
 obtain⟨S,ai,a, -⟩:=h;have k:=jf a.cells x c;rw[b] at k;have d:=a.h0;clear a b
 go_enter func203,ntmps203
 go_wp2_with (first|((with_reducible refine aP k ?_)))
 go_ret2;exact⟨rfl,rfl⟩
def Qv(h:ny w B F gt ct A st tr)(l:65536<A.hs.length):
  Calls prog 201 #[B.n0] w λe w'=>e=.returned (0:Int)/\Goes (B.blk F gt) w w' (λF'=>∃a,F'=B.blk a gt/\ny w' B a gt ct A st tr):=by
 obtain⟨S,ai,b,g⟩:=h;have k:=jg b.cells;have i:dF A=0:=by unfold dF;rw[Δ l]
 have j:aO A=A:=by unfold aO;rw[Δ l]
 rw[i,j] at k;have r:=b.h0;have n:=χ b;have o:=χ g;clear b g i j
 go_enter func201,ntmps201
 go_wp2_with (first|(((with_reducible refine k.mono ?_));rintro e q ⟨rfl,a,m,d,f⟩))
 go_ret
 exact ⟨rfl,B.blk a gt,⟨a,rfl,S,ai,n.out.cK d m f rfl rfl,o.out⟩,d.mono (λy p=>by simp [PB.blk,p]),λx c=>by
  simp only[PB.blk,ρ] at c ⊢;rcases c with rfl|rfl|rfl|c
  .simp
  .simp
  .simp
  .rcases f x c with h|h
   .simp[h]
   .exact Β h⟩
def Mc(h:ny w B F gt ct A st tr)(u:¬65536<A.hs.length):
  Calls prog 201 #[B.n0] w λe w'=>e=.returned (A.hs.length:Int)/\Goes (B.blk F gt) w w' (λF'=>∃p d s,F'=B.blk p d/\ny w' B p d s (aO A) st tr):=by
 obtain⟨S,ai,c,K,L⟩:=h;have k:=jg c.cells;have N:dF A=A.hs.length:=by unfold dF;rw[Γ u]
 rw[N] at k;have t:(aO A).cs.length=A.cs.length:=by unfold aO;rw[Γ u]
 have U:(aO A).hs.length=A.hs.length+1:=by unfold aO;rw[Γ u];simp
 have m:=K.make c.cells.ok c.iY u;have h0:=c.h0;have W:=c.cells.ok.h0;have C:=χ c.iY;have X:ai.length<=65536:=by rw[c.iY];omega
 have g:=χ c;have Y:=χ (ψ m L);clear c K L N m
 go_enter func201,ntmps201
 go_wp2_with (first
  |(((with_reducible refine k.mono ?_));rintro e v ⟨rfl,p,I,o,J⟩;(have O:=o.kept g.out.h2 g.out.bQ.1);(have Z:=o.ay g.out.h2 g.out.bQ.1 (g.out.head.free 2));(have D:=(g.out.iP.upd o g.out.bQ.2.2).own);(have g0:B.n0≠gt:=g.out.sep.2.1);(have gl:=(g.out.iP.upd o g.out.bQ.2.2).lt))
  | ((at_builtin;refine bD rfl _ _ 77 rfl 0 3 (.int .i64 0) 1 8 underlying77 gN rfl δ _ _ _ rfl (D) [.int .i64 (-1)] rfl (by simp [Value.oneCell']) (by first|rfl|(rw [Κ];rfl)) μ ω (ω) ?_;intro v2 x z b T);(have b:ae [gt] v x:=b);obtain ⟨d,s,M,m, -⟩:=IZ.jd (l:=ai++[-1]) (by rw [dO,υ];exact z) σ;rw [υ,List.length_singleton] at M;subst M;(have d4:=b.kept O ζ);(have f4:=b.ay O ζ Z)))
 go_ret;have c:=g.out;have r:=c.lt;have f:=c.bQ;have q:=c.sep;have n:ae [B.n0] x (x.setCell ⟨B.n0,2,none⟩ (.slice (some (d:Nat)) (ai.length+1) s)):=β;have E:d=gt\/v.heap.size<d:=by
  rcases T with h|h
  .exact Α (Option.some.inj h)
  .exact Β (h d rfl)
 have hws:=o.size;have gK:=I.lt;have P:=r B.n0 (by simp[PB.blk]);have l1:=r B.ba (by simp[PB.blk]);have Q:=r gt (by simp[PB.blk]);have i:∀y,y<w.heap.size->y∉F->y∉p:=λy a hn H=>by rcases J y H with R|R;exact hn R;omega
 have xm:d∉p:=by
  rcases E with e|e
  .rw[e];exact i gt Q f.2.2
  .exact λH=>by have:=gK d H;omega
 have hb:w.heap.size<=d\/d=gt:=ω;have G:=((c.head.upd o f.1).upd b ζ).set 2 (.slice (some (d:Nat)) (ai.length+1) s);refine⟨rfl,B.blk p d,⟨p,d,s,rfl,S,ai++[-1],⟨?_,?_,?_,m.upd n ζ,?_,⟨i _ P f.1,i _ l1 f.2.1,xm⟩,⟨q.1,ω,ω⟩⟩,Y.out⟩,?_,λy a=>?_⟩
 .rw[t,υ,List.length_singleton];refine G.ext (λj hj=>?_);rcases(ω:j=0\/j=1\/j=2) with rfl|rfl|rfl<;>rfl
 .exact(I.upd b (λy a=>by simp at a;rw[a];exact i gt Q f.2.2)).upd n (λy a=>by simp at a;rw[a];exact i _ P f.1)
 .rw[t];exact((c.ties.upd o f.2.1).upd b ζ).upd n ζ
 .rw[υ,List.length_singleton,U,C.out]
 .have u1:ae (B.blk F gt) w v:=o.mono (λy a=>by simp[PB.blk,a]);exact(u1.trans (b.mono (λy a=>by simp at a;simp[PB.blk,a]))).trans (n.mono (λy a=>by simp at a;simp[PB.blk,a]))
 .simp only[PB.blk,ρ] at a ⊢;rcases a with rfl|rfl|rfl|a
  .simp
  .simp
  .rcases hb with h|h
   .exact Β h
   .exact Α (by simp[h])
  .rcases J y a with h|h
   .simp[h]
   .exact Β h
end
section
variable{w:World}{B:PB}{F:List Nat}{gt ct:Nat}{A:NS}{st:Nat}{S:TS}{ai:List Int}
def Qo(h:iC w B F gt ct A st S ai)(x:Nat)(G:bY A (x:Int)=true)(l:BT)(hl:dL S (x:Int) (S.l x) l)(c:∀z,z∈l.nodes->z<A.cs.length)(hsz:l.size<=65536):
  Calls prog 207 #[B.n0,(x:Int)] w λe w'=>∃j m,e=.returned (.slice j (bP l).length m)/\w'.ownsRow w.heap.size 3 1 (.slice j (bP l).length m) (bP l).length (aZ (dV (bP l)))/\iC w' B F gt ct A st S ai/\ae F w w':=by
 have Z:=bX h.cells x G;have hx:=(aj _ _).1 G;have c0:=h.h0;have C:∀d,aD d B.c F A st->ae F w d->iC d B F gt ct A st S ai:=λd H g=>h.cK g H (λz X=>Α X) rfl rfl;have Dy:(x:Int)<(A.cs.length:Int):=ω;have M:=χ (ψ hl c);clear h hl c
 go_enter func207,ntmps207
 go_upto_region 5 with((((with_reducible refine Z.mono ?_));rintro e d ⟨rfl,H,i⟩))
 have I:=C d H i;have c1:=I.h1;have dl:=I.l x hx.1;have N:=i.size;have D:=χ (ψ I i);have E:=M.out.1.root;rw[E] at dl;clear I C H i Z;go_wp2
 go_loopg [7,8] l.size (λfu ov zv wr=>∃(t:BT) (p:Int) (o:List Int) (k:Nat) (j:Option Addr) (m:Nat),zv=.int .i64 t.root/\ov=.slice j k m/\dL S p t.root t/\(∀z,z∈t.nodes->z<A.cs.length)/\wr.ownsRow d.heap.size 3 1 (.slice j k m) k (aZ o)/\o++dV (bP t)=dV (bP l)/\t.size<=fu/\k+t.size<=65536/\ae [] d wr)
 case atStart=>exact⟨l,x,[],0,none,0,rfl,rfl,by rw[←E];exact M.out.1,M.out.2,⟨rfl,Α ⟨rfl,rfl⟩⟩,rfl,Θ _,ω,ae.refl _ _⟩
 case round=>
  rename Nat=>fu;obtain⟨t,p,o,k,j,m,rfl,rfl,u,c,f,n,K,hk,g⟩:=hrel;rename World=>wr;cases t with
  |nil=>
   have r:k=(bP l).length:=by
    have h1:=f.1;rw[iq] at h1;have h2:=congrArg List.length n;simp[dV,bP] at h2;omega
   have O:(BT.nil).root=-1:=rfl;rw[O] at *;have J:=χ (ψ f (ψ n (ψ g r)));clear f n u c;go_wp2;go_ret;obtain⟨f,n,g,r⟩:=J.out;subst r;have e:o=dV (bP l):=by simpa[dV,bP] using n
   rw[e] at f;exact⟨j,m,rfl,jX f N,D.out.1.ag g,D.out.2.then g⟩
  |node y a b=>
   have P:y<A.cs.length:=c y (by simp[BT.nodes]);have Q:(BT.node y a b).root=(y:Int):=rfl;rw[Q] at *;have hyb:((y:Int) != -1)=true:=σ;have XN:(y:Int)<(A.cs.length:Int):=ω;have s:=D.out.1.ag g;have e1:=s.h1;have e2:=s.r y P;rw[u.2.2.2.root] at e2;have R:=g.size;simp only[BT.size] at K hk;obtain⟨L,rfl⟩:∃L,fu=L+1:=⟨fu-1,ω⟩;have J:=χ (ψ u (ψ c (ψ n g)));clear u c n s;have hb2:d.heap.size<=wr.heap.size:=R;have hnba:B.n0<d.heap.size/\B.ba<d.heap.size:=⟨D.out.1.lt _ (by simp[PB.blk]),D.out.1.lt _ (by simp[PB.blk])⟩
   go_wp2_with (first|((at_builtin;refine bD rfl _ _ 77 rfl d.heap.size 3 (.int .i64 0) 1 8 underlying77 gN rfl δ _ _ _ rfl (f) [.int .i64 (y:Int)] rfl (by simp[Value.oneCell']) (by first|rfl|(rw[Κ];rfl)) μ ω (ω) ?_;intro v2 w2 v q oq);obtain⟨a2,c2,rfl,hc2⟩:=bz v;(have T:ae [] d w2:=J.out.2.2.2.own f (Θ _) q);(have U:B.n0∉(Value.slice j k m).ownBlock.toList:=λY=>by(have h9:=(f.lt B.n0 (Option.mem_toList.1 Y)).1);omega);(have N9:B.ba∉(Value.slice j k m).ownBlock.toList:=λY=>by(have h9:=(f.lt B.ba (Option.mem_toList.1 Y)).1);omega);(have e3:=q.kept e1 U);(have e4:=q.kept e2 N9))|fail)
   go_roundg L
   case rel=>
    obtain⟨u,c,n,g⟩:=J.out;refine⟨b,y,o++[(y:Int)],k+1,a2,c2,rfl,rfl,?_,λz X=>c z (by simp[BT.nodes,X]),by rw[dO];exact v,?_,ω,ω,T⟩
    .have W:=u.2.2.2;rw[W.root] at W;exact W
    .rw[←n];simp[dV,bP,BT.root]
   all_goals omega
end
end Go.Proofs.YtnpdakpagnpanaaGreat
namespace Go.Proofs.YtnpdakpagnpanaaGreat
open Tryz
structure Y7(A:NS)(S:TS)(l:List BT):Prop where
 ok:∀t,t∈l->dL S (-1) t.root t/\Lone t
 nd:(gY l).Nodup
 inn:∀z,z∈gY l->bY A (z:Int)=true
def Y7.link{A:NS}{S g:TS}{D r:List BT}{a b:BT}(h:Y7 A S (D++a::b::r))(p:dL g (-1) (dG A a b).root (dG A a b))(hs:∀z,z∉a.nodes++b.nodes->S.at g z):Y7 A g (D++dG A a b::r):=by
 have j:=(h.ok a σ).2;have k:=(h.ok b σ).2;have hp:(gY (D++dG A a b::r)).Perm (gY (D++a::b::r)):=by
  rw[gI,gI,cu,cu,cu,←ϋ a.nodes];exact((lJ A j k).append_right _).append_left _
 have c:=h.nd;rw[gI,cu,cu] at c;rw[θ] at c;obtain⟨_,i,m⟩:=c;rw[←ϋ,θ] at i;obtain⟨_,_,n⟩:=i;refine⟨λt o=>?_,hp.nodup_iff.2 h.nd,λz f=>h.inn z (hp.mem_iff.1 f)⟩;rcases τ.1 o with e|e
 .have d:=h.ok t (by simp[e]);refine⟨d.1.frame (λz f=>hs z (λl=>?_)),d.2⟩;refine m z (List.mem_flatMap.2 ⟨t,e,f⟩) z ?_ rfl
  grind
 .rcases ρ.1 e with e|e
  .rw[e];exact⟨p,mV A j k⟩
  .have d:=h.ok t (by simp[e]);exact⟨d.1.frame (λz f=>hs z (λl=>n z l z (List.mem_flatMap.2 ⟨t,e,f⟩) rfl)),d.2⟩
def Y7.two{A:NS}{S:TS}{D r:List BT}{a b:BT}(h:Y7 A S (D++a::b::r)):dL S (-1) a.root a/\dL S (-1) b.root b/\Lone a/\Lone b/\(a.nodes++b.nodes).Nodup/\∀z,z∈a.nodes++b.nodes->bY A (z:Int)=true:=by
 have c:=h.nd;rw[gI,cu,cu,θ] at c;have d:=c.2.1;rw[←ϋ,θ] at d;refine⟨(h.ok a σ).1,(h.ok b σ).1,(h.ok a σ).2,(h.ok b σ).2,d.1,λz e=>h.inn z ?_⟩;rw[gI,cu,cu,←ϋ]
 grind
def Pw(S:TS)(x:Nat):∀z,(gV S x []).l z=(S.aM x false (-1)).l z/\(gV S x []).r z=(S.aM x false (-1)).r z/\(gV S x []).u z=(S.aM x false (-1)).u z:=λz=>by
 unfold gV TS.aM;simp
def MB(S:TS)(x k j:Nat)(a:List Int)(h:a[j]?=some (k:Int)):∀z,(gV S x (a.take (j+1))).l z=(((gV S x (a.take j)).aM k true (-1)).dE k (-1)).l z/\(gV S x (a.take (j+1))).r z=(((gV S x (a.take j)).aM k true (-1)).dE k (-1)).r z/\(gV S x (a.take (j+1))).u z=(((gV S x (a.take j)).aM k true (-1)).dE k (-1)).u z:=λz=>by
 have e:a.take (j+1)=a.take j++[(k:Int)]:=by rw[ώ,h];rfl
 rw[e];unfold gV TS.aM TS.dE;have c:((z:Int)=(k:Int))=(z=k):=propext ⟨λh=>ω,λh=>ω⟩;simp only[τ,ϒ,c];refine⟨σ,?_,?_⟩
 .by_cases b:z=k
  .simp[b]
  .simp[b]
 .by_cases b:z=k
  .simp[b]
  .simp[b]
def PQ(A:NS){l:List BT}{j:Nat}(h:2*j+1<l.length):∃a b r,l.drop (2*j)=a::b::r/\l[2*j]?=some a/\l[2*j+1]?=some b/\r=l.drop (2*(j+1))/\(dK A l).take (j+1)=(dK A l).take j++[dG A a b]:=by
 have c:l.drop (2*j)=l[2*j]::l[2*j+1]::l.drop (2*j+2):=by
  rw[Ϝ ω,Ϝ ω]
 refine⟨l[2*j],l[2*j+1],l.drop (2*j+2),c,ε _,ε _,by rw[show 2*(j+1)=2*j+2 by omega],?_⟩;have d:=xx A j l ω;rw[c] at d;have e:((dK A l).take j).length=j:=by rw[Ϗ,vI];omega
 have f:(dK A l)[j]?=some (dG A l[2*j] l[2*j+1]):=by
  rw[d,ϊ ω,e,Nat.sub_self];rfl
 rw[ώ,f];rfl
def QS(A:NS){l:List BT}{j:Nat}(h:2*j+1=l.length):∃a,l.drop (2*j)=[a]/\l[2*j]?=some a/\(dK A l).take (j+1)=(dK A l).take j++[a]/\l.drop (2*(j+1))=[]:=by
 have b:l.drop (2*j)=[l[2*j]]:=by
  rw[Ϝ ω,List.drop_eq_nil_of_le ω]
 refine⟨l[2*j],b,ε _,?_,List.drop_eq_nil_of_le ω⟩;have c:=xx A j l ω;rw[b] at c;have d:((dK A l).take j).length=j:=by rw[Ϗ,vI];omega
 have e:(dK A l)[j]?=some l[2*j]:=by
  rw[c,ϊ ω,d,Nat.sub_self];rfl
 rw[ώ,e];rfl
def Xe(A:NS){l:List BT}{j:Nat}(h:l.length<=2*j):(dK A l).take j=dK A l:=List.take_of_length_le (by rw[vI];omega)
def rest_step(A:NS){l:List BT}{j:Nat}(h:j<l.length):gJ A (l.drop j)=dG A l[j] (gJ A (l.drop (j+1))):=by
 rw[Ϝ h];rfl
def Y7.start{A:NS}{S:TS}{x:Nat}{l:BT}(f:dL S (x:Int) (S.l x) l)(n:(x::l.nodes).Nodup)(g:∀z,z∈l.nodes->bY A (z:Int)=true):Y7 A (gV S x (dV (bP l))) (bP l):=by
 obtain⟨k,h⟩:=Ζ.1 n;have e:=f.root;rw[e] at f;have d:∀(t:BT) u,u∈bP t->Lone u:=by
  intro t
  induction t with
  |nil=>intro u c;cases c
  |node y a b _ m=>
   intro u c;simp only[bP,ρ] at c;rcases c with e|e
   .subst e;rfl
   .exact m u e
 exact⟨λt i=>⟨Km f h k (λz j=>Iff.rfl) t i,d l t i⟩,(jJ l).nodup_iff.2 h,λz j=>g z ((jJ l).mem_iff.1 j)⟩
structure OA(A:NS)(S0 S:TS)(l:BT)(L:List BT):Prop where
 fo:Y7 A S L
 sub:∀z,z∈gY L->z∈l.nodes
 fr:∀z,z∉l.nodes->S0.at S z
def OA.link{A:NS}{S0 S f:TS}{l:BT}{D r:List BT}{a b:BT}(h:OA A S0 S l (D++a::b::r))(j:dL f (-1) (dG A a b).root (dG A a b))(hs:∀z,z∉a.nodes++b.nodes->S.at f z):OA A S0 f l (D++dG A a b::r):=by
 have g:=(h.fo.ok a σ).2;have i:=(h.fo.ok b σ).2;have hp:(gY (D++dG A a b::r)).Perm (gY (D++a::b::r)):=by
  rw[gI,gI,cu,cu,cu,←ϋ a.nodes];exact((lJ A g i).append_right _).append_left _
 refine⟨h.fo.link j hs,λz c=>h.sub z (hp.mem_iff.1 c),λz c=>?_⟩;have d:=h.fr z c
 have e:=hs z (λk=>c (h.sub z (by
  rw[gI,cu,cu,←ϋ]
  grind)))
 exact⟨e.1.trans d.1,e.2.1.trans d.2.1,e.2.2.trans d.2.2⟩
def OA.start{A:NS}{S:TS}{x:Nat}{l:BT}(c:dL S (x:Int) (S.l x) l)(d:(x::l.nodes).Nodup)(a:∀z,z∈l.nodes->bY A (z:Int)=true):OA A (gV S x (dV (bP l))) (gV S x (dV (bP l))) l (bP l):=
 ⟨Y7.start c d a,λz b=>(jJ l).mem_iff.1 b,λz _=>⟨rfl,rfl,rfl⟩⟩
def OA.nil{A:NS}{S0 S:TS}{l:BT}{L:List BT}(h:OA A S0 S l L):OA A S0 S l (L++[BT.nil]):=by
 have e:gY (L++[BT.nil])=gY L:=by rw[gI];simp[gY,BT.nodes]
 refine⟨⟨λt b=>?_,by rw[e];exact h.fo.nd,by rw[e];exact h.fo.inn⟩,by rw[e];exact h.sub,h.fr⟩;rcases τ.1 b with e|e
 .exact h.fo.ok t e
 .have a:t=.nil:=by simpa using e
  subst a;exact⟨rfl,trivial⟩
def OA.done{A:NS}{S b:TS}{x:Nat}{l t:BT}(h:OA A (gV S x (dV (bP l))) b l [t])(i:x∉l.nodes):dL b (-1) t.root t/\b.l x=-1/\b.r x=S.r x/\b.u x=S.u x/\∀z,z∉x::l.nodes->S.at b z:=by
 have c:=h.fr x i;have d:∀z:Nat,z∉l.nodes->(z:Int)∉dV (bP l):=λz a j=>a (Pg j);have hs:∀z:Nat,z∉l.nodes->z≠x->S.at (gV S x (dV (bP l))) z:=λz a g=>WU g (d z a);refine⟨(h.fo.ok t σ).1,?_,?_,?_,λz a=>?_⟩
 .rw[c.1];simp[gV]
 .rw[c.2.1];simp[gV,d x i]
 .rw[c.2.2];simp[gV,d x i]
 .simp only[ρ,not_or] at a;have e:=h.fr z a.2;have f:=hs z a.2 a.1;exact⟨e.1.trans f.1,e.2.1.trans f.2.1,e.2.2.trans f.2.2⟩
def pG{l:List BT}{j:Nat}{t:BT}(h:l[j]?=some t):(dV l).getD j 0=t.root/\(dV l)[j]?=some t.root:=by
 unfold dV
 grind
def LM(l:List BT):(dV l).length=l.length:=by unfold dV;simp
def xh(a b:List BT):dV (a++b)=dV a++dV b:=by unfold dV;rw[List.map_append]
def JI:∀(t:BT),(bP t).length<=t.nodes.length
 | .nil=>Θ _
 | .node x l r=>by
  have:=JI r;simp only[bP,Ω,BT.nodes,υ];omega
def QU(A:NS){a:List BT}{i:Nat}(h:i<a.length):a.take (i+1)=a.take i++[a[i]]/\gJ A (a.drop i)=dG A a[i] (gJ A (a.drop (i+1))):=by
 refine⟨?_,rest_step A h⟩;rw[ώ,ε h];rfl


open Go Go.RowKit

section
variable{w:World}{B:PB}{F:List Nat}{gt ct:Nat}{A:NS}{st:Nat}{S:TS}{ai:List Int}
def Qm(w:World)(base:Nat)(v:Value)(xs:List Int):Prop:=w.ownsRow base 3 1 v xs.length (aZ xs)
def Qm.cell{W:World}{base:Nat}{a:Option Addr}{n c:Nat}{xs:List Int}(h:W.ownsRow base 3 1 (.slice a n c) n (aZ xs)){j:Nat}{y:Int}(i:xs[j]?=some y):∃g,a=some ⟨g,0,none⟩/\base<=g/\g<W.heap.size/\∀f,ae [] W f->f.cell? ⟨g,j,none⟩=some (y:V):=by
 have l:=h.1;rw[iq] at l;have b:j<xs.length:=(List.getElem?_eq_some_iff.1 i).1;obtain⟨g,cap,e,k,_⟩:=fU h ω
 injection e with e1 e2 e3
 subst e1;have d:=h.lt g rfl;refine⟨g,rfl,k,d.2,λf m=>m.was ?_⟩;rw[h.cellAt j ω,mM b,φ,i];rfl
def Bq(h:iC w B F gt ct A st S ai)(x:Nat)(hin:bY A (x:Int)=true)(l:BT)(hl:dL S (x:Int) (S.l x) l)(hnd:(x::l.nodes).Nodup)(K:∀z,z∈l.nodes->bY A (z:Int)=true)(hsz:l.size<=65536):
    Calls prog 206 #[B.n0,(x:Int)] w λe w'=>e=.returned (.int .i64 (gJ A (dK A (bP l))).root)/\ae (B.ba::F) w w'/\∃C E,iC w' B F gt ct A C E ai/\dL E (-1) (gJ A (dK A (bP l))).root (gJ A (dK A (bP l)))/\E.l x=-1/\E.r x=S.r x/\E.u x=S.u x/\∀z,z∉x::l.nodes->S.at E z:=by
  have hx:=(aj _ _).1 hin;have hlt:∀z,z∈l.nodes->z<A.cs.length:=λz hz=>((aj _ _).1 (K z hz)).1;have kk:=Qo h x hin l hl hlt hsz;have hlen:(bP l).length<=65536:=by have:=JI l;rw[BT.mY] at this;omega
  have HS:=χ (OA.start hl hnd K);have Q:x∉l.nodes:=(Ζ.1 hnd).1;have P:∀(j:Nat) (k:BT),(bP l)[j]?=some k->∃y:Nat,k.root=(y:Int)/\y<A.cs.length:=λj k hk=>by
    have h1:=KJ (Η hk);exact⟨_,h1.2.1,hlt _ ((jJ l).mem_iff.1 (List.mem_flatMap.2 ⟨k,Η hk,h1.1⟩))⟩
  have HK:=χ (ψ P (ψ Q hlen));have n:=h.lt;have hn0:B.n0<w.heap.size/\B.ba<w.heap.size/\∀z,z∈F->z<w.heap.size:=⟨n _ (by simp[PB.blk]),n _ (by simp[PB.blk]),λz hz=>n z (by simp[PB.blk,hz])⟩;clear hlt hl hnd K P Q n;generalize hks:bP l=a at *
  go_enter func206,ntmps206
  go_upto_region 2 with((((with_reducible refine kk.mono ?_));rintro e Z ⟨ao,co,rfl,ho,G,hu1⟩))
  clear h kk;have c1:=G.h1;have dl:=G.l x hx.1;have ff:=G.f (x*3);have Dy:(x:Int)<(A.cs.length:Int):=ω;have HO:=χ (ψ ho (ψ G hu1));clear ho G hu1;obtain⟨P,Q,hlen⟩:=HK.out;clear P Q
  go_upto_region 3 with(fail)
  refine aU (λW=>iC W B F gt ct A st (S.aM x false (-1)) ai/\ae [B.ba] Z W) ⟨(HO.out.2.1.MG x (-1)).ag (by first|exact⟨rfl,rfl,rfl,Θ _,λ_ _ _=>rfl⟩|exact ν),β⟩ ?_;rintro W ⟨jI,hu2⟩;have HW:=χ (ψ jI hu2);clear jI hu2 c1 dl ff;go_wp2
  go_loopw [7,24] (λv7 v24 wr=>∃(j:Nat),j<=a.length/\v24=.int .i64 (j:Int)/\iC wr B F gt ct A st (gV S x ((dV a).take j)) ai/\ae [B.ba] Z wr) (λ_ v24 _=>a.length-(intOf v24).toNat)
  case atStart=>exact⟨0,Nat.zero_le _,rfl,by rw[List.take_zero];exact HW.out.1.ext (Pw S x),HW.out.2⟩
  case round=>
    obtain⟨j,hj,rfl,b,c⟩:=hrel;rename World=>wr
    by_cases hjn:j<a.length
    · obtain⟨t,ht⟩:∃t,a[j]?=some t:=⟨a[j],ε hjn⟩
      obtain⟨y,hy,hyl⟩:=HK.out.1 j t ht;have o:=(pG ht).2;rw[hy] at o;obtain⟨g,rfl,hg1,hg2,f⟩:=Qm.cell HO.out.1 o;have hgr:wr.cell? ⟨g,j,none⟩=some ((y:Int):V):=c.kept (f Z (ae.refl _ _)) ζ;have c1:=b.h1;have dr:=b.r y hyl;have du:=b.u y hyl;have ff1:=b.f (y*3+1);have ff2:=b.f (y*3+2);have XN:(y:Int)<(A.cs.length:Int):=ω;have HM:=χ (ψ b (ψ c o));clear b c o hy ht f;go_wp2
      go_region_law (fail)
      all_goals
        go_wp2
        go_roundw
        case rel=>
          refine⟨j+1,ω,by go_num,?_,HM.out.2.1.trans β⟩;exact(((HM.out.1.dm y (-1)).uW y (-1)).ag (by first|exact⟨rfl,rfl,rfl,Θ _,λ_ _ _=>rfl⟩|exact ν)).ext (MB S x y j (dV a) HM.out.2.2)
        case measure=>simp[intOf];omega
    · obtain rfl:j=a.length:=ω
      have e:(dV a).take a.length=dV a:=List.take_of_length_le (by rw[LM];exact Θ _);rw[e] at b;have HM:=χ (ψ b c);clear b c e;go_wp2;refine aU (λW=>ae [] wr W) (by first|exact⟨rfl,rfl,rfl,Θ _,λ_ _ _=>rfl⟩|exact ν) ?_;intro W2 hW2;have pW:=χ (ψ (HM.out.1.ag hW2) (HM.out.2.trans (hW2.mono σ)));clear HM hW2
      go_loopw [8,9] (λv8 v9 wr=>∃(j m:Nat) (a2:Option Addr) (c2:Nat) (C:Nat) (E:TS),m=2*j/\j<=(dK A a).length/\v9=.int .i64 (m:Int)/\v8=.slice a2 j c2/\wr.ownsRow W2.heap.size 3 1 (.slice a2 j c2) j (aZ (dV ((dK A a).take j)))/\iC wr B F gt ct A C E ai/\OA A (gV S x (dV a)) E l ((dK A a).take j++a.drop m)/\ae [B.ba,B.c] W2 wr) (λ_ v9 _=>a.length+2-(intOf v9).toNat)
      case atStart=>exact⟨0,0,none,0,st,_,rfl,Nat.zero_le _,rfl,rfl,⟨rfl,Α ⟨rfl,rfl⟩⟩,pW.out.1,by simpa using HS.out,ae.refl _ _⟩
      case round=>
        obtain⟨j,m,a2,c2,C,E,R,hj,rfl,rfl,D,b,d,c⟩:=hrel;rename World=>wr;have s:=vI A a;have hos:=c.size;have n:∀z,z∈B.blk F gt->z<W2.heap.size:=pW.out.1.lt;have U:∀g,g∈(Value.slice a2 j c2).ownBlock.toList->W2.heap.size<=g:=λg Y=>(D.lt g (Option.mem_toList.1 Y)).1;have SY:B.ba<W2.heap.size/\B.c<W2.heap.size:=⟨n _ (by simp[PB.blk]),n _ (by simp[PB.blk,b.cF])⟩;have HG:=χ (ψ n U);have v:ae [B.ba,B.c] Z wr:=(pW.out.2.mono σ).trans c
        by_cases Il:m<a.length
        · have hmI:decide ((m:Int)<(a.length:Int))=true:=ζ
          have hjb:j<=65536:=ω;have hwr:IntKind.i64.wrap ((m:Int)+1)=(m:Int)+1:=Μ _ ω
          by_cases J:m+1=a.length
          · obtain⟨t,T,l2,L,M⟩:=QS A (l:=a) (j:=j) ω
            rw[←R] at T l2;have o:=(pG l2).2;obtain⟨g,rfl,hg1,hg2,f⟩:=Qm.cell HO.out.1 o;have hgr:wr.cell? ⟨g,m,none⟩=some (t.root:V):=v.kept (f Z (ae.refl _ _)) (by simp;have:=hn0.2.2 _ b.cF;omega);have hqI:((m:Int)+1 == (a.length:Int))=true:=ζ;have HL:=χ (ψ b (ψ d (ψ c (ψ T (ψ L (ψ M (ψ R s)))))));clear b d c v T l2 L M o f R s J n U SY
            go_wp2_with (((at_builtin;refine bD rfl _ _ 77 rfl W2.heap.size 3 (.int .i64 0) 1 8 underlying77 gN rfl δ _ _ _ rfl (D) [.int .i64 t.root] rfl (by simp[Value.oneCell']) (by first|rfl|(rw[Κ];rfl)) μ ω (ω) ?_;intro v2 w2 O p oq);obtain⟨a3,c3,rfl,hc3⟩:=bz O))
            go_roundw
            case rel=>
              obtain⟨b,d,c,T,L,M,R,s⟩:=HL.out;refine⟨j+1,m+2,a3,c3,C,E,ω,ω,by go_num,rfl,?_,b.upd p (λg Y hb=>by have:=HG.out.1 g hb;have:=HG.out.2 g Y;omega),?_,c.joined p (λg Y=>Β (HG.out.2 g Y))⟩
              · rw[L,xh,dO];exact O
              · rw[show m+2=2*(j+1) by omega,M,L,Υ,←T];exact d
            case measure=>simp[intOf];omega
          · obtain⟨ta,tb,r,T,l2,l2b,L,M⟩:=PQ A (l:=a) (j:=j) ω
            rw[←R] at T l2 l2b;have hroa:=(pG l2).2;have hrob:=(pG l2b).2;obtain⟨g,rfl,hg1,hg2,f⟩:=Qm.cell HO.out.1 hroa;obtain⟨g',e', -, -,hgc'⟩:=Qm.cell HO.out.1 hrob;cases e';have aco:g∉[B.ba,B.c]:=by simp;have:=hn0.2.2 _ b.cF;omega
            have hgr:wr.cell? ⟨g,m,none⟩=some (ta.root:V):=v.kept (f Z (ae.refl _ _)) aco;have hgr':wr.cell? ⟨g,m+1,none⟩=some (tb.root:V):=v.kept (hgc' Z (ae.refl _ _)) aco;have hqI:((m:Int)+1 == (a.length:Int))=false:=ζ;have hm1:m+1<a.length:=ω;have hm1I:(m:Int)+1<(a.length:Int):=ω;have hm0I:(0:Int)<=(m:Int)+1:=ω;rw[T] at d;obtain⟨t1,t2,t3,t4,t5,t6⟩:=d.fo.two;have kl:=λW (hW:ae [] wr W)=>vY (b.ag hW) ta tb t1 t2 t3 t4 t5 t6;have HL:=χ (ψ d (ψ c (ψ L (ψ M (ψ R s)))))
            clear b d c v T l2 l2b L M hroa hrob f hgc' R s J n U t1 t2 t3 t4 t5 t6 aco;have hcb:∀k,(Value.slice a2 j c2).ownBlock=some k->k∉[B.ba,B.c]:=λk hk=>by have:=HG.out.2 k (Option.mem_toList.2 hk);simp;omega
            have HC:=χ hcb;clear hcb
            go_upto_region 14 with(fail)
            go_region_law (first
              |(go_simp;(with_reducible refine(kl _ β).mono ?_);rintro e w3 ⟨rfl,ZY,H,S3,jH,Dl,hf3⟩;(have p:ae [B.ba,B.c] wr w3:=ae.trans β ZY);(have O:=au D p HC.out);(have hos3:=p.size))
              | (refine kX rfl _ _ 77 rfl W2.heap.size 3 (.int .i64 0) 1 8 underlying77 gN rfl δ (.slice a2 j c2) j (aZ (dV ((dK A a).take j))) rfl (O.alloc _) w3.heap.size [.int .i64 (dG A ta tb).root] rfl rfl (λi u hi=>pM w3 [.int .i64 (dG A ta tb).root] 3 i u hi) (by simp [Value.oneCell']) μ ω ζ ?_
                 intro v2 w2 XC hu4a hv2;have iK:ae (Value.slice a2 j c2).ownBlock.toList w3 w2:=ae.trans ((ae.refl _ _).alloc _) hu4a
                 obtain ⟨a3,c3,rfl,hc3⟩:=bz XC))
            all_goals
              go_wp2
              go_roundw
              case rel=>
                obtain⟨d,c,L,M,R,s⟩:=HL.out;refine⟨j+1,m+2,a3,c3,H,S3,ω,ω,by go_num,rfl,?_,jH.upd iK (λg Y hb=>by have:=HG.out.1 g hb;have:=HG.out.2 g Y;omega),?_,(c.trans p).joined iK (λg Y=>Β (HG.out.2 g Y))⟩
                · rw[M,xh,dO];exact XC
                · rw[show m+2=2*(j+1) by omega,←L,M,ϋ];exact d.link Dl hf3
              case measure=>simp[intOf];omega
        · have hmI:decide ((m:Int)<(a.length:Int))=false:=ζ
          have hjl:j=(dK A a).length:=ω;have hdr:a.drop m=[]:=List.drop_eq_nil_of_le ω;rw[Xe A ω] at D d;rw[hdr,Υ] at d;have htn:(dK A a).length<=65536:=ω;generalize X:dK A a=q at *;subst hjl;have hF2:=d.nil;have HL:=χ (ψ b (ψ hF2 (ψ v X)));have HO2:=χ D;clear b d c v hF2 D hdr R hj s n U X;go_wp2;refine aU (λW=>ae [] wr W) (by first|exact⟨rfl,rfl,rfl,Θ _,λ_ _ _=>rfl⟩|exact ν) ?_;intro W3 hW3;have HW3:=χ hW3;clear hW3
          go_loopw [10,11] (λv10 v11 I=>∃(i H:Nat) (S3:TS),i<=q.length/\v11=.int .i64 ((i:Int)-1)/\v10=.int .i64 (gJ A (q.drop i)).root/\iC I B F gt ct A H S3 ai/\OA A (gV S x (dV a)) S3 l (q.take i++[gJ A (q.drop i)])/\ae [B.ba,B.c] W3 I) (λ_ v11 _=>((intOf v11)+1).toNat)
          case atStart=>
            have e1:q.drop q.length=[]:=List.drop_length;have e2:q.take q.length=q:=List.take_length;refine⟨q.length,C,E,Θ _,by go_num,by rw[e1];rfl,HL.out.1.ag HW3.out,?_,ae.refl _ _⟩;rw[e1,e2];exact HL.out.2.1
          case round=>
            obtain⟨i,H,S3,hi,hz,rfl,b,d,c⟩:=hrel;rename World=>I;cases i with
            |zero=>
              have hz2:((0:Nat):Int)-1=-1:=rfl;rw[hz2] at hz;subst hz;rw[List.drop_zero,List.take_zero,Ϛ] at d;simp only[List.drop_zero];have HR:=χ (ψ b (ψ d c));clear b d c;go_wp2;go_ret;obtain⟨b,d,c⟩:=HR.out;have X:=HL.out.2.2.2;subst X;have hc:=b.cF;have v1:ae [B.ba,B.c] Z I:=(HL.out.2.2.1.trans (HW3.out.mono σ)).trans c;exact⟨rfl,(HO.out.2.2.mono (by simp +contextual)).trans (v1.mono (by simp[hc])),H,S3,b,(show OA A (gV S x (dV (bP l))) _ l [gJ A (dK A a)] by rw[hks];exact d).done HK.out.2.1⟩
            |succ N=>
              have hz2:((N+1:Nat):Int)-1=(N:Int):=ω;rw[hz2] at hz;subst hz;have hil:N<q.length:=ω;obtain⟨q1,q2⟩:=QU A hil;have o:=(pG (ε hil)).2;obtain⟨g,rfl,hg1,hg2,f⟩:=Qm.cell HO2.out o;have hgr:I.cell? ⟨g,N,none⟩=some (.int .i64 (q[N]).root):=c.kept (f W3 HW3.out) ζ;rw[q1,ϋ] at d;obtain⟨t1,t2,t3,t4,t5,t6⟩:=d.fo.two;have kl:=vY b q[N] (gJ A (q.drop (N+1))) t1 t2 t3 t4 t5 t6;rw[←q2] at kl;have HR:=χ (ψ d (ψ c q2));clear b d c f o q1 q2 t1 t2 t3 t4 t5 t6;generalize Di:q[N]=ta at *;generalize htb:gJ A (q.drop (N+1))=tb at *
              go_wp2_with (first
                | ((with_reducible refine kl.mono ?_);rintro e w3 ⟨rfl,p,st4,S4,uD,Tc,hf4⟩))
              go_roundw
              case rel=>
                obtain⟨d,c,q2⟩:=HR.out;refine⟨N,st4,S4,ω,by go_num,rfl,uD,?_,c.trans p⟩;rw[q2] at Tc ⊢;exact d.link Tc hf4
              case measure=>first|(simp[intOf];done)|(simp[intOf];omega)
end
def JJ(S:TS)(p x:Nat)(s:Bool)(a:p≠x)(h:S.r x=-1):∀z,(lq S p s x).l z=(((S.aM p s (-1)).aM x true (-1)).dE x (-1)).l z/\(lq S p s x).r z=(((S.aM p s (-1)).aM x true (-1)).dE x (-1)).r z/\(lq S p s x).u z=(((S.aM p s (-1)).aM x true (-1)).dE x (-1)).u z:=λz=>by
 unfold lq TS.aM TS.dE;rw[h];have:¬(z:Int)=-1:=ω;cases s<;>simp[this]
def Jz(S:TS)(p x o:Nat)(s:Bool)(a:p≠x)(h:S.r x=o):∀z,(lq S p s x).l z=((((S.aM p s o).dE o p).aM x true (-1)).dE x (-1)).l z/\(lq S p s x).r z=((((S.aM p s o).dE o p).aM x true (-1)).dE x (-1)).r z/\(lq S p s x).u z=((((S.aM p s o).dE o p).aM x true (-1)).dE x (-1)).u z:=λz=>by
 unfold lq TS.aM TS.dE;rw[h];have:((z:Int)=(o:Int))=(z=o):=propext ⟨λh=>ω,λh=>ω⟩;simp only[this];cases s<;>simp
section
variable{w:World}{B:PB}{F:List Nat}{gt ct:Nat}{A:NS}{st:Nat}{S:TS}{ai:List Int}
def ZG(h:iC w B F gt ct A st S ai)(p x:Nat)(hp:p<A.cs.length)(d:x<A.cs.length)(b:p≠x)(c:S.l p=x)(k:S.u x=p)(f:S.r x=-1):
  Calls prog 204 #[B.n0,(x:Int)] w λe w'=>e=.returned (.tuple #[])/\iC w' B F gt ct A st (lq S p false x) ai/\ae [B.ba] w w':=by
 have t:=h.h1;have l:=h.l p hp;have m:=h.r x d;have n:=h.u x d;rw[k] at n;have o:=h.f;have g:=o (p*3);have E:(x:Int)<(A.cs.length:Int):=ω;have u:(p:Int)<(A.cs.length:Int):=ω;have v:=χ h;clear h o;rw[c] at l;have y:=χ (JJ S p x false b f);rw[f] at m;have q:=χ (show(S.aM p false (-1)).r x=-1/\S.u x=p from⟨by unfold TS.aM;(have i:¬x=p:=λe=>b e.symm);simpa[i] using f,k⟩);clear f k c;generalize S.l p=D at *
 go_enter func204,ntmps204
 go_upto_region 1 with(fail)
 go_quiet (fail)
 go_upto_region 2 with(fail)
 go_cut [] (λW=>ae [] (w.setCell ⟨B.ba,p*3,none⟩ (.int .i64 (-1))) W)
 case first=>
  go_region_law (fail)
  all_goals
   go_wp2
   go_meet
   first|exact⟨rfl,rfl,rfl,Θ _,λ_ _ _=>rfl⟩|exact ν
 case rest=>
  have j:=hcut;clear hcut;rename World=>W;have a:=(v.out.MG p (-1)).ag j;have z:=a.r x d;rw[q.out.1] at z;have C:=a.u x d;rw[EL,q.out.2] at C;have G:=a.f (x*3+1);have H:=a.f (x*3+2);have r:ae [B.ba] w W:=ae.trans β (j.mono σ);have s:=χ (ψ a r);clear a j r t l m n g;go_wp2;go_end0;refine⟨rfl,iC.ext (((s.out.1.dm x (-1)).uW x (-1)).ag ?_) y.out,s.out.2.trans ?_⟩
  .first|exact⟨rfl,rfl,rfl,Θ _,λ_ _ _=>rfl⟩|exact ν
  .exact β
end
section
variable{w:World}{B:PB}{F:List Nat}{gt ct:Nat}{A:NS}{st:Nat}{S:TS}{ai:List Int}
def Zb(h:iC w B F gt ct A st S ai)(p x:Nat)(hp:p<A.cs.length)(f:x<A.cs.length)(c:p≠x)(d:S.l p=x)(l:S.u x=p)(o:Nat)(g:S.r x=o)(m:o<A.cs.length)(L:o≠p)(M:o≠x):
  Calls prog 204 #[B.n0,(x:Int)] w λe w'=>e=.returned (.tuple #[])/\iC w' B F gt ct A st (lq S p false x) ai/\ae [B.ba] w w':=by
 have y:=h.h1;have n:=h.l p hp;have q:=h.r x f;have r:=h.u x f;rw[l] at r;have s:=h.f;have i:=s (p*3);have a:=h.sep;have z:¬B.n0=B.ba:=a.1;have C:¬B.ba=B.n0:=λe=>a.1 e.symm;have N:(x:Int)<(A.cs.length:Int):=ω;have D:(p:Int)<(A.cs.length:Int):=ω;have O:¬x*3+1=p*3:=ω;have P:¬x*3+1=p*3+1:=ω;have Q:¬x*3+2=p*3:=ω;have R:¬x*3+2=p*3+1:=ω;have T:¬p*3=x*3+1:=ω;have U:¬p*3=x*3+2:=ω;have X:¬p*3+1=x*3+1:=ω;have Y:¬p*3+1=x*3+2:=ω;have E:=χ h;clear h s a;rw[d] at n;have G:=χ (Jz S p x o false c g);rw[g] at q;have Z:((o:Int) != -1)=true:=σ
 have H:(o:Int)<(A.cs.length:Int):=ω;have k1:¬o*3+2=p*3:=ω;have k2:¬o*3+2=p*3+1:=ω;have k3:¬x*3+1=o*3+2:=ω;have k4:¬x*3+2=o*3+2:=ω;have k5:¬o*3+2=x*3+1:=ω;have k6:¬o*3+2=x*3+2:=ω;have t:=χ (show(S.aM p false (o:Int)).r x=o/\S.u x=p from⟨by unfold TS.aM;(have j:¬x=p:=λe=>c e.symm);simpa[j] using g,l⟩);clear g l d;generalize S.l p=K at *
 go_enter func204,ntmps204
 go_upto_region 1 with(fail)
 go_quiet (fail)
 go_upto_region 2 with(fail)
 go_cut [] (λW=>ae [] (w.setCell ⟨B.ba,p*3,none⟩ (.int .i64 (o:Int))) W)
 case first=>
  go_region_law (fail)
  all_goals
   go_wp2
   go_meet
   first|exact⟨rfl,rfl,rfl,Θ _,λ_ _ _=>rfl⟩|exact ν
 case rest=>
  have k:=hcut;clear hcut;rename World=>W;have b:=(E.out.MG p (o:Int)).ag k;have e1:=b.h1;have I:=b.r x f;rw[t.out.1] at I;have J:=b.u x f;rw[EL,t.out.2] at J;have e4:=b.u o m;have e5:=b.f (o*3+2);have e6:=b.f (x*3+1);have e7:=b.f (x*3+2);have u:ae [B.ba] w W:=ae.trans β (k.mono σ);have v:=χ (ψ b u);clear b k u y n q r i
  go_upto_region 5 with(fail)
  go_region_law (fail)
  all_goals
   go_wp2;go_end0;refine⟨rfl,iC.ext ((((v.out.1.uW o p).dm x (-1)).uW x (-1)).ag ?_) G.out,v.out.2.trans ?_⟩
   .first|exact⟨rfl,rfl,rfl,Θ _,λ_ _ _=>rfl⟩|exact ν
   .exact β
end
section
variable{w:World}{B:PB}{F:List Nat}{gt ct:Nat}{A:NS}{st:Nat}{S:TS}{ai:List Int}
def Zn(h:iC w B F gt ct A st S ai)(p x:Nat)(hp:p<A.cs.length)(d:x<A.cs.length)(b:p≠x)(l:S.r p=x)(c:S.l p≠x)(m:S.u x=p)(f:S.r x=-1):
  Calls prog 204 #[B.n0,(x:Int)] w λe w'=>e=.returned (.tuple #[])/\iC w' B F gt ct A st (lq S p true x) ai/\ae [B.ba] w w':=by
 have u:=h.h1;have v:=h.l p hp;have n:=h.r x d;have o:=h.u x d;rw[m] at o;have q:=h.f;have g:=q (p*3+1);have i:=h.r p hp;have H:(x:Int)<(A.cs.length:Int):=ω;have y:(p:Int)<(A.cs.length:Int):=ω;have z:=χ h;clear h q;have I:(S.l p == (x:Int))=false:=by simpa using c
 have C:=χ (JJ S p x true b f);rw[f] at n;have r:=χ (show(S.aM p true (-1)).r x=-1/\S.u x=p from⟨by unfold TS.aM;(have j:¬x=p:=λe=>b e.symm);simpa[j] using f,m⟩);clear f m c l;generalize S.l p=G at *
 go_enter func204,ntmps204
 go_upto_region 1 with(fail)
 go_quiet (fail)
 go_upto_region 3 with(fail)
 go_cut [] (λW=>ae [] (w.setCell ⟨B.ba,p*3+1,none⟩ (.int .i64 (-1))) W)
 case first=>
  go_region_law (fail)
  all_goals
   go_wp2
   go_meet
   first|exact⟨rfl,rfl,rfl,Θ _,λ_ _ _=>rfl⟩|exact ν
 case rest=>
  have k:=hcut;clear hcut;rename World=>W;have a:=(z.out.dm p (-1)).ag k;have D:=a.r x d;rw[r.out.1] at D;have E:=a.u x d;rw[EL,r.out.2] at E;have J:=a.f (x*3+1);have K:=a.f (x*3+2);have s:ae [B.ba] w W:=ae.trans β (k.mono σ);have t:=χ (ψ a s);clear a k s u v n o g i;go_wp2;go_end0;refine⟨rfl,iC.ext (((t.out.1.dm x (-1)).uW x (-1)).ag ?_) C.out,t.out.2.trans ?_⟩
  .first|exact⟨rfl,rfl,rfl,Θ _,λ_ _ _=>rfl⟩|exact ν
  .exact β
end
section
variable{w:World}{B:PB}{F:List Nat}{gt ct:Nat}{A:NS}{st:Nat}{S:TS}{ai:List Int}
def Zg(h:iC w B F gt ct A st S ai)(p x:Nat)(hp:p<A.cs.length)(f:x<A.cs.length)(c:p≠x)(m:S.r p=x)(d:S.l p≠x)(n:S.u x=p)(o:Nat)(g:S.r x=o)(q:o<A.cs.length)(N:o≠p)(O:o≠x):
  Calls prog 204 #[B.n0,(x:Int)] w λe w'=>e=.returned (.tuple #[])/\iC w' B F gt ct A st (lq S p true x) ai/\ae [B.ba] w w':=by
 have z:=h.h1;have C:=h.l p hp;have r:=h.r x f;have s:=h.u x f;rw[n] at s;have t:=h.f;have i:=t (p*3+1);have j:=h.r p hp;have a:=h.sep;have D:¬B.n0=B.ba:=a.1;have E:¬B.ba=B.n0:=λe=>a.1 e.symm;have P:(x:Int)<(A.cs.length:Int):=ω;have G:(p:Int)<(A.cs.length:Int):=ω;have Q:¬x*3+1=p*3:=ω;have R:¬x*3+1=p*3+1:=ω;have T:¬x*3+2=p*3:=ω;have U:¬x*3+2=p*3+1:=ω;have X:¬p*3=x*3+1:=ω;have Y:¬p*3=x*3+2:=ω;have Z:¬p*3+1=x*3+1:=ω;have m8:¬p*3+1=x*3+2:=ω;have H:=χ h;clear h t a;have hq:(S.l p == (x:Int))=false:=by simpa using d
 have I:=χ (Jz S p x o true c g);rw[g] at r;have K9:((o:Int) != -1)=true:=σ;have J:(o:Int)<(A.cs.length:Int):=ω;have k1:¬o*3+2=p*3:=ω;have k2:¬o*3+2=p*3+1:=ω;have k3:¬x*3+1=o*3+2:=ω;have k4:¬x*3+2=o*3+2:=ω;have k5:¬o*3+2=x*3+1:=ω;have k6:¬o*3+2=x*3+2:=ω;have u:=χ (show(S.aM p true (o:Int)).r x=o/\S.u x=p from⟨by unfold TS.aM;(have k:¬x=p:=λe=>c e.symm);simpa[k] using g,n⟩);clear g n d m;generalize S.l p=M at *
 go_enter func204,ntmps204
 go_upto_region 1 with(fail)
 go_quiet (fail)
 go_upto_region 3 with(fail)
 go_cut [] (λW=>ae [] (w.setCell ⟨B.ba,p*3+1,none⟩ (.int .i64 (o:Int))) W)
 case first=>
  go_region_law (fail)
  all_goals
   go_wp2
   go_meet
   first|exact⟨rfl,rfl,rfl,Θ _,λ_ _ _=>rfl⟩|exact ν
 case rest=>
  have l:=hcut;clear hcut;rename World=>W;have b:=(H.out.dm p (o:Int)).ag l;have e1:=b.h1;have K:=b.r x f;rw[u.out.1] at K;have L:=b.u x f;rw[EL,u.out.2] at L;have e4:=b.u o q;have e5:=b.f (o*3+2);have e6:=b.f (x*3+1);have e7:=b.f (x*3+2);have v:ae [B.ba] w W:=ae.trans β (l.mono σ);have y:=χ (ψ b v);clear b l v z C r s i j
  go_upto_region 5 with(fail)
  go_region_law (fail)
  all_goals
   go_wp2;go_end0;refine⟨rfl,iC.ext ((((y.out.1.uW o p).dm x (-1)).uW x (-1)).ag ?_) I.out,y.out.2.trans ?_⟩
   .first|exact⟨rfl,rfl,rfl,Θ _,λ_ _ _=>rfl⟩|exact ν
   .exact β
end
section
variable{w:World}{B:PB}{F:List Nat}{gt ct:Nat}{A:NS}{st:Nat}{S:TS}{ai:List Int}
def RN(h:iC w B F gt ct A st S ai)(p x:Nat)(s:Bool)(hp:p<A.cs.length)(f:x<A.cs.length)(a:p≠x)(g:S.kid s p=x)(hs:s=true->S.l p≠x)(i:S.u x=p)(k:S.r x=-1\/(0<=S.r x/\S.r x<A.cs.length))(c:S.r x≠p)(d:S.r x≠x):
  Calls prog 204 #[B.n0,(x:Int)] w λe w'=>e=.returned (.tuple #[])/\iC w' B F gt ct A st (lq S p s x) ai/\ae [B.ba] w w':=by
 cases s with
 |false=>
  by_cases j:S.r x=-1
  .exact ZG h p x hp f a g i j
  .obtain⟨o,b⟩:∃o:Nat,S.r x=o:=⟨(S.r x).toNat,ω⟩;exact Zb h p x hp f a g i o b ω (λe=>c (by rw[b,e])) (λe=>d (by rw[b,e]))
 |true=>
  by_cases j:S.r x=-1
  .exact Zn h p x hp f a g (hs rfl) i j
  .obtain⟨o,b⟩:∃o:Nat,S.r x=o:=⟨(S.r x).toNat,ω⟩;exact Zg h p x hp f a g (hs rfl) i o b ω (λe=>c (by rw[b,e])) (λe=>d (by rw[b,e]))
end
section
variable{w:World}{B:PB}{F:List Nat}{gt ct:Nat}{A:NS}{st:Nat}{tr:Nat->BT}
def iC.abB{S:TS}{ai:List Int}(h:iC w B F gt ct A st S ai):B.n0∉[B.ba,B.c,gt]/\gt∉[B.ba,B.c]:=by
 have a:=h.sep;have b:B.n0≠B.c:=λe=>h.bQ.1 (by rw[e];exact h.cF);have c:gt≠B.c:=λe=>h.bQ.2.2 (by rw[e];exact h.cF);constructor<;>simp<;>omega
def Ih(h:ny w B F gt ct A st tr)(c x:Nat)(k s:Int)(hk:-9223372036854775808<=k/\k<=9223372036854775807/\0<=s/\s<=18446744073709551615)(t:oF A c x=true):
  Calls prog 200 #[B.n0,(c:Int),(x:Int),.agg #[k,.int .u64 s]] w λe w'=>e=.returned true/\ae (B.blk F gt) w w'/\
   ∃g,ny w' B F gt ct (aN A c x k s) g (λq=>if q=c then dG (aN A c x k s) (tr c) (single x) else tr q):=by
 obtain⟨S,ai,j,l,r⟩:=h;have u:=j.lt;have P:=j.cells.ok;obtain⟨b1,b2,O⟩:=(fB _ _ _).1 t;have b4:=(aF _ _).1 b1;have v:x<A.cs.length:=by have:=(il _ _).1 b2;omega
 have Q:(A.c x).i=0:=by
  have:=(P.nat x v).1;have R:¬(0<(A.c x).i):=λh'=>by rw[(aj A x).2 ⟨v,h'⟩] at O;cases O
  omega
 have z:(aN A c x k s).cs.length=A.cs.length:=by unfold aN;rw[Δ t,fM]
 have jw:(aN A c x k s).hs.length=A.hs.length:=by unfold aN;rw[Δ t];rfl
 have o:∀y,(aN A c x k s).c y=if y=x then⟨c,k,s⟩ else A.c y:=λy=>by
  unfold aN;rw[Δ t,π,mg]
  by_cases e:y=x
  .rw[Δ ⟨e,v⟩,Δ e]
  .rw[Γ (λh=>e h.1),Γ e]
 have T:x∉(tr c).nodes:=l.out Q;have U:((tr c).nodes++(single x).nodes).Nodup:=by
  rw[θ];refine⟨l.nd c,by simp[single,BT.nodes],λa ha b hb e=>?_⟩;simp only[single,BT.nodes,Υ,ϒ] at hb;exact T (by rw[←hb,←e];exact ha)
 have C:∀y,y∈(tr c).nodes++(single x).nodes->bY (aN A c x k s) (y:Int)=true:=λy f=>by
  rw[aj,z,o];simp only[single,BT.nodes,Υ,τ,ϒ] at f
  by_cases e:y=x
  .rw[Δ e,e];exact⟨v,by show(0:Int)<(c:Int);omega⟩
  .rw[Γ e];have:=(l.mem c y).1 (f.resolve_right e);exact⟨this.2.1,ω⟩
 have D:eH (aN A c x k s) (tr c):=eH.frame (l.heap c) (λy f=>by rw[o,Γ (λe=>T (by rw[←e];exact f))]);have mp:=lJ (aN A c x k s) (r c) (show Lone (single x) from rfl);have ml:=mV (aN A c x k s) (r c) (show Lone (single x) from rfl);have mh:=oL (r c) (show Lone (single x) from rfl) D (show eH (aN A c x k s) (single x) from⟨by simp[BT.nodes],trivial,trivial⟩) U;have E:=l.free x v Q;have G:=r c
 have FI:Hid (∀ (W:World) (L:TS) (g:Nat),iC W B F gt ct (aN A c x k s) g L (ai.set c (dG (aN A c x k s) (tr c) (single x)).root)->dL L (-1) (dG (aN A c x k s) (tr c) (single x)).root (dG (aN A c x k s) (tr c) (single x))->
   (∀y,y∉(tr c).nodes++(single x).nodes->S.at L y)->ny W B F gt ct (aN A c x k s) g (λq=>if q=c then dG (aN A c x k s) (tr c) (single x) else tr q)):=λW L g a1 a2 a4=>by
  refine⟨L,_,a1,l.put P j.iY t a2 mp mh a4,λq=>?_⟩
  show Lone (if q=c then _ else _)
  split
  .exact ml
  .exact r q
 have H:=l.Az c;have I:=l.top c ω;have X:c<ai.length:=by rw[j.iY];omega
 have Y:ae [] w (w.alloc (.cells #[k,.int .u64 s] 97)):=(ae.refl _ _).alloc _;have kp:=λW (i:ae [] (w.alloc (.cells #[k,.int .u64 s] 97)) W)=>oQ (j.cells.ag (Y.trans i)) c x k s hk t;have h0:=j.h0;have wC:B.n0∉F:=j.bQ.1;have J:w.heap.size∉F:=λhm=>by have:=u w.heap.size (by simp[PB.blk,hm]);omega
 have r0:∀W,ae F (w.alloc (.cells #[k,.int .u64 s] 97)) W->W.cell? B.n0=some (B.c:V):=λW i=>i.kept (Y.was h0) wC;have r1:∀W,ae F (w.alloc (.cells #[k,.int .u64 s] 97)) W->W.cell? w.heap.size=some (k:V):=λW h=>h.kept σ J;have r2:∀W,ae F (w.alloc (.cells #[k,.int .u64 s] 97)) W->W.cell? ⟨w.heap.size,1,none⟩=some (.int .u64 s):=λW h=>h.kept σ J;have HM:=χ j;have K:=χ (ψ U (ψ C (ψ H (ψ G E))));clear j l r P b1 b2 O Q o T U C D mp mh ml E h0 u H G
 generalize hA':aN A c x k s=A' at *;generalize htr:tr c=th at *
 go_enter func200,ntmps200
 go_wp2
 go_region_held3 (ae F (w.alloc (.cells #[k,.int .u64 s] 97))) (exact ν)
  (((with_reducible refine(kp _ β).mono ?_);rintro e m ⟨rfl,gK,M⟩;(have p:ae F (w.alloc (.cells #[k,.int .u64 s] 97)) m:=ν)))
 have Z:ae F w (w.alloc (.cells #[k,.int .u64 s] 97)):=Y.mono σ;have d:=HM.out.cK (Z.trans p) gK (λy f=>Α f) z jw;have hw1:ae F w m:=Z.trans p;clear r0 r1 r2 kp M p gK Z;have km:=λW (i:ae [] m W)=>vY (d.ag i) th (single x) K.out.2.2.1 (xJ K.out.2.2.2.2) K.out.2.2.2.1 rfl K.out.1 K.out.2.1;rw[show(single x).root=(x:Int) from rfl] at km;have d4:=d.iP.cell c X;rw[I] at d4;have f4:=d.iP.free c;have R:=d.h2;obtain⟨xz,n⟩:=d.abB
 have r3:∀W,ae [B.ba,B.c] m W->W.cell? ⟨B.n0,2,none⟩=some (.slice (some (gt:Nat)) ai.length ct):=λW i=>i.kept R (λhm=>xz (by simp at hm ⊢;omega));have r4:∀W,ae [B.ba,B.c] m W->W.cell? ⟨gt,c,none⟩=some (th.root:V)/\W.frozen? ⟨gt,c,none⟩=false:=λW i=>⟨i.kept d4 n,i.ay d4 n f4⟩
 have Cq:(0:Int)<=(c:Int):=ω;have DV:(c:Int)<(ai.length:Int):=ω;generalize hmt:dG A' th (single x)=mt at *;clear d f4 R xz n;have q3:=r3 _ (ae.refl _ _);go_wp2
 go_region_law
  (first
   | (go_simp;(with_reducible refine (km _ β).mono ?_);rintro e w5 ⟨rfl,qP,Ve,S5,wY,EJ,N⟩;(have dD:ae [B.ba,B.c] m w5:=ae.trans β qP);obtain ⟨d5,f5⟩:=r4 _ dD))
 all_goals
  go_wp2;go_ret;have qj:=HM.out.cF;have v1:ae (B.blk F gt) w m:=hw1.mono (λy f=>by simp only[PB.blk,ρ];simp[f])
  have v3:ae (B.blk F gt) w w5:=v1.trans (dD.mono (λy f=>by
   simp only[ρ,ς,or_false] at f;simp only[PB.blk,ρ];rcases f with rfl|rfl
   .simp
   .simp [qj]))
  subst hmt;exact⟨rfl,v3.setCell (Α (by simp[PB.blk])) _,Ve,FI.out _ S5 Ve (wY.mW c _) EJ N⟩
end
def rM{P:List Fr}{t:BT}{y:Nat}:y∈(ak P t).nodes↔y∈t.nodes\/y∈ed P:=by
 rw[(aV P t).mem_iff,τ]
def WK{S c a:TS}{x:Nat}(h:S.at c x)(b:c.at a x):S.at a x:=⟨b.1.trans h.1,b.2.1.trans h.2.1,b.2.2.trans h.2.2⟩
def FE{A:NS}{x:Nat}{k s:Int}(d:iX A x k s=true)(i:x<A.cs.length){l:BT}(h:eH A (.node x l .nil))(b:(BT.node x l .nil).nodes.Nodup):eH (aA A x k s) (.node x l .nil):=by
 simp only[BT.nodes,Υ,Ζ] at b;have a:=wJ d;rw[π] at a;have f:=vk d i;have c:∀y,y≠x->(aA A x k s).c y=A.c y:=λy e=>by rw[f,Γ e]
 have g:(aA A x k s).c x=⟨(A.c x).i,k,s⟩:=by grind
 refine⟨λy m=>nu (h.1 y m) (c y (λe=>b.1 (by grind))) ?_,eH.frame h.2.1 (λy m=>c y (λe=>b.1 (by grind))),trivial⟩;rw[g];exact a
section
variable{w:World}{B:PB}{F:List Nat}{gt ct:Nat}{A:NS}{st:Nat}{S:TS}{ai:List Int}
def aaG(h:iC w B F gt ct A st S ai){f:Fr}{P:List Fr}{x:Nat}{l r:BT}(p:dL S (-1) (ak (f::P) (.node x l r)).root (ak (f::P) (.node x l r)))(q:(ak (f::P) (.node x l r)).nodes.Nodup)(b:∀y,y∈(ak (f::P) (.node x l r)).nodes->y<A.cs.length):
  Calls prog 204 #[B.n0,(x:Int)] w λe w'=>e=.returned (.tuple #[])/\iC w' B F gt ct A st (lq S f.1 f.2.1 x) ai/\ae [B.ba] w w':=by
 obtain⟨-, -, -,s,t,u⟩:=BX p q;have m:=((fe _ _).1 p).1;have d:=(aV (f::P) (.node x l r)).nodup_iff.1 q;rw[θ] at d;obtain⟨j,G,k⟩:=d;simp only[BT.nodes,Ζ,τ,not_or] at j;have a:f.1∈ed (f::P):=by simp[ed]
 have i:f.1≠x:=λe=>k x (by simp[BT.nodes]) f.1 a e.symm;have g:∀z:Nat,S.r x=(z:Int)->z∈r.nodes:=λz c=>by
  have v:S.r x=r.root:=m.2.2.2.root;rw[v] at c;have C:r≠.nil:=λE=>by rw[E] at c;simp[BT.root] at c
  have o:=(cB C).1;rw[c,π] at o;exact o
 have D:=xC (n:=A.cs.length) m.2.2.2 (λz c=>b z (rM.2 (Α (by simp[BT.nodes,c]))));exact RN h f.1 x f.2.1 (b _ (rM.2 (Β a))) (b _ (rM.2 (Α (by simp[BT.nodes])))) i s t u D (λe=>k f.1 (by simp[BT.nodes,g _ e]) f.1 a rfl) (λe=>j.1.2 (g _ e))
def Q8(f:iC w B F gt ct A st S ai){g x:Nat}{k s:Int}(hk:-9223372036854775808<=k/\k<=9223372036854775807/\0<=s/\s<=18446744073709551615)(E:iX A x k s=true)
  (G:(A.c x).i=g) (hg0:0<g) (H:g<ai.length) (c:ai.getD g 0=x) (i:x<A.cs.length):
  Calls prog 197 #[B.n0,(x:Int),.agg #[k,.int .u64 s]] w λe w'=>e=.returned true/\ae (B.blk F gt) w w'/\iC w' B F gt ct (aA A x k s) st S ai:=by
 have j:=gD A x k s;have N:=mX A x k s;have l:bY (aA A x k s) (x:Int)=true:=(aj _ x).2 ⟨by rw[j];exact i,by rw[iW E i,G];omega⟩;have r:((aA A x k s).c x).i=g:=by rw[iW E i,G]
 have t:ae [] w (w.alloc (.cells #[k,.int .u64 s] 97)):=(ae.refl _ _).alloc _;have J:=λW (D:ae [] (w.alloc (.cells #[k,.int .u64 s] 97)) W)=>iR (f.cells.ag (t.trans D)) x k s hk E;have K:=f.h0;have O:B.n0∉F:=f.bQ.1;have m:=f.lt;have n:w.heap.size∉F:=λhm=>by have:=m w.heap.size (by simp[PB.blk,hm]);omega
 have P:∀W,ae F (w.alloc (.cells #[k,.int .u64 s] 97)) W->W.cell? B.n0=some (B.c:V):=λW D=>D.kept (t.was K) O;have Q:∀W,ae F (w.alloc (.cells #[k,.int .u64 s] 97)) W->W.cell? w.heap.size=some (k:V):=λW h=>h.kept σ n;have R:∀W,ae F (w.alloc (.cells #[k,.int .u64 s] 97)) W->W.cell? ⟨w.heap.size,1,none⟩=some (.int .u64 s):=λW h=>h.kept σ n;have T:=χ f;have U:=χ c;have u:ai.length=A.hs.length:=f.iY;clear f c m K G;generalize hA':aA A x k s=A' at *
 go_enter func197,ntmps197
 go_wp2
 go_region_held3 (ae F (w.alloc (.cells #[k,.int .u64 s] 97))) (exact ν)
  (((with_reducible refine(J _ β).mono ?_);rintro e M ⟨rfl,I,p⟩;(have a:ae F (w.alloc (.cells #[k,.int .u64 s] 97)) M:=ν)))
 have v:ae F w (w.alloc (.cells #[k,.int .u64 s] 97)):=t.mono σ;have b:=T.out.cK (v.trans a) I (λy o=>Α o) j (by rw[N]);have L:=bX b.cells x l;rw[r] at L;have X:=b.h0;have Y:=χ b;have z:=χ (v.trans a);have Z:(g:Int)<(ai.length:Int):=ω;clear P Q R J p a I b v u
 go_wp2_with ((((with_reducible refine L.mono ?_));rintro e w2 ⟨rfl,q,a⟩;(have d:=Y.out.cK a q (λy o=>Α o) rfl rfl);(have g21:=d.h2);(have C:=d.iP.cell g H);rw[U.out] at C))
 go_ret;exact⟨rfl,(z.out.trans a).mono (λy o=>by simp only[PB.blk,ρ];simp[o]),d⟩
def UT(E:iC w B F gt ct A st S ai){g x:Nat}{f:Fr}{P:List Fr}{l r:BT}{k s:Int}(hk:-9223372036854775808<=k/\k<=9223372036854775807/\0<=s/\s<=18446744073709551615)(T:iX A x k s=true)
  (hg:(A.c x).i=g) (hg0:0<g) (O:g<ai.length) (c:ai.getD g 0=(ak (f::P) (.node x l r)).root) (hT:dL S (-1) (ak (f::P) (.node x l r)).root (ak (f::P) (.node x l r))) (U:(ak (f::P) (.node x l r)).nodes.Nodup)
  (hL:Lone (ak (f::P) (.node x l r))) (d:∀y,y∈(ak (f::P) (.node x l r)).nodes->bY A (y:Int)=true):
  Calls prog 197 #[B.n0,(x:Int),.agg #[k,.int .u64 s]] w λe w'=>e=.returned true/\ae (B.blk F gt) w w'/\
   ∃st' S',iC w' B F gt ct (aA A x k s) st' S' (ai.set g (dG (aA A x k s) (ak (f::P) r) (.node x l .nil)).root)/\dL S' (-1) (dG (aA A x k s) (ak (f::P) r) (.node x l .nil)).root (dG (aA A x k s) (ak (f::P) r) (.node x l .nil))/\∀y,y∉(ak (f::P) (.node x l r)).nodes->S.at S' y:=by
 have u:=gD A x k s;have jw:=mX A x k s;have j:x<A.cs.length:=by
  have:=d x (rM.2 (Α (by simp[BT.nodes])));exact((aj A x).1 this).1
 have J:bY (aA A x k s) (x:Int)=true:=(aj _ x).2 ⟨by rw[u];exact j,by rw[iW T j,hg];omega⟩;have Z:((aA A x k s).c x).i=g:=by rw[iW T j,hg]
 have uT:∀y,y∈(ak (f::P) (.node x l r)).nodes->bY (aA A x k s) (y:Int)=true:=λy a=>by
  have:=(aj A y).1 (d y a);exact(aj _ y).2 ⟨by rw[u];exact this.1,by rw[iW T j];exact this.2⟩
 have o:∀y,y∈(ak (f::P) (.node x l r)).nodes->y<(aA A x k s).cs.length:=λy a=>((aj _ y).1 (uT y a)).1;obtain⟨o1,o2,o3, -⟩:=BX hT U;have v:=xY (f::P) x l r;have Q:((ak (f::P) r).nodes++(BT.node x l .nil).nodes).Nodup:=zX (v.nodup_iff.1 U);have Oy:∀y,y∈(ak (f::P) r).nodes++(BT.node x l .nil).nodes->y∈(ak (f::P) (.node x l r)).nodes:=λy a=>by
  rw[v.mem_iff,τ];rw[τ] at a;exact a.symm
 have PE:Lone (ak (f::P) r):=r9 (t:=.node x l r) σ hL;have K:(ak (f::P) (.node x l r)).root=(ak (f::P) r).root:=kZ _ _ _ _;have z:(ak (f::P) r).root≠(x:Int):=λe=>by
  have h6:ak (f::P) r≠.nil:=λe'=>by rw[e'] at e;simp[BT.root] at e
  have h7:=(cB h6).1;rw[e,π] at h7;rw[θ] at Q;exact Q.2.2 x h7 x (by simp[BT.nodes]) rfl
 rw[K] at c;have u1:ae [] w (w.alloc (.cells #[k,.int .u64 s] 97)):=(ae.refl _ _).alloc _;have kp:=λW (i:ae [] (w.alloc (.cells #[k,.int .u64 s] 97)) W)=>iR (E.cells.ag (u1.trans i)) x k s hk T;have h0:=E.h0;have wC:B.n0∉F:=E.bQ.1;have L:=E.lt;have C:w.heap.size∉F:=λN=>by have:=L w.heap.size (by simp[PB.blk,N]);omega
 have r0:∀W,ae F (w.alloc (.cells #[k,.int .u64 s] 97)) W->W.cell? B.n0=some (B.c:V):=λW i=>i.kept (u1.was h0) wC;have r1:∀W,ae F (w.alloc (.cells #[k,.int .u64 s] 97)) W->W.cell? w.heap.size=some (k:V):=λW h=>h.kept σ C;have r2:∀W,ae F (w.alloc (.cells #[k,.int .u64 s] 97)) W->W.cell? ⟨w.heap.size,1,none⟩=some (.int .u64 s):=λW h=>h.kept σ C;have HM:=χ E;have R:=χ (ψ hT (ψ U (ψ uT o)));have D:=χ (ψ Q (ψ Oy (ψ PE (ψ o1 (ψ o2 o3)))));have HT:=χ c;have htn:ai.length=A.hs.length:=E.iY
 clear E hT U d uT o L h0 hg Q Oy wC C hL PE K v o1 o2 o3 c;generalize hA':aA A x k s=A' at *;generalize Di:ak (f::P) r=ta at *
 go_enter func197,ntmps197
 go_wp2
 go_region_held3 (ae F (w.alloc (.cells #[k,.int .u64 s] 97))) (exact ν)
  (((with_reducible refine(kp _ β).mono ?_);rintro e w1 ⟨rfl,gK,X⟩;(have b:ae F (w.alloc (.cells #[k,.int .u64 s] 97)) w1:=ν)))
 have uF:ae F w (w.alloc (.cells #[k,.int .u64 s] 97)):=u1.mono σ;have m:=HM.out.cK (uF.trans b) gK (λy a=>Α a) u (by rw[jw]);have kh:=bX m.cells x J;rw[Z] at kh;have g10:=m.h0;have jZ:=χ m;have u01:=χ (uF.trans b);have JG:(ta.root != (x:Int))=true:=by simpa using z
 have hgI:(g:Int)<(ai.length:Int):=ω;clear r0 r1 r2 kp X b gK m uF htn
 go_wp2_with (first
  |(((with_reducible refine kh.mono ?_));rintro e w2 ⟨rfl,G,b⟩;(have n:=jZ.out.cK b G (λy a=>Α a) rfl rfl);(have g21:=n.h2);(have M:=n.iP.cell g O);rw[HT.out] at M;(have ko:=aaG n R.out.1 R.out.2.1 R.out.2.2.2))
  | (((with_reducible refine ko.mono ?_));rintro e H ⟨rfl,p,I⟩))
 have hw3:ae (B.blk F gt) w H:=((u01.out.trans b).mono (λy a=>by simp only[PB.blk,ρ];simp[a])).trans (I.mono (λy a=>by simp at a;simp[PB.blk,a]));have km:=λW (i:ae [] H W)=>vY (p.ag i) ta (.node x l .nil) D.out.2.2.2.2.1 D.out.2.2.2.1 D.out.2.2.1 rfl D.out.1 (λy a=>R.out.2.2.1 y (D.out.2.1 y a));rw[show(BT.node x l .nil).root=(x:Int) from rfl] at km;have d4:=p.iP.cell g O;rw[HT.out] at d4;have f4:=p.iP.free g;have h3:=p.h2;obtain⟨xz,q⟩:=p.abB;have qj:=p.cF
 have r3:∀W,ae [B.ba,B.c] H W->W.cell? ⟨B.n0,2,none⟩=some (.slice (some (gt:Nat)) ai.length ct):=λW i=>i.kept h3 (λN=>xz (by simp at N ⊢;omega));have r4:∀W,ae [B.ba,B.c] H W->W.cell? ⟨gt,g,none⟩=some (ta.root:V)/\W.frozen? ⟨gt,g,none⟩=false:=λW i=>⟨i.kept d4 q,i.ay d4 q f4⟩
 have Cq:(0:Int)<=(g:Int):=ω;generalize hmt:dG A' ta (.node x l .nil)=mt at *;clear p f4 h3 xz q g21 M n ko G b I kh g10;have q3:=r3 _ (ae.refl _ _);go_wp2
 go_region_law
  (first
   | (go_simp;(with_reducible refine (km _ β).mono ?_);rintro e w5 ⟨rfl,qP,Ve,S5,wY,EJ,Y⟩;(have dD:ae [B.ba,B.c] H w5:=ae.trans β qP);obtain ⟨d5,f5⟩:=r4 _ dD))
 all_goals
  go_wp2;go_ret
  have v3:ae (B.blk F gt) w w5:=hw3.trans (dD.mono (λy a=>by
   simp only[ρ,ς,or_false] at a;simp only[PB.blk,ρ];rcases a with rfl|rfl
   .simp
   .simp [qj]))
  subst hmt;exact⟨rfl,v3.setCell (Α (by simp[PB.blk])) _,Ve,S5,wY.mW g _,EJ,λy a=>WK (D.out.2.2.2.2.2 y a) (Y y (λN=>a (D.out.2.1 y N)))⟩
