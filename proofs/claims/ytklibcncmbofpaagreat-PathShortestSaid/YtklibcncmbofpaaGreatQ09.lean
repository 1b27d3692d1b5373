/-
  Lemmas for PathShortest: Bt3, Bt4, TOps, Lf, Lf2, Lf3. Conditions: those of each lemma.
-/
import Derived.IntWalk
import Derived.Test.YtklibcncmbofpaaGreatQ03
import Derived.Test.YtklibcncmbofpaaGreatQ08
set_option linter.all false
set_option maxHeartbeats 8000000
set_option maxRecDepth 10000
namespace Go.Proofs.YtklibcncmbofpaaGreat
theorem Heap.frame {A A':NS}:∀ {t:BT},Heap A t->(∀x,x∈t.nodes->A'.c x=A.c x)->Heap A' t
 | .nil,_,_=>trivial
 | .node x l r,h,hs=>by
  have hx:=hs x (by simp [BT.nodes]);refine ⟨fun y hy=>(fM hx (hs y (by simp [BT.nodes,hy]))).2 (h.1 y hy),fun y hy=>(fM hx (hs y (by simp [BT.nodes,hy]))).2 (h.2.1 y hy),h.2.2.1.frame (fun y hy=>hs y (by simp [BT.nodes,hy])),h.2.2.2.frame (fun y hy=>hs y (by simp [BT.nodes,hy]))⟩
structure Qi where
 H:NS->BT->Prop
 frame:∀ {A A':NS} {t:BT},H A t->(∀x,x∈t.nodes->A'.c x=A.c x)->H A' t
 nil:∀A,H A .nil
abbrev heapK:Qi:=⟨Heap,Heap.frame,fun _=>trivial⟩
structure xw (K:Qi) (A:NS) (S:TS) (ak:List Int) (tr:Nat->BT):Prop where
 top:∀h,h<A.hs.length->ak.getD h 0=(tr h).root
 EE:∀h,cO S (-1) (tr h).root (tr h)
 mem:∀h x,x∈(tr h).nodes↔0<h/\x<A.cs.length/\(A.c x).i=h
 nd:∀h,(tr h).nodes.Nodup
 heap:∀h,K.H A (tr h)
 free:∀x,x<A.cs.length->(A.c x).i=0->S.l x=-1/\S.r x=-1/\S.u x=-1
abbrev TrI:=xw heapK
theorem xw.next {K:Qi} {A A':NS} {S S':TS} {ak jC:List Int} {tr Il:Nat->BT} (h:xw K A S ak tr) (hc:A'.cs.length=A.cs.length) (keep:Nat->Prop)
  (k1:∀g,keep g->Il g=tr g/\∀x,x∈(tr g).nodes->S.at S' x/\A'.c x=A.c x)
  (k2:∀g,keep g->∀x,x<A.cs.length->0<g->((A'.c x).i=g↔(A.c x).i=g))
  (n1:∀g,¬keep g->cO S' (-1) (Il g).root (Il g)/\(Il g).nodes.Nodup/\K.H A' (Il g)/\∀x,x∈(Il g).nodes↔0<g/\x<A.cs.length/\(A'.c x).i=g)
  (tp:∀g,g<A'.hs.length->jC.getD g 0=(Il g).root)
  (fr:∀x,x<A.cs.length->(A'.c x).i=0->S'.l x=-1/\S'.r x=-1/\S'.u x=-1):xw K A' S' jC Il:=by
 refine ⟨tp,fun g=>?_,fun g x=>?_,fun g=>?_,fun g=>?_,fun x hx=>fr x ω⟩
 ·by_cases hk:keep g
  ·obtain ⟨e,hs⟩:=k1 g hk;rw [e];exact (h.EE g).frame (fun y hy=>(hs y hy).1)
  ·exact (n1 g hk).1
 ·rw [hc]
  by_cases hk:keep g
  ·rw [(k1 g hk).1,h.mem g x];constructor
   ·rintro ⟨a,b,c⟩;exact ⟨a,b,(k2 g hk x b a).2 c⟩
   ·rintro ⟨a,b,c⟩;exact ⟨a,b,(k2 g hk x b a).1 c⟩
  ·exact (n1 g hk).2.2.2 x
 ·by_cases hk:keep g
  ·rw [(k1 g hk).1];exact h.nd g
  ·exact (n1 g hk).2.1
 ·by_cases hk:keep g
  ·obtain ⟨e,hs⟩:=k1 g hk;rw [e];exact K.frame (h.heap g) (fun y hy=>(hs y hy).2)
  ·exact (n1 g hk).2.2.1
def single (x:Nat):BT:=.node x .nil .nil
theorem vI {S:TS} {x:Nat} (h:S.l x=-1/\S.r x=-1/\S.u x=-1):cO S (-1) (single x).root (single x):=⟨rfl,h.2.2,h.1,h.2.1⟩
theorem xw.out {K:Qi} {A:NS} {S:TS} {ak:List Int} {tr:Nat->BT} (h:xw K A S ak tr) {x g:Nat} (hx:(A.c x).i=0):x∉(tr g).nodes:=fun hm=>by
 have:=(h.mem g x).1 hm;omega
theorem xw.put {K:Qi} {A:NS} {S S':TS} {ak:List Int} {tr:Nat->BT} (h:xw K A S ak tr) (ok:A.Ok) (hn:ak.length=A.hs.length) {g x:Nat} {k s:Int} (hB:oz A g x=true) {t':BT}
  (hT:cO S' (-1) t'.root t') (hp:t'.nodes.Perm ((tr g).nodes++[x])) (hH:K.H (aO A g x k s) t') (hs:∀y,y∉(tr g).nodes++[x]->S.at S' y) :
  xw K (aO A g x k s) S' (ak.set g t'.root) (fun q=>if q=g then t' else tr q):=by
 obtain ⟨b1,b2,b3⟩:=(fG _ _ _).1 hB;have b4:=(aT _ _).1 b1;have hx:x<A.cs.length:=by have:=(gZ _ _).1 b2;omega
 have h0:(A.c x).i=0:=by
  have:=(ok.nat x hx).1;have h3:¬ (0<(A.c x).i):=fun h'=>by rw [(ai A x).2 ⟨hx,h'⟩] at b3;cases b3
  omega
 have hc:∀y,(aO A g x k s).c y=if y=x then ⟨g,k,s⟩ else A.c y:=fun y=>by
  unfold aO;rw [if_pos hB,π,kG]
  by_cases e:y=x
  ·rw [if_pos ⟨e,hx⟩,if_pos e]
  ·rw [if_neg (fun h=>e h.1),if_neg e]
 have hl:(aO A g x k s).cs.length=A.cs.length:=by unfold aO;rw [if_pos hB,fK]
 have hh:(aO A g x k s).hs=A.hs:=by unfold aO;rw [if_pos hB];rfl
 have hgn:g<A.hs.length:=ω;refine h.next hl (fun q=>q≠g) (fun q hq=>⟨if_neg hq,fun y hy=>?_⟩) (fun q hq y hy hq0=>?_) (fun q hq=>?_) (fun q hq=>?_) (fun y hy hy0=>?_)
 ·have hyx:y≠x:=fun e=>h.out (g:=q) h0 (by rw [←e];exact hy);have hyg:y∉(tr g).nodes:=fun hm=>by
   have a1:=(h.mem g y).1 hm;have a2:=(h.mem q y).1 hy;omega
  exact ⟨hs y (by simp [hyx,hyg]),by rw [hc,if_neg hyx]⟩
 ·rw [hc]
  by_cases e:y=x
  ·rw [if_pos e,e];simp only;omega
  ·rw [if_neg e]
 ·have hq':q=g:=Classical.not_not.1 hq;subst hq';rw [if_pos rfl];refine ⟨hT,hp.nodup_iff.2 ?_,hH,fun y=>?_⟩
  ·rw [θ];refine ⟨h.nd q,σ,fun a ha b hb e=>?_⟩;simp only [List.mem_singleton] at hb;exact h.out (g:=q) h0 (by rw [←hb,←e];exact ha)
  ·rw [hp.mem_iff,τ,List.mem_singleton,h.mem q y,hc]
   by_cases e:y=x
   ·rw [if_pos e];simp only [e,or_true,true_iff];exact ⟨ω,hx,trivial⟩
   ·rw [if_neg e];simp only [e,or_false]
 ·rw [hh] at hq
  by_cases e:q=g
  ·rw [if_pos e,e,φ,List.getElem?_set,if_pos rfl,if_pos ω];rfl
  ·rw [if_neg e,φ,List.getElem?_set,if_neg (fun h=>e h.symm),←φ];exact h.top q hq
 ·rw [hc] at hy0
  by_cases e:y=x
  ·rw [if_pos e] at hy0;simp only at hy0;omega
  ·rw [if_neg e] at hy0;have hyn:y∉(tr g).nodes++[x]:=by
    simp only [τ,List.mem_singleton,e,or_false];exact h.out hy0
   have a1:=h.free y hy hy0;have a2:=hs y hyn;exact ⟨a2.1.trans a1.1,a2.2.1.trans a1.2.1,a2.2.2.trans a1.2.2⟩
theorem Eb {K:Qi} (n:Nat):xw K (NS.new n) TS.none [-1] (fun _=>BT.nil):=by
 refine ⟨fun h hh=>?_,fun h=>rfl,fun h x=>?_,fun h=>List.nodup_nil,fun h=>K.nil _,fun x hx _=>⟨rfl,rfl,rfl⟩⟩
 ·have:h=0:=by simp [NS.new] at hh;exact hh
  subst this;rfl
 ·rw [NS.yt];simp only [BT.nodes,ς,false_iff,Cl.z];omega
theorem xw.make {K:Qi} {A:NS} {S:TS} {ak:List Int} {tr:Nat->BT} (h:xw K A S ak tr) (ok:A.Ok) (hn:ak.length=A.hs.length) (hl:¬65536<A.hs.length)  :xw K (aS A) S (ak++[-1]) tr:=by
 have hc:(aS A).cs=A.cs:=by unfold aS;rw [if_neg hl]
 have hh:(aS A).hs=A.hs++[true]:=by unfold aS;rw [if_neg hl]
 have hcc:∀x,(aS A).c x=A.c x:=fun x=>by unfold NS.c;rw [hc]
 refine h.next (by rw [hc]) (fun _=>True) (fun g _=>⟨rfl,fun x _=>⟨⟨rfl,rfl,rfl⟩,hcc x⟩⟩) (fun g _ x _ _=>by rw [hcc]) (fun g hg=>absurd trivial hg) (fun g hg=>?_) (fun x hx h0=>h.free x hx (by rw [hcc] at h0;exact h0));rw [hh,υ,List.length_singleton] at hg
 by_cases e:g<A.hs.length
 ·rw [φ,List.getElem?_append_left ω,←φ];exact h.top g e
 ·have e2:g=ak.length:=ω;have hnil:tr g=.nil:=by
   cases ht:tr g with
   | nil=>rfl
   | node x l r=>
    have hm:=(h.mem g x).1 (by rw [ht];simp [BT.nodes]);have:=(ok.nat x hm.2.1).2;omega
  rw [φ,e2,List.getElem?_append_right (Nat.le_refl _)];rw [←e2,hnil];simp [BT.root]
end Go.Proofs.YtklibcncmbofpaaGreat
namespace Go.Proofs.YtklibcncmbofpaaGreat
open Go Go.RowKit
theorem PZ {A:NS} {x:Nat} {k s:Int} (hB:jv A x k s=true) (hx:x<A.cs.length) {l r:BT} (h:Heap A (.node x l r)) (hn:(BT.node x l r).nodes.Nodup):Heap (aB A x k s) (.node x l r):=by
 simp only [BT.nodes,List.nodup_cons,τ,not_or] at hn;have hle:=uD hB;rw [π] at hle;have hc:=ry hB hx;have hy:∀y,y≠x->(aB A x k s).c y=A.c y:=fun y e=>by rw [hc,if_neg e]
 have xV:(aB A x k s).c x=⟨(A.c x).i,k,s⟩:=by rw [hc,if_pos rfl]
 refine ⟨fun y m=>lY (h.1 y m) (hy y (fun e=>hn.1.1 (by rw [←e];exact m))) ?_,fun y m=>lY (h.2.1 y m) (hy y (fun e=>hn.1.2 (by rw [←e];exact m))) ?_,h.2.2.1.frame (fun y m=>hy y (fun e=>hn.1.1 (by rw [←e];exact m))),h.2.2.2.frame (fun y m=>hy y (fun e=>hn.1.2 (by rw [←e];exact m)))⟩
 ·rw [xV];exact hle
 ·rw [xV];exact hle
theorem xw.low {K:Qi} {A:NS} {S S':TS} {ak jC:List Int} {tr:Nat->BT} (h:xw K A S ak tr) {g x:Nat} {k s:Int} (hB:jv A x k s=true) (hx:x∈(tr g).nodes) {t':BT}
  (hT:cO S' (-1) t'.root t') (hp:t'.nodes.Perm (tr g).nodes) (hH:K.H (aB A x k s) t') (hs:∀y,y∉(tr g).nodes->S.at S' y)
  (htp:∀q,q<A.hs.length->jC.getD q 0=if q=g then t'.root else ak.getD q 0) :
  xw K (aB A x k s) S' jC (fun q=>if q=g then t' else tr q):=by
 have hm:=(h.mem g x).1 hx;have hc:=ry hB hm.2.1;have hi:=iR hB hm.2.1;refine h.next (fJ _ _ _ _) (fun q=>q≠g) (fun q hq=>⟨if_neg hq,fun y hy=>?_⟩) (fun q hq y hy hq0=>?_) (fun q hq=>?_) (fun q hq=>?_) (fun y hy hy0=>?_)
 ·have hyg:y∉(tr g).nodes:=fun hm=>by
   have a1:=(h.mem g y).1 hm;have a2:=(h.mem q y).1 hy;omega
  exact ⟨hs y hyg,by rw [hc,if_neg (fun e=>hyg (by rw [e];exact hx))]⟩
 ·rw [hi]
 ·have hq':q=g:=Classical.not_not.1 hq;subst hq';rw [if_pos rfl];refine ⟨hT,hp.nodup_iff.2 (h.nd q),hH,fun y=>?_⟩;rw [hp.mem_iff,h.mem q y,hi]
 ·rw [lI] at hq;rw [htp q hq]
  by_cases e:q=g
  ·rw [if_pos e,if_pos e]
  ·rw [if_neg e,if_neg e];exact h.top q hq
 ·rw [hi] at hy0;have a1:=h.free y hy hy0;have a2:=hs y (h.out hy0);exact ⟨a2.1.trans a1.1,a2.2.1.trans a1.2.1,a2.2.2.trans a1.2.2⟩
theorem xw.del {K:Qi} {A:NS} {S S':TS} {ak jC:List Int} {tr:Nat->BT} (h:xw K A S ak tr) {g x:Nat} (hx:x∈(tr g).nodes) {t':BT}
  (hT:cO S' (-1) t'.root t') (hp:(x::t'.nodes).Perm (tr g).nodes) (hH:K.H A t') (hs:∀y,y∉(tr g).nodes->S.at S' y) (hf:S'.l x=-1/\S'.r x=-1/\S'.u x=-1)
  (htp:∀q,q<A.hs.length->jC.getD q 0=if q=g then t'.root else ak.getD q 0) :
  xw K (bA A x) S' jC (fun q=>if q=g then t' else tr q):=by
 have hm:=(h.mem g x).1 hx;have hin:bX A (x:Int)=true:=(ai A x).2 ⟨hm.2.1,ω⟩;have hc:=xG hin;have hnd:(x::t'.nodes).Nodup:=hp.nodup_iff.2 (h.nd g);have hxt:x∉t'.nodes:=(List.nodup_cons.1 hnd).1;refine h.next (fQ _ _) (fun q=>q≠g) (fun q hq=>⟨if_neg hq,fun y hy=>?_⟩) (fun q hq y hy hq0=>?_) (fun q hq=>?_) (fun q hq=>?_) (fun y hy hy0=>?_)
 ·have hyg:y∉(tr g).nodes:=fun hm=>by
   have a1:=(h.mem g y).1 hm;have a2:=(h.mem q y).1 hy;omega
  exact ⟨hs y hyg,by rw [hc,if_neg (fun e=>hyg (by rw [e];exact hx))]⟩
 ·rw [hc]
  by_cases e:y=x
  ·rw [if_pos e,e]
   show (0:Int)=(q:Int)↔_
   omega
  ·rw [if_neg e]
 ·have hq':q=g:=Classical.not_not.1 hq;subst hq';rw [if_pos rfl];refine ⟨hT,(List.nodup_cons.1 hnd).2,K.frame hH (fun y hy=>by rw [hc,if_neg (fun e=>hxt (by rw [←e];exact hy))]),fun y=>?_⟩;have e1:=hp.mem_iff (a:=y);rw [ρ,h.mem q y] at e1;rw [hc]
  by_cases e:y=x
  ·rw [if_pos e,e];refine ⟨fun hh=>absurd hh hxt,fun hh=>?_⟩;have:(0:Int)=(q:Int):=hh.2.2;omega
  ·rw [if_neg e,←e1];simp [e]
 ·rw [ji] at hq;rw [htp q hq]
  by_cases e:q=g
  ·rw [if_pos e,if_pos e]
  ·rw [if_neg e,if_neg e];exact h.top q hq
 ·rw [hc] at hy0
  by_cases e:y=x
  ·rw [e];exact hf
  ·rw [if_neg e] at hy0;have a1:=h.free y hy hy0;have a2:=hs y (h.out hy0);exact ⟨a2.1.trans a1.1,a2.2.1.trans a1.2.1,a2.2.2.trans a1.2.2⟩
instance:Nonempty (List Fr×BT×BT):=⟨([],.nil,.nil)⟩
noncomputable def pathOf (t:BT) (x:Nat):List Fr×BT×BT:=Classical.epsilon fun q:List Fr×BT×BT=>t=aj q.1 (.node x q.2.1 q.2.2)
theorem nG {t:BT} {x:Nat} (h:x∈t.nodes):t=aj (pathOf t x).1 (.node x (pathOf t x).2.1 (pathOf t x).2.2):=by
 obtain ⟨P,l,r,e⟩:=xZ h;unfold pathOf;exact Classical.epsilon_spec (p:=fun q:List Fr×BT×BT=>t=aj q.1 (.node x q.2.1 q.2.2)) ⟨(P,l,r),e⟩
def jd (tr:Nat->BT) (h:Nat) (t:BT):Nat->BT:=fun q=>if q=h then t else tr q
structure LB where
 n0:Nat
 c:Nat
 bt:Nat
 ba:Nat
 br:Nat
structure lM (w:World) (B:LB) (F:List Nat) (gt ct:Nat) (A:NS) (st:Nat) (S:TS) (rk:Nat->Nat) (ak:List Int):Prop where
 head:aP w B.n0 231 4 (fun j=>[Value.pointer (some ⟨B.c,0,none⟩),.pointer (some ⟨B.bt,0,none⟩),.slice (some ⟨B.br,0,none⟩) A.cs.length A.cs.length,.slice (some ⟨gt,0,none⟩) ak.length ct].getD j undef)
 cells:aG w B.c F A st
 trees:bC w B.bt B.ba A.cs.length S
 ranks:aP w B.br 3 A.cs.length (fun j=>.int .i64 (rk j:Int))
 jP:IZ w gt ct ak
 jG:ak.length=A.hs.length
 bI:B.n0∉F/\B.bt∉F/\B.ba∉F/\B.br∉F/\gt∉F
 sep:(B.n0≠B.bt/\B.n0≠B.ba/\B.n0≠B.br/\B.n0≠gt)/\(B.bt≠B.br/\B.bt≠gt/\B.ba≠B.br/\B.ba≠gt/\B.br≠gt)
section
variable {w:World} {B:LB} {F:List Nat} {gt ct:Nat} {A:NS} {st:Nat} {S:TS} {rk:Nat->Nat} {ak:List Int}
def LB.blk (B:LB) (F:List Nat) (gt:Nat):List Nat:=B.n0::B.bt::B.ba::B.br::gt::F
theorem lM.upd {w':World} {G:List Nat} (h:lM w B F gt ct A st S rk ak) (hu:aa G w w') (hG:∀x,x∈G->x∉B.blk F gt):lM w' B F gt ct A st S rk ak:=by
 have h1:∀x,x∈B.blk F gt->x∉G:=fun x hx hg=>hG x hg hx;exact ⟨h.head.upd hu (h1 _ (by simp [LB.blk])),h.cells.upd hu (fun x hx=>fun hm=>hG x hx (by simp [LB.blk,hm])),h.trees.upd hu (h1 _ (by simp [LB.blk])) (h1 _ (by simp [LB.blk])),h.ranks.upd hu (h1 _ (by simp [LB.blk])),h.jP.upd hu (h1 _ (by simp [LB.blk])),h.jG,h.bI,h.sep⟩
theorem lM.aA {w':World} (h:lM w B F gt ct A st S rk ak) (hu:aa [] w w'):lM w' B F gt ct A st S rk ak:=h.upd hu σ
theorem lM.lt (h:lM w B F gt ct A st S rk ak):∀x,x∈B.blk F gt->x<w.heap.size:=by
 intro x hx;have:=h.head.lt;have:=h.trees.head.lt;have:=h.trees.row.lt;have:=h.ranks.lt;have:=h.jP.lt;simp only [LB.blk,ρ] at hx;rcases hx with rfl|rfl|rfl|rfl|rfl|hx
 ·assumption
 ·assumption
 ·assumption
 ·assumption
 ·assumption
 ·exact h.cells.lt x hx
theorem lM.cF (h:lM w B F gt ct A st S rk ak):B.c∈F:=h.cells.mem
theorem lM.h0 (h:lM w B F gt ct A st S rk ak):w.cell? ⟨B.n0,0,none⟩=some (.pointer (some ⟨B.c,0,none⟩)):=h.head.cellAt 0 ω rfl
theorem lM.h1 (h:lM w B F gt ct A st S rk ak):w.cell? ⟨B.n0,1,none⟩=some (.pointer (some ⟨B.bt,0,none⟩)):=h.head.cellAt 1 ω rfl
theorem lM.h2 (h:lM w B F gt ct A st S rk ak):w.cell? ⟨B.n0,2,none⟩=some (.slice (some ⟨B.br,0,none⟩) A.cs.length A.cs.length):=h.head.cellAt 2 ω rfl
theorem lM.h3 (h:lM w B F gt ct A st S rk ak):w.cell? ⟨B.n0,3,none⟩=some (.slice (some ⟨gt,0,none⟩) ak.length ct):=h.head.cellAt 3 ω rfl
theorem lM.jd {w':World} {S':TS} (h:lM w B F gt ct A st S rk ak) (hu:aa [B.ba] w w') (hT:bC w' B.bt B.ba A.cs.length S'):lM w' B F gt ct A st S' rk ak:=by
 have s:=h.sep;have f:=h.bI;have hne:=h.trees.ne;exact ⟨h.head.upd hu ζ,h.cells.upd hu (fun x hx=>by simp at hx;rw [hx];exact f.2.2.1),hT,h.ranks.upd hu ζ,h.jP.upd hu ζ,h.jG,f,s⟩
theorem lM.dI (h:lM w B F gt ct A st S rk ak) (x:Nat) (k:Nat):lM (w.setCell ⟨B.br,x,none⟩ (.int .i64 (k:Int))) B F gt ct A st S (fun y=>if y=x then k else rk y) ak:=by
 have s:=h.sep;have f:=h.bI;have hu:aa [B.br] w (w.setCell ⟨B.br,x,none⟩ (.int .i64 (k:Int))):=β;refine ⟨h.head.upd hu ζ,h.cells.upd hu (fun x hx=>by simp at hx;rw [hx];exact f.2.2.2.1),h.trees.upd hu ζ ζ,(h.ranks.set x _).ext (fun j hj=>?_),h.jP.upd hu ζ,h.jG,f,s⟩
 by_cases e:j=x
 ·simp only [e,if_true]
 ·simp only [e,if_false]
theorem lM.qA (h:lM w B F gt ct A st S rk ak) (x:Nat) (k:Int):lM (w.setCell ⟨gt,x,none⟩ (.int .i64 k)) B F gt ct A st S rk (ak.set x k):=by
 have s:=h.sep;have f:=h.bI;have hu:aa [gt] w (w.setCell ⟨gt,x,none⟩ (.int .i64 k)):=β;refine ⟨by rw [List.length_set];exact h.head.upd hu ζ,h.cells.upd hu (fun x hx=>by simp at hx;rw [hx];exact f.2.2.2.2),h.trees.upd hu ζ ζ,h.ranks.upd hu ζ,h.jP.set x k,by rw [List.length_set];exact h.jG,f,s⟩
theorem lM.dw {w':World} {F':List Nat} {A':NS} {st':Nat} (h:lM w B F gt ct A st S rk ak) (hu:aa F w w') (hC:aG w' B.c F' A' st') (hF:∀x,x∈F'->x∈F\/w.heap.size<=x) (h1:A'.cs.length=A.cs.length) (h2:A'.hs.length=A.hs.length):lM w' B F' gt ct A' st' S rk ak:=by
 have f:=h.bI;have g:=h.lt;have hf:∀x,x<w.heap.size->x∉F->x∉F':=fun x hx hn hm=>by rcases hF x hm with h'|h';exact hn h';omega
 have l0:=g B.n0 (by simp [LB.blk]);have l1:=g B.bt (by simp [LB.blk]);have l2:=g B.ba (by simp [LB.blk]);have l3:=g B.br (by simp [LB.blk]);have l4:=g gt (by simp [LB.blk]);exact ⟨by rw [h1];exact h.head.upd hu f.1,hC,by rw [h1];exact h.trees.upd hu f.2.1 f.2.2.1,by rw [h1];exact h.ranks.upd hu f.2.2.2.1,h.jP.upd hu f.2.2.2.2,by rw [h2];exact h.jG,⟨hf _ l0 f.1,hf _ l1 f.2.1,hf _ l2 f.2.2.1,hf _ l3 f.2.2.2.1,hf _ l4 f.2.2.2.2⟩,h.sep⟩
end
theorem nX (z:Int) (w:World):Calls Tryz.prog 247 #[.int .i64 (tv z),.bool (tb z)] w fun e w'=>e=.returned (.int .i64 z)/\w'=w:=by
 unfold tv tb
 by_cases h:z=-1
 ·subst h;simp only [if_true,ne_eq,not_true,decide_false]
  go_enter Tryz.func247,Tryz.ntmps247
  go_wp2;go_ret;exact ⟨rfl,rfl⟩
 ·rw [if_neg h,decide_eq_true h]
  go_enter Tryz.func247,Tryz.ntmps247
  go_wp2;go_ret;exact ⟨rfl,rfl⟩
def iq (rk:Nat->Nat) (z:Int):Int:=if z=-1 then 0 else (rk z.toNat:Int)
section
variable {w:World} {B:LB} {F:List Nat} {gt ct:Nat} {A:NS} {st:Nat} {S:TS} {rk:Nat->Nat} {ak:List Int}
theorem kY (h:lM w B F gt ct A st S rk ak) (z:Int) (hz:z=-1\/(0<=z/\z<A.cs.length)) :
  Calls Tryz.prog 258 #[.pointer (some ⟨B.n0,0,none⟩),.int .i64 z] w fun e w'=>e=.returned (.int .i64 (iq rk z))/\w'=w:=by
 unfold iq;have h2:=h.h2;have hA:=h.cells.ok.c1
 by_cases e:z=-1
 ·subst e;clear h
  go_enter Tryz.func258,Tryz.ntmps258
  go_wp2;go_ret;exact ⟨rfl,rfl⟩
 ·obtain ⟨i,rfl⟩:∃i:Nat,z=i:=⟨z.toNat,ω⟩;have hi:i<A.cs.length:=ω;have d:=h.ranks.cell i hi;have hb:((i:Int) == -1)=false:=σ;rw [if_neg e];simp only [π];clear h e hz
  go_enter Tryz.func258,Tryz.ntmps258
  go_wp2;go_ret;exact ⟨rfl,rfl⟩
theorem tH (rk:Nat->Nat) (z:Int):0<=iq rk z:=by unfold iq;split<;>omega
theorem Di (h:lM w B F gt ct A st S rk ak) (x:Nat) (hx:x<A.cs.length) (hl:S.l x=-1\/(0<=S.l x/\S.l x<A.cs.length)) (hr:S.r x=-1\/(0<=S.r x/\S.r x<A.cs.length)) (Oh:iq rk (S.l x)<=65536) (hbb:iq rk (S.r x)<=65536) (hab:iq rk (S.l x)<iq rk (S.r x)) :
  Calls Tryz.prog 255 #[.pointer (some ⟨B.n0,0,none⟩),.int .i64 (x:Int)] w fun e w'=>e=.returned (.tuple #[])/\aa [B.ba,B.br] w w'/\lM w' B F gt ct A st (jM S x) (fun y=>if y=x then (iq rk (S.l x)).toNat + 1 else rk y) ak:=by
 have kl:=fun d=>Bc B.bt B.ba A.cs.length S (x:Int) (w.drewN d) (h.trees.drewN d);have kr:=fun d=>pV B.bt B.ba A.cs.length S (x:Int) (w.drewN d) (h.trees.drewN d);rw [show ik A.cs.length S (x:Int) false=S.l x by unfold ik TS.kid;rw [if_pos ω];simp] at kl;rw [show ik A.cs.length S (x:Int) true=S.r x by unfold ik TS.kid;rw [if_pos ω];simp] at kr;have q1:∀d,(w.drewN d).cell? ⟨B.n0,1,none⟩=some (.pointer (some ⟨B.bt,0,none⟩)):=fun d=>h.h1;have H:=χ h;have rl:=fun d=>kY (h.aA ((aa.refl [] w).drewN d)) (S.l x) hl;have rr:=fun d=>kY (h.aA ((aa.refl [] w).drewN d)) (S.r x) hr
 have ba1:0<=iq rk (S.l x)/\iq rk (S.l x)<=65536:=⟨tH _ _,Oh⟩;have bb1:0<=iq rk (S.r x)/\iq rk (S.r x)<=65536:=⟨tH _ _,hbb⟩;clear Oh hbb;have HL:=χ (ψ hl hr);generalize hzl:S.l x=zl at *;generalize Lg:S.r x=zr at *;generalize hra:iq rk zl=a at *;generalize hrb:iq rk zr=b at *;have HZ:=χ (ψ hzl (ψ Lg (ψ hra hrb)));have hn0:=h.lt B.n0 (by simp [LB.blk]);have hbr:=h.lt B.br (by simp [LB.blk]);have hs:=h.sep;have hA:=h.cells.ok.c1;clear h hzl Lg hra hrb hl hr
 go_enter Tryz.func255,Tryz.ntmps255
 go_wp2
 go_quiet ((first
  | (go_at_call 248;exact Calls.quiet_of (kl _))
  | (go_at_call 249;exact Calls.quiet_of (kr _))
  | (go_at_call 247;exact Calls.quiet_of_same (nX _ _))))
 have H2:=χ (H.out.aA ((aa.refl [] w).drewN nq));have rln:=rl nq;have rrn:=rr nq;have h1:=q1 nq;clear kl kr q1 rl rr;have kt:=zO B.bt B.ba A.cs.length S x (w.drewN nq) H2.out.trees hx
 go_wp2_with (first
  | (go_at_call 258;(with_reducible refine (rln).mono ?_);rintro e w9 ⟨rfl,aN⟩;rw [aN];clear aN w9)
  | (go_at_call 258;(with_reducible refine (rrn).mono ?_);rintro e w9 ⟨rfl,aN⟩;rw [aN];clear aN w9)
  | (go_at_call 259;(with_reducible refine (kt).mono ?_);rintro e w2 ⟨rfl,hT,hu2⟩))
 have h3:=χ (H2.out.jd hu2 hT);have hw2:aa [B.ba,B.br] w w2:=((aa.refl _ w).drewN nq).trans (hu2.mono σ);have kq:=fun W (hW:aa [] w2 W)=>kY (h3.out.aA hW) zl HL.out.1;rw [HZ.out.2.2.1] at kq;have r0:∀W,aa [B.br] w2 W->W.cell? ⟨B.n0,2,none⟩=some (.slice (some ⟨B.br,0,none⟩) A.cs.length A.cs.length):=fun W hW=>hW.kept h3.out.h2 ζ;have d0:=h3.out.ranks.cell x hx;have d1:=h3.out.ranks.free x;have hwr:IntKind.i64.wrap (a+1)=a+1:=IntWalk.i64_in _ ω
 go_region_held3 (aa [B.br] w2) (exact ν) ((go_at_call 258;(with_reducible refine ((kq _ β)).mono ?_);rintro e w9 ⟨rfl,aN⟩;rw [aN];clear aN w9))
 go_wp2;go_end0;clear hwr;obtain ⟨an,rfl⟩:∃an:Nat,a=an:=⟨a.toNat,ω⟩;have hR:=h3.out.dI x (an+1);rw [show ((an+1:Nat):Int)=(an:Int)+1 by omega] at hR;exact ⟨rfl,((hw2.setCell (Or.inl σ) _)).drew,hR.aA ((aa.refl _ _).drew)⟩
theorem Dq (h:lM w B F gt ct A st S rk ak) (x:Nat) (hx:x<A.cs.length) (hl:S.l x=-1\/(0<=S.l x/\S.l x<A.cs.length)) (hr:S.r x=-1\/(0<=S.r x/\S.r x<A.cs.length)) (Oh:iq rk (S.l x)<=65536) (hbb:iq rk (S.r x)<=65536) (hab:¬iq rk (S.l x)<iq rk (S.r x)) :
  Calls Tryz.prog 255 #[.pointer (some ⟨B.n0,0,none⟩),.int .i64 (x:Int)] w fun e w'=>e=.returned (.tuple #[])/\aa [B.ba,B.br] w w'/\lM w' B F gt ct A st S (fun y=>if y=x then (iq rk (S.r x)).toNat + 1 else rk y) ak:=by
 have kl:=fun d=>Bc B.bt B.ba A.cs.length S (x:Int) (w.drewN d) (h.trees.drewN d);have kr:=fun d=>pV B.bt B.ba A.cs.length S (x:Int) (w.drewN d) (h.trees.drewN d);rw [show ik A.cs.length S (x:Int) false=S.l x by unfold ik TS.kid;rw [if_pos ω];simp] at kl;rw [show ik A.cs.length S (x:Int) true=S.r x by unfold ik TS.kid;rw [if_pos ω];simp] at kr;have q1:∀d,(w.drewN d).cell? ⟨B.n0,1,none⟩=some (.pointer (some ⟨B.bt,0,none⟩)):=fun d=>h.h1;have H:=χ h;have rl:=fun d=>kY (h.aA ((aa.refl [] w).drewN d)) (S.l x) hl;have rr:=fun d=>kY (h.aA ((aa.refl [] w).drewN d)) (S.r x) hr
 have ba1:0<=iq rk (S.l x)/\iq rk (S.l x)<=65536:=⟨tH _ _,Oh⟩;have bb1:0<=iq rk (S.r x)/\iq rk (S.r x)<=65536:=⟨tH _ _,hbb⟩;clear Oh hbb;have HL:=χ (ψ hl hr);generalize hzl:S.l x=zl at *;generalize Lg:S.r x=zr at *;generalize hra:iq rk zl=a at *;generalize hrb:iq rk zr=b at *;have HZ:=χ (ψ hzl (ψ Lg (ψ hra hrb)));have hn0:=h.lt B.n0 (by simp [LB.blk]);have hbr:=h.lt B.br (by simp [LB.blk]);have hs:=h.sep;have hA:=h.cells.ok.c1;clear h hzl Lg hra hrb hl hr
 go_enter Tryz.func255,Tryz.ntmps255
 go_wp2
 go_quiet ((first
  | (go_at_call 248;exact Calls.quiet_of (kl _))
  | (go_at_call 249;exact Calls.quiet_of (kr _))
  | (go_at_call 247;exact Calls.quiet_of_same (nX _ _))))
 have H2:=χ (H.out.aA ((aa.refl [] w).drewN nq));have rln:=rl nq;have rrn:=rr nq;have h1:=q1 nq;clear kl kr q1 rl rr
 go_wp2_with (first
  | (go_at_call 258;(with_reducible refine (rln).mono ?_);rintro e w9 ⟨rfl,aN⟩;rw [aN];clear aN w9)
  | (go_at_call 258;(with_reducible refine (rrn).mono ?_);rintro e w9 ⟨rfl,aN⟩;rw [aN];clear aN w9))
 obtain ⟨w2,hw2⟩:∃w2,w2=w.drewN nq:=⟨_,rfl⟩;have hu2:aa [B.ba,B.br] w w2:=by rw [hw2];exact (aa.refl _ w).drewN nq
 rw [←hw2] at H2 ⊢;clear hw2 h1 rln rrn;have kq:=fun W (hW:aa [] w2 W)=>kY (H2.out.aA hW) zr HL.out.2;rw [HZ.out.2.2.2] at kq;have r0:∀W,aa [B.br] w2 W->W.cell? ⟨B.n0,2,none⟩=some (.slice (some ⟨B.br,0,none⟩) A.cs.length A.cs.length):=fun W hW=>hW.kept H2.out.h2 ζ;have d0:=H2.out.ranks.cell x hx;have d1:=H2.out.ranks.free x;have hwr:IntKind.i64.wrap (b+1)=b+1:=IntWalk.i64_in _ ω
 go_region_held3 (aa [B.br] w2) (exact ν) ((go_at_call 258;(with_reducible refine ((kq _ β)).mono ?_);rintro e w9 ⟨rfl,aN⟩;rw [aN];clear aN w9))
 go_wp2;go_end0;clear hwr;obtain ⟨bn,rfl⟩:∃bn:Nat,b=bn:=⟨b.toNat,ω⟩;have hR:=H2.out.dI x (bn+1);rw [show ((bn+1:Nat):Int)=(bn:Int)+1 by omega] at hR;exact ⟨rfl,((hu2.setCell (Or.inl σ) _)).drew,hR.aA ((aa.refl _ _).drew)⟩
end
theorem EH:∀t:BT,t.rank<=t.size
 | .nil=>Nat.le_refl _
 | .node x l r=>by have:=EH r;simp only [BT.rank,BT.size];omega
theorem nz {n:Nat} {l:List Nat} (hn:l.Nodup) (hl:∀x,x∈l->x<n):l.length<=n:=by
 have:=nodup_range n (l.map fun (x:Nat)=>(x:Int)) (by
  unfold List.Nodup;rw [List.pairwise_map];exact hn.imp (fun {a b} h e=>h ω)) (fun y hy=>by
  obtain ⟨x,hx,rfl⟩:=List.mem_map.1 hy;have:=hl x hx
  exact ⟨ω,ω⟩)
 simpa using this
theorem AJ {rk:Nat->Nat} {t:BT} (h:gL rk t):iq rk t.root=t.rank:=by
 unfold iq
 by_cases e:t=.nil
 ·subst e;simp [BT.root,BT.rank]
 ·have:=bN e;rw [if_neg ω];rw [h.root e]
theorem wG {n:Nat} {t:BT} (h:∀x,x∈t.nodes->x<n):t.root=-1\/(0<=t.root/\t.root<n):=by
 by_cases e:t=.nil
 ·subst e;exact Or.inl rfl
 ·have h1:=bN e;have:=h _ h1.1;exact Or.inr ⟨ω,ω⟩
theorem PR {S:TS} {p:Int} {x:Nat} {l r:BT} (hu:S.u x=p) (hl:cO S x (S.l x) l) (hr:cO S x (S.r x) r):cO S p x (.node x l r):=⟨rfl,hu,hl,hr⟩
section
variable {w:World} {B:LB} {F:List Nat} {gt ct:Nat} {A:NS} {st:Nat} {S:TS} {rk:Nat->Nat} {ak:List Int}
theorem qE (h:lM w B F gt ct A st S rk ak) {p:Int} {x:Nat} {l r:BT} (hT:cO S p x (.node x l r)) (hl:gL rk l) (hr:gL rk r) (hn:(BT.node x l r).nodes.Nodup) (hlt:∀y,y∈(BT.node x l r).nodes->y<A.cs.length) :
  Calls Tryz.prog 255 #[.pointer (some ⟨B.n0,0,none⟩),.int .i64 (x:Int)] w fun e w'=>e=.returned (.tuple #[])/\aa [B.ba,B.br] w w'/\
   ∃S' ow,lM w' B F gt ct A st S' ow ak/\cO S' p x (aD x l r)/\gL ow (aD x l r)/\(∀y,y≠x->S.at S' y)/\S'.u x=S.u x/\(∀y,y≠x->ow y=rk y):=by
 obtain ⟨_,hu,O8,hTr⟩:=hT;have hx:=hlt x (by simp [BT.nodes]);have hll:∀y,y∈l.nodes->y<A.cs.length:=fun y hy=>hlt y (by simp [BT.nodes,hy]);have hlr:∀y,y∈r.nodes->y<A.cs.length:=fun y hy=>hlt y (by simp [BT.nodes,hy]);have hA:=h.cells.ok.c1;have hn2:=hn;simp only [BT.nodes,List.nodup_cons,τ,not_or,θ] at hn2;have sl:=nz hn2.2.1 hll;have sr:=nz hn2.2.2.1 hlr;rw [BT.lZ] at sl sr;have rl:=EH l;have rr:=EH r;have el:=O8.root;have er:=hTr.root;have fr:∀ {S':TS},(∀y,y≠x->S.at S' y)->(∀z,cO S x z l->cO S' x z l)/\(∀z,cO S x z r->cO S' x z r):=fun hS=>
  ⟨fun z hz=>hz.frame (fun y hy=>hS y (fun e=>hn2.1.1 (by rw [←e];exact hy))),fun z hz=>hz.frame (fun y hy=>hS y (fun e=>hn2.1.2 (by rw [←e];exact hy)))⟩
 have zl:iq rk (S.l x)=l.rank:=by rw [el];exact AJ hl
 have zr:iq rk (S.r x)=r.rank:=by rw [er];exact AJ hr
 by_cases hab:l.rank<r.rank
 ·refine (Di h x hx (by rw [el];exact wG hll) (by rw [er];exact wG hlr) (by rw [zl];omega) (by rw [zr];omega) (by rw [zl,zr];omega)).mono ?_;rintro e w' ⟨rfl,hU,hM⟩;have hat:∀y,y≠x->S.at (jM S x) y:=fun y hy=>⟨by unfold jM TS.aJ;simp [hy],by unfold jM TS.aJ;simp [hy],by unfold jM TS.aJ;simp⟩
  have e1:(jM S x).l x=S.r x:=by unfold jM TS.aJ;simp
  have e2:(jM S x).r x=S.l x:=by unfold jM TS.aJ;simp
  have e3:(jM S x).u x=S.u x:=by unfold jM TS.aJ;simp
  refine ⟨rfl,hU,_,_,hM,?_,?_,hat,e3,fun y hy=>by rw [if_neg hy]⟩
  ·unfold aD;rw [if_pos hab];exact ⟨rfl,by rw [e3];exact hu,by rw [e1];exact (fr hat).2 _ hTr,by rw [e2];exact (fr hat).1 _ O8⟩
  ·unfold aD;rw [if_pos hab];refine ⟨by simp [zl],hr.frame (fun y hy=>by rw [if_neg (fun e=>hn2.1.2 (by rw [←e];exact hy))]),hl.frame (fun y hy=>by rw [if_neg (fun e=>hn2.1.1 (by rw [←e];exact hy))])⟩
 ·refine (Dq h x hx (by rw [el];exact wG hll) (by rw [er];exact wG hlr) (by rw [zl];omega) (by rw [zr];omega) (by rw [zl,zr];omega)).mono ?_;rintro e w' ⟨rfl,hU,hM⟩;refine ⟨rfl,hU,_,_,hM,?_,?_,fun y _=>⟨rfl,rfl,rfl⟩,rfl,fun y hy=>by rw [if_neg hy]⟩
  ·unfold aD;rw [if_neg hab];exact ⟨rfl,hu,O8,hTr⟩
  ·unfold aD;rw [if_neg hab];refine ⟨by simp [zr],hl.frame (fun y hy=>by rw [if_neg (fun e=>hn2.1.1 (by rw [←e];exact hy))]),hr.frame (fun y hy=>by rw [if_neg (fun e=>hn2.1.2 (by rw [←e];exact hy))])⟩
end
theorem BT.yh {t:BT} (h:t≠.nil):t.root=(t.root.toNat:Int):=(bN h).2
def zm (S:TS) (x:Nat) (r:BT):TS:=match r with | .nil=>S | .node y _ _=>mV S x y
theorem NJ {S:TS} {p:Int} {x:Nat} {l r:BT} (h:cO S p x (.node x l r)) (hn:(BT.node x l r).nodes.Nodup) :
  cO (zm S x r) p x (.node x l .nil)/\cO (zm S x r) (-1) r.root r/\∀y,y≠x->y∉r.nodes->S.at (zm S x r) y:=by
 obtain ⟨_,hu,hl,hr⟩:=h;simp only [BT.nodes,List.nodup_cons,τ,not_or,θ] at hn;cases r with
 | nil=>exact ⟨⟨rfl,hu,hl,hr⟩,rfl,fun y _ _=>⟨rfl,rfl,rfl⟩⟩
 | node y a b=>
  have hxy:x≠y:=fun e=>hn.1.2 (by rw [e];simp [BT.nodes]);have hry:S.r x=y:=hr.1;have e:zm S x (.node y a b)=mV S x y:=rfl;rw [e];have hl':∀z,(mV S x y).l z=S.l z:=fun z=>by unfold mV TS.aJ TS.bW;rw [decide_eq_true hry];rfl
  have hr':∀z,(mV S x y).r z=if z=x then -1 else S.r z:=fun z=>by unfold mV TS.aJ TS.bW;rw [decide_eq_true hry];rfl
  have hu':∀z,(mV S x y).u z=if z=y then -1 else S.u z:=fun z=>by unfold mV TS.aJ TS.bW;rw [decide_eq_true hry];rfl
  refine ⟨⟨rfl,by rw [hu',if_neg hxy];exact hu,?_,by rw [hr',if_pos rfl];rfl⟩,?_,fun z h1 h2=>⟨hl' z,by rw [hr',if_neg h1],by rw [hu',if_neg (fun e=>h2 (by rw [e];simp [BT.nodes]))]⟩⟩
  ·rw [hl'];refine hl.frame (fun z hz=>⟨hl' z,by rw [hr',if_neg (fun e=>hn.1.1 (by rw [←e];exact hz))],by rw [hu',if_neg (fun e=>hn.2.2.2 z hz y (by simp [BT.nodes]) e)]⟩)
  ·have h0:cO S x ((BT.node y a b).root) (.node y a b):=by rw [←hr.root];exact hr
   refine h0.OA (p':=-1) hn.2.2.1 (fun z hz=>⟨hl' z,by rw [hr',if_neg (fun e=>hn.1.2 (by rw [←e];exact hz))],fun Lg=>by rw [hu',if_neg (fun e=>Lg (by rw [e];simp [BT.root]))]⟩) (fun _=>by rw [hu'];simp [BT.root])
theorem Cf {S:TS} {p:Int} {x:Nat} {l m:BT} (h:cO S p x (.node x l .nil)) (hm:cO S (-1) m.root m) (hne:m≠.nil) (hn:(BT.node x l m).nodes.Nodup) :
  cO (lL S x m.root true) p x (.node x l m)/\∀y,y≠x->y∉m.nodes->S.at (lL S x m.root true) y:=by
 obtain ⟨_,hu,hl,_⟩:=h;simp only [BT.nodes,List.nodup_cons,τ,not_or,θ] at hn;obtain ⟨r1,r2⟩:=bN hne;have hl':∀z,(lL S x m.root true).l z=S.l z:=fun z=>by unfold lL TS.aJ TS.bW;rfl
 have hr':∀z,(lL S x m.root true).r z=if z=x then m.root else S.r z:=fun z=>by unfold lL TS.aJ TS.bW;simp
 have hu':∀z,(lL S x m.root true).u z=if z=m.root.toNat then (x:Int) else S.u z:=fun z=>by unfold lL TS.aJ TS.bW;simp
 have hxm:x≠m.root.toNat:=fun e=>hn.1.2 (by rw [e];exact r1);refine ⟨⟨rfl,by rw [hu',if_neg hxm];exact hu,?_,?_⟩,fun z h1 h2=>⟨hl' z,by rw [hr',if_neg h1],by rw [hu',if_neg (fun e=>h2 (by rw [e];exact r1))]⟩⟩
 ·rw [hl'];exact hl.frame (fun z hz=>⟨hl' z,by rw [hr',if_neg (fun e=>hn.1.1 (by rw [←e];exact hz))],by rw [hu',if_neg (fun e=>hn.2.2.2 z hz _ r1 e)]⟩)
 ·rw [hr',if_pos rfl];exact hm.OA (p':=(x:Int)) hn.2.2.1 (fun z hz=>⟨hl' z,by rw [hr',if_neg (fun e=>hn.1.2 (by rw [←e];exact hz))],fun Lg=>by rw [hu',if_neg Lg]⟩) (fun _=>by rw [hu',if_pos rfl])
structure Down (up:Nat->BT->BT->BT) (A:NS) (S0:TS) (ta tb:BT) (S:TS) (W:List (Nat×BT)) (a b:BT):Prop where
 isA:cO S (-1) a.root a
 isB:cO S (-1) b.root b
 way:∀p,p∈W->cO S (-1) (p.1:Int) (.node p.1 p.2 .nil)
 far:∀y,y∉ta.nodes++tb.nodes->S0.at S y
 perm:(uM W++(a.nodes++b.nodes)).Perm (ta.nodes++tb.nodes)
 res:aK up A ta tb=(uU up W (aK up A a b).1,W.length+(aK up A a b).2)
theorem Down.start (up:Nat->BT->BT->BT) (A:NS) {S0:TS} {ta tb:BT} (ha:cO S0 (-1) ta.root ta) (hb:cO S0 (-1) tb.root tb):Down up A S0 ta tb S0 [] ta tb:=
 ⟨ha,hb,fun p hp=>(by cases hp),fun y _=>⟨rfl,rfl,rfl⟩,by simp [uM],by simp [uU]⟩
theorem qd (W:List (Nat×BT)) (x:Nat) (l:BT):uM (W++[(x,l)])=uM W++(x::l.nodes):=by unfold uM;simp
theorem D7 {W:List (Nat×BT)} {p:Nat×BT} (hp:p∈W):p.1∈uM W/\∀y,y∈p.2.nodes->y∈uM W:=by
 unfold uM;exact ⟨List.mem_flatMap.2 ⟨p,hp,σ⟩,fun y hy=>List.mem_flatMap.2 ⟨p,hp,by simp [hy]⟩⟩
theorem Down.take {up:Nat->BT->BT->BT} {A:NS} {S0 S:TS} {ta tb b l r:BT} {x:Nat} {W:List (Nat×BT)} (hX:(ta.nodes++tb.nodes).Nodup)
  (h1:cO S (-1) (x:Int) (.node x l r)) (h2:cO S (-1) b.root b) (h3:∀p,p∈W->cO S (-1) (p.1:Int) (.node p.1 p.2 .nil)) (h4:∀y,y∉ta.nodes++tb.nodes->S0.at S y)
  (h5:(uM W++((BT.node x l r).nodes++b.nodes)).Perm (ta.nodes++tb.nodes)) (h6:aK up A ta tb=(uU up W (up x l (aK up A r b).1),W.length+((aK up A r b).2+1))) :
  Down up A S0 ta tb (zm S x r) (W++[(x,l)]) r b:=by
 have hnd:=h5.nodup_iff.2 hX;rw [θ] at hnd;obtain ⟨n1,n2,n3⟩:=hnd;rw [θ] at n2;obtain ⟨n4,n5,n6⟩:=n2;obtain ⟨c1,c2,c3⟩:=NJ h1 n4;have hout:∀y,y∉ta.nodes++tb.nodes->y≠x/\y∉r.nodes:=fun y hy=>
  ⟨fun e=>hy (h5.mem_iff.1 (by rw [e];simp [BT.nodes])),fun hm=>hy (h5.mem_iff.1 (by simp [BT.nodes,hm]))⟩
 refine ⟨c2,h2.frame (fun y hy=>c3 y (fun e=>n6 x (by simp [BT.nodes]) y hy e.symm) (fun hm=>n6 y (by simp [BT.nodes,hm]) y hy rfl)),fun p hp=>?_,fun y hy=>?_,?_,?_⟩
 ·rcases τ.1 hp with hp|hp
  ·have hw:=D7 hp;refine (h3 p hp).frame (fun y hy=>?_);have ZN:y∈uM W:=by
    simp only [BT.nodes,List.append_nil,ρ] at hy;rcases hy with rfl|hy
    ·exact hw.1
    ·exact hw.2 y hy
   exact c3 y (fun e=>n3 y ZN x (by simp [BT.nodes]) e) (fun hm=>n3 y ZN y (by simp [BT.nodes,hm]) rfl)
  ·simp only [List.mem_singleton] at hp;subst hp;exact c1
 ·obtain ⟨k1,k2⟩:=hout y hy;have a1:=h4 y hy;have a2:=c3 y k1 k2;exact ⟨a2.1.trans a1.1,a2.2.1.trans a1.2.1,a2.2.2.trans a1.2.2⟩
 ·rw [qd];refine List.Perm.trans ?_ h5;simp only [BT.nodes,List.append_assoc,List.cons_append];exact List.Perm.refl _
 ·rw [h6,Ao];simp only [υ,List.length_cons,List.length_nil];exact Prod.ext rfl (by simp only;omega)
theorem Down.takeA {up:Nat->BT->BT->BT} {A:NS} {S0 S:TS} {ta tb l r l' r':BT} {x y:Nat} {W:List (Nat×BT)} (h:Down up A S0 ta tb S W (.node x l r) (.node y l' r')) (hX:(ta.nodes++tb.nodes).Nodup) (hlt:¬cZ A y x) :
  Down up A S0 ta tb (zm S x r) (W++[(x,l)]) r (.node y l' r'):=by
 refine Down.take hX h.isA h.isB h.way h.far h.perm ?_;rw [h.res,oI,if_neg hlt]
theorem Down.takeB {up:Nat->BT->BT->BT} {A:NS} {S0 S:TS} {ta tb l r l' r':BT} {x y:Nat} {W:List (Nat×BT)} (h:Down up A S0 ta tb S W (.node x l r) (.node y l' r')) (hX:(ta.nodes++tb.nodes).Nodup) (hlt:cZ A y x) :
  Down up A S0 ta tb (zm S y r') (W++[(y,l')]) r' (.node x l r):=by
 refine Down.take hX h.isB h.isA h.way h.far ?_ ?_
 ·refine List.Perm.trans ?_ h.perm;exact List.Perm.append_left _ List.perm_append_comm
 ·rw [h.res,oI,if_pos hlt]
structure VL (up:Nat->BT->BT->BT) (S0:TS) (X:List Nat) (t:BT) (S:TS) (W:List (Nat×BT)) (m:BT):Prop where
 isM:cO S (-1) m.root m
 way:∀p,p∈W->cO S (-1) (p.1:Int) (.node p.1 p.2 .nil)
 far:∀y,y∉X->S0.at S y
 perm:(uM W++m.nodes).Perm X
 res:t=uU up W m
theorem Down.turn {up:Nat->BT->BT->BT} {A:NS} {S0 S:TS} {ta tb a b:BT} {W:List (Nat×BT)} (h:Down up A S0 ta tb S W a b) (he:a=.nil\/b=.nil) :
  ∃m,m.root=(if a.root=-1 then b.root else a.root)/\VL up S0 (ta.nodes++tb.nodes) (aK up A ta tb).1 S W m/\(aK up A ta tb).2=W.length/\(m=a\/m=b):=by
 rcases he with rfl|rfl
 ·refine ⟨b,by simp [BT.root],⟨h.isB,h.way,h.far,by simpa [BT.nodes] using h.perm,by rw [h.res,mg]⟩,by rw [h.res,mg];simp,Or.inr rfl⟩
 ·refine ⟨a,?_,⟨h.isA,h.way,h.far,by simpa [BT.nodes] using h.perm,by rw [h.res,oN]⟩,by rw [h.res,oN];simp,Or.inl rfl⟩
  split
  ·rename_i e;rw [e];rfl
  ·rfl
end Go.Proofs.YtklibcncmbofpaaGreat
