/-
  Lemmas for PathBest: KarLaw, FrOk, BnP, BnQ, BnR. Conditions: those of each lemma.
-/
import Derived.Test.YtklibcncmbofpaaGreatB15
set_option linter.all false
set_option maxHeartbeats 8000000
set_option maxRecDepth 10000
namespace Go.Proofs.YtklibcncmbofpaaGreat
open Go Go.RowKit
def lV (n:Nat) (F:CF) (l:List Int):Prop:=(∀x,x∈l->0<=x/\x<n/\F.u x.toNat=-1)/\l.Pairwise (fun x y=>dM n F x<dM n F y)
theorem CO (n:Nat) (F:CF) (x:Int):zB n F x=true↔0<=x/\x<n/\F.u x.toNat=-1:=by
 unfold zB;simp only [Bool.and_eq_true,decide_eq_true_eq,beq_iff_eq];exact ⟨fun h=>⟨h.1.1,h.1.2,h.2⟩,fun h=>⟨⟨h.1,h.2.1⟩,h.2.2⟩⟩
theorem mO {l:List Int} {i:Nat} (h:i<l.length):l.getD i 0=l[i]:=by simp [φ,h]
theorem G9 (n:Nat) (S:CS) (l:List Int):N7 n S l=true↔lV n S.f l:=by
 unfold N7 wH rowOk;simp only [Zj,WV];rw [List.all_eq_true];simp only [List.mem_range,Bool.and_eq_true,Bool.or_eq_true,beq_iff_eq,decide_eq_true_eq];constructor
 ·intro h;refine ⟨fun x hx=>?_,?_⟩
  ·obtain ⟨i,hi,rfl⟩:=List.getElem_of_mem hx;have:=(h i hi).1;rw [mO hi] at this;exact (CO n S.f _).1 this
  ·rw [List.pairwise_iff_getElem];have key:∀ (d i:Nat) (hi:i<l.length) (hj:i+d+1<l.length),dM n S.f l[i]<dM n S.f l[i+d+1]:=fun d=>by
    induction d with
    | zero=>
     intro i hi hj;rcases (h (i+1) hj).2 with h2|h2
     ·omega
     ·rw [Nat.add_sub_cancel,mO hi,mO hj] at h2;exact of_decide_eq_true h2
    | succ d ih=>
     intro i hi hj;have h1:=ih i hi ω;rcases (h (i+d+1+1) ω).2 with h2|h2
     ·omega
     ·rw [Nat.add_sub_cancel,mO (show i+d+1<l.length by omega),mO (show i+d+1+1<l.length by omega)] at h2;exact Int.lt_trans h1 (of_decide_eq_true h2)
   intro i j hi hj hij;have:=key (j-i-1) i hi ω;simpa [show i+(j-i-1)+1=j by omega] using this
 ·rintro ⟨h1,h2⟩ i hi;refine ⟨?_,?_⟩
  ·rw [mO hi];exact (CO n S.f _).2 (h1 _ (List.getElem_mem hi))
  ·rcases Nat.eq_zero_or_pos i with h0|h0
   ·exact Or.inl h0
   ·rw [mO hi,mO (show i-1<l.length by omega)];exact Or.inr (decide_eq_true ((List.pairwise_iff_getElem.1 h2) (i-1) i ω hi ω))
theorem lV.nodup {n:Nat} {F:CF} {l:List Int} (h:lV n F l):l.Nodup:=h.2.imp (fun {a b} hab e=>by subst e;omega)
theorem any_false {A B:List Int}:A.any (fun x=>decide (x∈B))=false↔∀x,x∈A->x∉B:=by
 rw [List.any_eq_false];simp
theorem Ls {n:Nat} {F:CF} {A B:List Int} {q:Nat} (f:oO n F) (hA:lV n F A) (hB:lV n F B) (hd:∀x,x∈A->x∉B):G n 0 0 0 0 ⟨F,A,B,[],[],q⟩:=by
 have d0:∀x,0<=dM n F x:=fun x=>by unfold dM;split<;>omega
 refine ⟨f,fun x hx=>?_,?_,hA.2,fun x _=>by simpa using d0 x,hB.2,fun x _=>by simpa using d0 x,fun x hx=>(by cases hx),List.Pairwise.nil,fun x hx=>(by cases hx)⟩
 ·unfold CC.L at hx;simp only [List.append_nil,τ] at hx;rcases hx with hx|hx
  ·exact hA.1 x hx
  ·exact hB.1 x hx
 ·unfold CC.L;simp only [List.append_nil];rw [θ];exact ⟨hA.nodup,hB.nodup,fun x hx y hy e=>by subst e;exact hd x hx hy⟩
def CC.done (C:CC):Prop:=C.A=[]/\C.B=[]/\C.N=[]
instance (C:CC):Decidable C.done:=by unfold CC.done;exact inferInstance
theorem step_done {lt:Int->Int->Bool} {n k:Nat} {C:CC} (h:C.done):F7 lt n k C=C:=by
 obtain ⟨F,A,B,N,O,q⟩:=C;obtain ⟨h1,h2,h3⟩:=h;simp only at h1 h2 h3;subst h1 h2 h3
 rfl
theorem zA {lt:Int->Int->Bool} {n k:Nat} {C0:CC} (h:(gZ lt n k C0).done):∀j,gZ lt n (k+j) C0=gZ lt n k C0
 | 0=>rfl
 | j+1=>by
  have ih:=zA h j;rw [Nat.add_succ,gZ,ih,step_done h]
theorem PT {lt:Int->Int->Bool} {n k m:Nat} {C0:CC} (hk:(gZ lt n k C0).done) (hm:(gZ lt n m C0).done):gZ lt n k C0=gZ lt n m C0:=by
 rcases Nat.le_total k m with h|h
 ·have:=zA hk (m-k);rw [show k+(m-k)=m by omega] at this;exact this.symm
 ·have:=zA hm (k-m);rw [show m+(k-m)=k by omega] at this;exact this
def wT (lt:Int->Int->Bool) (n:Nat) (C0:CC) (F:CF) (O:List Int) (q:Nat):Prop:=∃k,gZ lt n k C0=⟨F,[],[],[],O,q⟩
theorem wT.eq {lt:Int->Int->Bool} {n:Nat} {C0:CC} {F:CF} {O:List Int} {q:Nat} (h:wT lt n C0 F O q) {m:Nat} (hm:(gZ lt n m C0).done):gZ lt n m C0=⟨F,[],[],[],O,q⟩:=by
 obtain ⟨k,hk⟩:=h;rw [←hk];exact PT hm (by rw [hk];exact ⟨rfl,rfl,rfl⟩)
structure FL (O:uN) (w:World) (bt ba lo n:Nat) (S:CS) (q:Nat):Prop where
 f:aX w bt ba lo n S
 l:O.at_ w q
 a:Apart O bt ba n S
 t:bt<w.heap.size
 ok:oO n S.f
theorem Nb (O:uN) (bt ba lo n:Nat) (S:CS) (va vb:Value) (A B:List Int) (q:Nat) (w:World) (h:FL O w bt ba lo n S q)
  (ha:iw w (O.wr++ba::S.blk n) va A) (hb:iw w (O.wr++ba::S.blk n) vb B) (hA:lV n S.f A) (hB:lV n S.f B) (hd:∀x,x∈A->x∉B) (hq:q<=900000) (hdA:∀x,x∈A->O.dom x) (hdB:∀x,x∈B->O.dom x) :
  Calls Tryz.prog 194 #[.pointer (some ⟨bt,0,none⟩),.iface O.ty (.pointer (some ⟨O.p,0,none⟩)),va,vb] w fun e w'=>
   ∃S' vo X q',e=.returned (.tuple #[vo,.bool true])/\FL O w' bt ba lo n S' q'/\wT O.lt n ⟨S.f,A,B,[],[],q⟩ S'.f X q'/\G n 0 0 0 0 ⟨S.f,A,B,[],[],q⟩/\bq w' w.heap.size vo X/\iw w' (O.wr++ba::S'.blk n) vo X/\aa (O.wr++ba::S.blk n) w w'/\(∀g,g∈S'.blk n->g∈S.blk n\/w.heap.size<=g)/\(∀g,vo.ownBlock=some g->g∉S'.blk n):=by
 have g0:=Ls (q:=q) h.ok hA hB hd
 refine (Pj O bt ba lo n S va vb A B q w h.f h.l h.a h.t ha hb ((G9 n S A).2 hA) ((G9 n S B).2 hB) (any_false.2 hd) (g_ok O.asym (fun x hx=>by
  have e:CC.L ⟨S.f,A,B,[],[],q⟩=A++B:=by unfold CC.L;simp
  rw [e] at hx;rcases τ.1 hx with hx|hx
  ·exact hdA x hx
  ·exact hdB x hx) g0 rfl h.f.le hq)).mono ?_
 rintro e w' ⟨k,vn,va',Xx,vo,rfl,hM,e1,e2,e3⟩;have gk:=(Ih (lt:=O.lt) g0 rfl k).1;generalize hC:gZ O.lt n k ⟨S.f,A,B,[],[],q⟩=C at *;obtain ⟨F,A1,B1,N1,O1,q1⟩:=C;simp only at e1 e2 e3;subst e1 e2 e3;obtain ⟨S',hS,hF,hAp,h4,h5,h6⟩:=hM.vC;simp only at hS;subst hS;have Pg:=hM.old _ hM.LM.2;have hlt2:=hF.Lg;have hblk:∀g,g∈S'.blk n->g∈S.blk n\/w.heap.size<=g:=fun g hg=>by
  rcases h4 g hg with h'|h'
  ·rcases τ.1 h' with h'|h'
   ·exact absurd (O.sub _ h') (hAp.blk g hg)
   ·rcases ρ.1 h' with rfl|h'
    ·have:=(hF.nU hg).1;omega
    ·exact Or.inl h'
  ·exact Or.inr ω
 refine ⟨S',vo,O1,q1,rfl,⟨hF,hM.ZZ,hAp,Nat.lt_of_lt_of_le h.t hM.upd.size,gk.f⟩,⟨k,hC⟩,g0,hM.out.mono ω,?_,hM.upd,hblk,h6⟩;obtain ⟨a,cap,rfl,h1,h2,h3⟩:=hM.out.shape;refine ⟨a,cap,rfl,h1,h2,fun j u hj=>?_⟩;obtain ⟨g,off,rfl,hc⟩:=h3 j u hj;have hg:=hM.out.lt g rfl;refine ⟨g,off,rfl,hg.2,fun hm=>?_,hc⟩;rcases τ.1 hm with hm|hm
 ·have:=hM.k0 _ (O.sub _ hm);omega
 ·rcases ρ.1 hm with rfl|hm
  ·omega
  ·exact h6 g rfl hm
structure Es (lt:Int->Int->Bool) (n:Nat) (F:CF) (A B:List Int) (q:Nat) (F':CF) (O:List Int) (q':Nat):Prop where
 row:lV n F' O
 ok:oO n F'
 cnt:q'+O.length=q+(A.length+B.length)
 sub:∀x,x∈O->x∈A\/x∈B
 out:∀x:Nat,(x:Int)∉A->(x:Int)∉B->F'.u x=F.u x/\F'.k x=F.k x
 wt:wt n F' O=wt n F A+wt n F B
 nl:∀y p:Nat,y<n->F'.u y=p->F.u y=p\/(((y:Int)∈A\/(y:Int)∈B)/\((p:Int)∈A\/(p:Int)∈B)/\y≠p/\lt y p=false)
 ro:∀y:Nat,((y:Int)∈A\/(y:Int)∈B)->(y:Int)∈O\/∃p:Nat,p<n/\F'.u y=p
theorem carried {lt:Int->Int->Bool} (has:∀a b,lt a b=true->lt b a=false) {n:Nat} {F:CF} {A B:List Int} {q:Nat} {F':CF} {O:List Int} {q':Nat} (g:G n 0 0 0 0 ⟨F,A,B,[],[],q⟩) (h:wT lt n ⟨F,A,B,[],[],q⟩ F' O q'):Es lt n F A B q F' O q':=by
 obtain ⟨k,hk⟩:=h;have g1:=Ih (lt:=lt) g rfl k;have r:=JB has g rfl k;rw [hk] at g1 r;obtain ⟨g1,_,g2⟩:=g1;have eL:CC.L ⟨F',[],[],[],O,q'⟩=O:=by unfold CC.L;simp
 have eL0:CC.L ⟨F,A,B,[],[],q⟩=A++B:=by unfold CC.L;simp
 have s:=r.sub;have o:=r.out;have w:=r.wt;rw [eL] at s w g2;rw [eL0] at s o w g2;refine ⟨⟨fun x hx=>g1.rt x (by rw [eL];exact hx),g1.o1⟩,g1.f,by simpa using g2,fun x hx=>by simpa using s x hx,fun x h1 h2=>o x (by simp;exact ⟨h1,h2⟩),?_,fun y p hy hu=>by have:=r.nl y p hy hu;rw [eL0] at this;simpa using this,fun y hy=>by have:=r.ro y (by rw [eL0];simpa using hy);rw [eL] at this;exact this⟩;rw [w];unfold wt;simp
end Go.Proofs.YtklibcncmbofpaaGreat
namespace Go.Proofs.YtklibcncmbofpaaGreat
def MI (l:List Int) (x y:Int):List Int:=l.map (fun z=>if z=x then y else z)
theorem oO.split {n:Nat} {S:CS} (h:oO n S.f) {x:Nat} (hx:x<n) (hr:S.u x=-1):oO n (iA S x).f:=by
 have nx:∀z,z<n->(x:Int)∉S.k z:=fun z hz hm=>by
  have:=(h.vU z hz _ hm).2.2;rw [π] at this;have e:S.f.u x=S.u x:=rfl;omega
 have uk:∀y z,y<n->z<n->(y:Int)∈S.k z->S.u y=z:=fun y z hy hz hm=>by
  have:=(h.vU z hz _ hm).2.2;rwa [π] at this
 refine ⟨fun z hz y hy=>?_,fun z hz=>?_,fun y hy=>?_,fun z hz i w hw=>?_⟩
 ·show 0<=y/\y<n/\(if ((y.toNat:Nat):Int)∈S.k x then (-1:Int) else S.u y.toNat)=z
  have hy':y∈(if z=x then ([]:List Int) else S.k z):=hy
  by_cases e:z=x
  ·rw [if_pos e] at hy';cases hy'
  ·rw [if_neg e] at hy';obtain ⟨h1,h2,h3⟩:=h.vU z hz y hy';refine ⟨h1,h2,?_⟩;rw [if_neg (fun hm=>?_)]
   ·exact h3
   ·have:=uk y.toNat x ω hx hm;have e3:S.f.u y.toNat=S.u y.toNat:=rfl;omega
 ·show (if z=x then ([]:List Int) else S.k z).Nodup
  split
  ·exact List.nodup_nil
  ·exact h.nd z hz
 ·show (if (y:Int)∈S.k x then (-1:Int) else S.u y)=-1\/∃p:Nat,p<n/\(if (y:Int)∈S.k x then (-1:Int) else S.u y)=p/\(y:Int)∈(if p=x then ([]:List Int) else S.k p)
  by_cases hm:(y:Int)∈S.k x
  ·rw [if_pos hm];exact Or.inl rfl
  ·rw [if_neg hm];rcases h.up y hy with h1|⟨p,hp,h1,h2⟩
   ·exact Or.inl h1
   ·refine Or.inr ⟨p,hp,h1,?_⟩;rw [if_neg (fun e=>by subst e;exact hm h2)];exact h2
 ·have hw':(if z=x then ([]:List Int) else S.k z)[i]?=some w:=hw
  show (if w.toNat=x then ([]:List Int) else S.k w.toNat).length=i
  by_cases e:z=x
  ·rw [if_pos e] at hw';simp at hw'
  ·rw [if_neg e] at hw';have hm:=List.mem_of_getElem? hw';have hr:=h.vU z hz w hm;rw [if_neg (fun e2=>nx z hz (by rw [←e2,show ((w.toNat:Nat):Int)=w by omega];exact hm))];exact h.xN z hz i w hw'
theorem y7 {l:List Int} (h:l.Nodup) (x y:Int) (hx:x∈l):MI l x y=setAt l x y:=by
 obtain ⟨i,hi,he,hxi⟩:=wD l x hx;unfold MI setAt;rw [he,π];apply List.ext_getElem σ;intro j h1 h2;rw [List.getElem_map,List.getElem_set];have hil:l[i]=x:=(List.getElem?_eq_some_iff.1 hxi).2
 by_cases e:i=j
 ·subst e;rw [if_pos hil,if_pos rfl]
 ·rw [if_neg e,if_neg (fun e2=>e ?_)];have hj:j<l.length:=by simpa using h1
  have hp:=List.pairwise_iff_getElem.1 (List.nodup_iff_pairwise_ne.1 h);rcases Nat.lt_trichotomy i j with h'|h'|h'
  ·exact absurd (hil.trans e2.symm) (hp i j hi hj h')
  ·exact h'
  ·exact absurd (e2.trans hil.symm) (hp j i hj hi h')
theorem ql {l:List Int} (h:l.Nodup) {x y z:Int} (hx:x∈l):z∈setAt l x y↔z=y\/(z∈l/\z≠x):=by
 rw [←y7 h x y hx];unfold MI;rw [List.mem_map];constructor
 ·rintro ⟨w,hw,rfl⟩
  by_cases e:w=x
  ·rw [if_pos e];exact Or.inl rfl
  ·rw [if_neg e];exact Or.inr ⟨hw,e⟩
 ·rintro (rfl|⟨h1,h2⟩)
  ·exact ⟨x,hx,by rw [if_pos rfl]⟩
  ·exact ⟨z,h1,by rw [if_neg h2]⟩
theorem Fe {l:List Int} (h:l.Nodup) {x y z:Int} (hx:x∈l) {i:Nat} (hz:(setAt l x y)[i]?=some z):(l[i]?=some x/\z=y)\/(l[i]?=some z/\z≠x):=by
 rw [←y7 h x y hx] at hz;unfold MI at hz;rw [List.getElem?_map] at hz;cases hq:l[i]? with
 | none=>rw [hq] at hz;cases hz
 | some w=>
  rw [hq] at hz;simp at hz
  by_cases e:w=x
  ·rw [if_pos e] at hz;subst e;exact Or.inl ⟨rfl,hz.symm⟩
  ·rw [if_neg e] at hz;subst hz;exact Or.inr ⟨rfl,e⟩
theorem ym {l:List Int} (h:l.Nodup) {x y:Int} (hx:x∈l) (hy:y∉l):(setAt l x y).Nodup:=by
 rw [←y7 h x y hx];unfold MI;rw [List.nodup_iff_pairwise_ne,List.pairwise_map];refine (List.nodup_iff_pairwise_ne.1 h).imp_of_mem (fun {a b} ha hb hab=>?_)
 by_cases e1:a=x
 ·rw [if_pos e1]
  by_cases e2:b=x
  ·exact absurd (e1.trans e2.symm) hab
  ·rw [if_neg e2];intro e;subst e;exact hy hb
 ·rw [if_neg e1]
  by_cases e2:b=x
  ·rw [if_pos e2];intro e;subst e;exact hy ha
  ·rw [if_neg e2];exact hab
theorem oO.lift {n:Nat} {S:CS} (h:oO n S.f) {x p:Nat} {above:Int} (ok:zZ n S x p above):oO n (iG S x p above).f:=by
 have hx:=ok.hx;have hp:=ok.hp;have hne:=ok.ne;have uk:∀y z:Nat,y<n->z<n->(y:Int)∈S.k z->S.u y=z:=fun y z hy hz hm=>by
  have:=(h.vU z hz _ hm).2.2;rwa [π] at this
 have rg:∀z,z<n->∀w,w∈S.k z->∃y:Nat,w=y/\y<n/\S.u y=z:=fun z hz w hw=>by
  obtain ⟨h1,h2,h3⟩:=h.vU z hz w hw;exact ⟨w.toNat,ω,ω,h3⟩
 have dg:∀y z:Nat,z<n->(y:Int)∈S.k z->(S.k y).length<(S.k z).length:=fun y z hz hm=>by
  obtain ⟨i,hi,he⟩:=List.getElem_of_mem hm;have hge:(S.k z)[i]?=some (y:Int):=by rw [ε hi,he]
  have:=h.xN z hz i (y:Int) hge;rw [π] at this;have aaX:(S.k y).length=i:=this;have hi':i<(S.k z).length:=hi;omega
 have pk:(p:Int)∉S.k p:=h.self hp;have px:(p:Int)∉S.k x:=fun hm=>by
  have h1:=dg p x hx hm;have h2:=dg x p hp ok.mem;omega
 have ux:S.u x=p:=ok.up;have up:S.u p=above:=ok.ab;have nd:=h.nd p hp;have top:∀q:Nat,(q:Int)=above->q<n/\q≠x/\q≠p/\(p:Int)∈S.k q:=fun q hq=>by
  rcases ok.top with e|⟨q',e,h1,h2,h3,h4⟩
  ·omega
  ·obtain rfl:q=q':=ω;exact ⟨h1,h2,h3,h4⟩
 have K:∀z:Nat,(iG S x p above).f.k z=if z=x then setAt (S.k p) x p else if z=p then S.k x else if (z:Int)=above then setAt (S.k z) p x else S.k z:=fun z=>rfl;have U:∀z:Nat,(iG S x p above).f.u z=if z=x then above else if (z:Int)∈S.k x then (p:Int) else if (z:Int)∈setAt (S.k p) x p then (x:Int) else S.u z:=fun z=>rfl;have mo:∀z:Int,z∈setAt (S.k p) x p↔z=p\/(z∈S.k p/\z≠x):=fun z=>ql nd ok.mem;have D:∀y:Nat,((iG S x p above).f.k y).length=if y=x then (S.k p).length else if y=p then (S.k x).length else (S.k y).length:=fun y=>by
  rw [K]
  split
  ·rw [lF]
  ·split
   ·rfl
   ·split
    ·rw [lF]
    ·rfl
 have U1:∀y:Nat,y<n->(y:Int)∈S.k x->(iG S x p above).f.u y=p:=fun y hy hm=>by
  rw [U,if_neg (fun e=>by subst e;exact h.self hx hm),if_pos hm]
 have U2:∀y:Nat,y<n->(y:Int)∈setAt (S.k p) x p->(iG S x p above).f.u y=x:=fun y hy hm=>by
  rcases (mo y).1 hm with e|⟨h1,h2⟩
  ·obtain rfl:y=p:=ω;rw [U,if_neg (Ne.symm hne),if_neg px,if_pos hm]
  ·rw [U,if_neg (fun e=>h2 (by rw [e])),if_neg (fun hm2=>by have:=uk y x hy hx hm2;have:=uk y p hy hp h1;omega),if_pos hm]
 have U3:∀y:Nat,y<n->y≠x->y≠p->S.u y≠x->S.u y≠p->(iG S x p above).f.u y=S.u y:=fun y hy h1 h2 h3 h4=>by
  rw [U,if_neg h1,if_neg (fun hm=>h3 (uk y x hy hx hm)),if_neg (fun hm=>by
   rcases (mo y).1 hm with e|⟨h5,_⟩
   ·omega
   ·exact h4 (uk y p hy hp h5))]
 refine ⟨fun z hz w hw=>?_,fun z hz=>?_,fun y hy=>?_,fun z hz i w hw=>?_⟩
 ·rw [K] at hw
  split at hw
  ·rename_i e;subst e
   have QJ:=hw;rcases (mo w).1 hw with rfl|⟨h1,h2⟩
   ·exact ⟨ω,ω,by rw [π];exact U2 p hp QJ⟩
   ·obtain ⟨y,rfl,hy,_⟩:=rg p hp w h1;exact ⟨ω,ω,by rw [π];exact U2 y hy QJ⟩
  ·rename_i hzx
   split at hw
   ·rename_i e;subst e
    obtain ⟨y,rfl,hy,_⟩:=rg x hx w hw;exact ⟨ω,ω,by rw [π];exact U1 y hy hw⟩
   ·rename_i hzp
    split at hw
    ·rename_i e
     obtain ⟨_,_,_,hm⟩:=top z e;rcases (ql (h.nd z hz) hm).1 hw with rfl|⟨h1,h2⟩
     ·exact ⟨ω,ω,by rw [π,U,if_pos rfl];exact e.symm⟩
     ·obtain ⟨y,rfl,hy,hu⟩:=rg z hz w h1;have hyx:y≠x:=fun e=>by subst e;omega
      exact ⟨ω,ω,by rw [π,U3 y hy hyx (fun e=>h2 (by rw [e])) ω ω];exact hu⟩
    ·rename_i hza
     obtain ⟨y,rfl,hy,hu⟩:=rg z hz w hw;have hyx:y≠x:=fun e=>by subst e;omega
     have hyp:y≠p:=fun e=>by subst e;omega
     exact ⟨ω,ω,by rw [π,U3 y hy hyx hyp ω ω];exact hu⟩
 ·rw [K]
  split
  ·exact ym nd ok.mem pk
  ·split
   ·exact h.nd x hx
   ·split
    ·rename_i e
     obtain ⟨h1,h2,h3,hm⟩:=top z e;exact ym (h.nd z hz) hm (fun hm2=>by have:=uk x z hx hz hm2;omega)
    ·exact h.nd z hz
 ·by_cases hyx:y=x
  ·subst hyx;rw [U,if_pos rfl];rcases ok.top with e|⟨q,e,h1,h2,h3,h4⟩
   ·exact Or.inl e
   ·refine Or.inr ⟨q,h1,e,?_⟩;rw [K,if_neg h2,if_neg h3,if_pos e.symm];exact (ql (h.nd q h1) h4).2 (Or.inl rfl)
  ·by_cases hm1:(y:Int)∈S.k x
   ·refine Or.inr ⟨p,hp,U1 y hy hm1,?_⟩;rw [K,if_neg (Ne.symm hne),if_pos rfl];exact hm1
   ·by_cases hm2:(y:Int)∈setAt (S.k p) x p
    ·refine Or.inr ⟨x,hx,U2 y hy hm2,?_⟩;rw [K,if_pos rfl];exact hm2
    ·have e:(iG S x p above).f.u y=S.u y:=by rw [U,if_neg hyx,if_neg hm1,if_neg hm2]
     rw [e];rcases h.up y hy with h1|⟨r,hr,h1,h2⟩
     ·exact Or.inl h1
     ·refine Or.inr ⟨r,hr,h1,?_⟩;have hrx:r≠x:=fun e=>by subst e;exact hm1 h2
      have hrp:r≠p:=fun e=>by subst e;exact hm2 ((mo y).2 (Or.inr ⟨h2,fun e=>hyx ω⟩))
      rw [K,if_neg hrx,if_neg hrp]
      split
      ·rename_i e
       obtain ⟨_,_,_,hm⟩:=top r e;exact (ql (h.nd r hr) hm).2 (Or.inr ⟨h2,fun e2=>hm2 ((mo y).2 (Or.inl e2))⟩)
      ·exact h2
 ·have other:∀ (z:Nat) (w:Int),z<n->z≠x->(S.k z)[i]?=some w->w≠p->w≠x->((iG S x p above).f.k w.toNat).length=i:=fun z w hz _ hw h1 h2=>by
   obtain ⟨y,rfl,hy,_⟩:=rg z hz w (List.mem_of_getElem? hw);rw [π,D,if_neg (fun e=>h2 (by rw [e])),if_neg (fun e=>h1 (by rw [e]))];have:=h.xN z hz i (y:Int) hw;rwa [π] at this
  have xi:∀i,(S.k p)[i]?=some (x:Int)->(S.k x).length=i:=fun i hi=>by
   have:=h.xN p hp i (x:Int) hi;rwa [π] at this
  rw [K] at hw
  split at hw
  ·rename_i e;subst e
   rcases Fe nd ok.mem hw with ⟨h1,rfl⟩|⟨h1,h2⟩
   ·rw [π,D,if_neg (Ne.symm hne),if_pos rfl];exact xi i h1
   ·exact other p w hp (Ne.symm hne) h1 (fun e=>pk (by rw [←e];exact List.mem_of_getElem? h1)) h2
  ·rename_i hzx
   split at hw
   ·rename_i e;subst e
    have hm:=List.mem_of_getElem? hw;obtain ⟨y,rfl,hy,_⟩:=rg x hx w hm;rw [π,D,if_neg (fun e=>by subst e;exact h.self hx hm),if_neg (fun e=>by subst e;exact px hm)];have:=h.xN x hx i (y:Int) hw;rwa [π] at this
   ·rename_i hzp
    split at hw
    ·rename_i e
     obtain ⟨_,_,_,hm⟩:=top z e;rcases Fe (h.nd z hz) hm hw with ⟨h1,rfl⟩|⟨h1,h2⟩
     ·rw [π,D,if_pos rfl];have:=h.xN z hz i (p:Int) h1;rwa [π] at this
     ·exact other z w hz hzx h1 h2 (fun e2=>by have:=uk x z hx hz (by rw [←e2];exact List.mem_of_getElem? h1);omega)
    ·rename_i hza
     have hm:=List.mem_of_getElem? hw;exact other z w hz hzx hw (fun e2=>by have:=uk p z hp hz (by rw [←e2];exact hm);omega) (fun e2=>by have:=uk x z hx hz (by rw [←e2];exact hm);omega)
theorem K8 {n:Nat} {S:CS} (h:oO n S.f) {x:Nat} (hx:x<n) {p:Nat} (hp:p<n) (hu:S.u x=p) (hm:(x:Int)∈S.k p):zZ n S x p (S.u p):=by
 have dg:∀y z:Nat,z<n->(y:Int)∈S.k z->(S.k y).length<(S.k z).length:=fun y z hz hm=>by
  obtain ⟨i,hi,he⟩:=List.getElem_of_mem hm;have hge:(S.k z)[i]?=some (y:Int):=by rw [ε hi,he]
  have:=h.xN z hz i (y:Int) hge;rw [π] at this;have aaX:(S.k y).length=i:=this;omega
 refine ⟨hx,hp,fun e=>by subst e;exact h.self hx hm,hu,rfl,hm,fun k hk=>by have:=h.vU x hx k hk;omega,fun k hk=>by have:=h.vU p hp k hk;omega,?_⟩;rcases h.up p hp with h1|⟨q,hq,h1,h2⟩
 ·exact Or.inl h1
 ·have d1:=dg x p hp hm;have d2:=dg p q hq h2;exact Or.inr ⟨q,h1,hq,fun e=>by subst e;omega,fun e=>by subst e;omega,h2⟩
theorem RS (S:CS) (x p:Nat) (above:Int) (y:Nat):((iG S x p above).k y).length=if y=x then (S.k p).length else if y=p then (S.k x).length else (S.k y).length:=by
 show (if y=x then setAt (S.k p) x p else if y=p then S.k x else if (y:Int)=above then setAt (S.k y) p x else S.k y).length=_
 split
 ·rw [lF]
 ·split
  ·rfl
  ·split
   ·rw [lF]
   ·rfl
structure FH (n:Nat) (F:CF) (bO:Nat->Int) (L:Nat->Nat->Prop):Prop where
 f:oO n F
 home:∀y p:Nat,y<n->F.u y=p->bO y=bO p/\0<bO y
 ord:∀y p:Nat,y<n->F.u y=p->L p y
 alone:∀y:Nat,y<n->¬0<bO y->F.u y=-1/\F.k y=[]
theorem oO.above {n:Nat} {F:CF} (h:oO n F) {y p:Nat} (hy:y<n) (hu:F.u y=p):p<n/\(y:Int)∈F.k p:=by
 rcases h.up y hy with h1|⟨q,hq,h1,h2⟩
 ·omega
 ·obtain rfl:q=p:=ω;exact ⟨hq,h2⟩
theorem oO.below {n:Nat} {F:CF} (h:oO n F) {p:Nat} (hp:p<n) {z:Int} (hz:z∈F.k p):∃y:Nat,z=y/\y<n/\F.u y=p/\(F.k y).length<(F.k p).length:=by
 obtain ⟨r1,r2,r3⟩:=h.vU p hp z hz;obtain ⟨i,hi,he⟩:=List.getElem_of_mem hz;have hc:=h.xN p hp i z (by rw [ε hi,he]);obtain ⟨y,rfl⟩:=Int.eq_ofNat_of_zero_le r1;rw [π] at r3 hc;exact ⟨y,rfl,ω,r3,ω⟩
theorem oO.OD {n:Nat} {F:CF} (h:oO n F) {y p:Nat} (hy:y<n) (hu:F.u y=p):(F.k y).length<(F.k p).length:=by
 obtain ⟨h1,h2⟩:=h.above hy hu;obtain ⟨z,e,_,_,hd⟩:=h.below h1 h2;obtain rfl:y=z:=ω;exact hd
theorem lV.ext {n:Nat} {F F':CF} {l:List Int} (h:lV n F l) (e:∀x,x∈l->F'.u x.toNat=F.u x.toNat/\F'.k x.toNat=F.k x.toNat):lV n F' l:=by
 refine ⟨fun x hx=>?_,h.2.imp_of_mem (fun {a b} ha hb hab=>?_)⟩
 ·have:=h.1 x hx;exact ⟨this.1,this.2.1,by rw [(e x hx).1];exact this.2.2⟩
 ·unfold dM at hab ⊢;rw [(e a ha).2,(e b hb).2];exact hab
theorem WI {n:Nat} {F F':CF} {x:Int} (e:F'.k x.toNat=F.k x.toNat):dM n F' x=dM n F x:=by unfold dM;rw [e]
theorem QQ {n:Nat} {F:CF} {bO:Nat->Int} {L:Nat->Nat->Prop} {lt:Int->Int->Bool} {h:Int} {A0 B0:List Int} {q:Nat} {F':CF} {O:List Int} {q':Nat} (H:FH n F bO L)
  (hL:∀y p:Nat,y<n->p<n->bO y=h->bO p=h->y≠p->lt y p=false->L p y) (h1:1<=h)
  (m:∀y:Nat,y<n/\F.u y=-1/\bO y=h↔(y:Int)∈A0\/(y:Int)∈B0) (C:Es lt n F A0 B0 q F' O q') :
  FH n F' bO L/\(∀y:Nat,(y:Int)∈O↔y<n/\F'.u y=-1/\bO y=h)/\(∀y:Nat,y<n->bO y≠h->F'.u y=F.u y/\F'.k y=F.k y):=by
 have far:∀y:Nat,y<n->bO y≠h->F'.u y=F.u y/\F'.k y=F.k y:=fun y hy hh=>C.out y (fun hm=>hh ((m y).2 (Or.inl hm)).2.2) (fun hm=>hh ((m y).2 (Or.inr hm)).2.2);have key:∀y p:Nat,y<n->F'.u y=p->F.u y=p\/(y<n/\p<n/\bO y=h/\bO p=h/\y≠p/\lt y p=false):=fun y p hy hu=>by
  rcases C.nl y p hy hu with e|⟨k1,k2,k3,k4⟩
  ·exact Or.inl e
  ·have a1:=(m y).2 k1;have a2:=(m p).2 k2;exact Or.inr ⟨hy,a2.1,a1.2.2,a2.2.2,k3,k4⟩
 refine ⟨⟨C.ok,fun y p hy hu=>?_,fun y p hy hu=>?_,fun y hy hh=>?_⟩,fun y=>⟨fun hm=>?_,fun hm=>?_⟩,far⟩
 ·rcases key y p hy hu with e|⟨_,_,k1,k2,_,_⟩
  ·exact H.home y p hy e
  ·rw [k1,k2];exact ⟨rfl,ω⟩
 ·rcases key y p hy hu with e|⟨k0,kp,k1,k2,k3,k4⟩
  ·exact H.ord y p hy e
  ·exact hL y p k0 kp k1 k2 k3 k4
 ·have:=far y hy ω;rw [this.1,this.2];exact H.alone y hy hh
 ·have r:=C.row.1 _ hm;have a:=(m y).2 (C.sub _ hm);exact ⟨a.1,by simpa using r.2.2,a.2.2⟩
 ·obtain ⟨hy,hu,hh⟩:=hm
  by_cases hAB:(y:Int)∈A0\/(y:Int)∈B0
  ·rcases C.ro y hAB with h2|⟨p,hp,h2⟩
   ·exact h2
   ·omega
  ·have h2:=C.out y (fun h=>hAB (Or.inl h)) (fun h=>hAB (Or.inr h));exact absurd ((m y).1 ⟨hy,by rw [←h2.1];exact hu,hh⟩) hAB
structure BG where
 F:CF
 R:Nat->List Int
structure RH (n:Nat) (G:BG) (bO:Nat->Int):Prop where
 row:∀h,lV n G.F (G.R h)
 mem:∀h y:Nat,(y:Int)∈G.R h↔1<=h/\y<n/\G.F.u y=-1/\bO y=h
def BG.none:BG:=⟨CS.none.f,fun _=>[]⟩
def dG (R:Nat->List Int) (h:Nat) (l:List Int):Nat->List Int:=fun k=>if k=h then l else R k
def lG (lt:Int->Int->Bool) (n:Nat) (F:CF) (A B:List Int):CC:=gZ lt n (n+1) ⟨F,A,B,[],[],0⟩
theorem FP {lt:Int->Int->Bool} {n:Nat} {F:CF} {A B:List Int} (g:G n 0 0 0 0 ⟨F,A,B,[],[],0⟩) (has:∀a b,lt a b=true->lt b a=false) (hn:n<=65536):(lG lt n F A B).done:=by
 have r:=g_ok (dom:=fun _=>True) has (fun x hx=>trivial) g rfl hn (Nat.zero_le _) (n+1);unfold lG CC.done;refine ⟨?_,?_,?_⟩
 all_goals
  apply Classical.byContradiction;intro hne;have:=r.ends (by first|exact Or.inl hne|exact Or.inr (Or.inl hne)|exact Or.inr (Or.inr hne));omega
theorem Zq {lt:Int->Int->Bool} {n:Nat} {F:CF} {A B:List Int} {F':CF} {O:List Int} {q:Nat} (g:G n 0 0 0 0 ⟨F,A,B,[],[],0⟩) (has:∀a b,lt a b=true->lt b a=false) (hn:n<=65536) (h:wT lt n ⟨F,A,B,[],[],0⟩ F' O q) :
  (lG lt n F A B).F=F'/\(lG lt n F A B).O=O/\(lG lt n F A B).q=q:=by
 have:=h.eq (m:=n+1) (FP g has hn);unfold lG;rw [this];exact ⟨rfl,rfl,rfl⟩
theorem Zr {lt:Int->Int->Bool} {n:Nat} {F:CF} {A B:List Int} (g:G n 0 0 0 0 ⟨F,A,B,[],[],0⟩) (has:∀a b,lt a b=true->lt b a=false) (hn:n<=65536):Es lt n F A B 0 (lG lt n F A B).F (lG lt n F A B).O (lG lt n F A B).q:=by
 refine carried has g ⟨n+1,?_⟩;obtain ⟨h1,h2,h3⟩:=FP g has hn;unfold lG at *;generalize gZ lt n (n+1) ⟨F,A,B,[],[],0⟩=C at *;obtain ⟨F1,A1,B1,N1,O1,q1⟩:=C;simp only at h1 h2 h3;subst h1 h2 h3
 rfl
def yB (lt:Int->Int->Bool) (n h:Nat) (l:List Int) (G:BG):BG:=⟨(lG lt n G.F (G.R h) l).F,dG G.R h (lG lt n G.F (G.R h) l).O⟩
theorem Ch {n:Nat} {G:BG} {bO:Nat->Int} {L:Nat->Nat->Prop} {lt:Int->Int->Bool} {h:Nat} {l:List Int} (H:FH n G.F bO L) (hn:n<=65536) (has:∀a b,lt a b=true->lt b a=false)
  (hL:∀y p:Nat,y<n->p<n->bO y=h->bO p=h->y≠p->lt y p=false->L p y) (h1:1<=h)
  (hrow:∀k,lV n G.F (G.R k)) (hmem:∀k y:Nat,k≠h->((y:Int)∈G.R k↔1<=k/\y<n/\G.F.u y=-1/\bO y=k))
  (m:∀y:Nat,y<n/\G.F.u y=-1/\bO y=h↔(y:Int)∈G.R h\/(y:Int)∈l) (hl:lV n G.F l) (hd:∀x,x∈G.R h->x∉l) :
  FH n (yB lt n h l G).F bO L/\RH n (yB lt n h l G) bO/\(∀k,wt n (yB lt n h l G).F ((yB lt n h l G).R k)=if k=h then wt n G.F (G.R h)+wt n G.F l else wt n G.F (G.R k))/\
   (lG lt n G.F (G.R h) l).q+((yB lt n h l G).R h).length=(G.R h).length+l.length:=by
 have g:=Ls (q:=0) H.f (hrow h) hl hd;have C:=Zr g has hn;obtain ⟨h2,h3,h4⟩:=QQ H hL ω m C;have far:∀k:Nat,k≠h->∀x,x∈G.R k->(lG lt n G.F (G.R h) l).F.u x.toNat=G.F.u x.toNat/\(lG lt n G.F (G.R h) l).F.k x.toNat=G.F.k x.toNat:=fun k hk x hx=>by
  have hr:=(hrow k).1 x hx;have:=(hmem k x.toNat hk).1 (by rw [show ((x.toNat:Nat):Int)=x by omega];exact hx);exact h4 x.toNat this.2.1 ω
 unfold yB;refine ⟨h2,⟨fun k=>?_,fun k y=>?_⟩,fun k=>?_,?_⟩
 ·simp only [dG]
  split
  ·exact C.row
  ·rename_i hk
   exact (hrow k).ext (far k hk)
 ·simp only [dG]
  split
  ·rename_i hk
   subst hk;rw [h3 y];exact ⟨fun a=>⟨h1,a⟩,fun a=>a.2⟩
  ·rename_i hk
   rw [hmem k y hk];constructor
   ·rintro ⟨a1,a2,a3,a4⟩;exact ⟨a1,a2,by rw [(h4 y a2 ω).1];exact a3,a4⟩
   ·rintro ⟨a1,a2,a3,a4⟩;exact ⟨a1,a2,by rw [←(h4 y a2 ω).1];exact a3,a4⟩
 ·simp only [dG]
  split
  ·exact C.wt
  ·rename_i hk
   exact AO (fun x hx=>WI (far k hk x hx).2)
 ·simp only [dG,if_true];have:=C.cnt;omega
theorem LX:∀d:Nat,((List.range d).map (fun i=>2 ^ i)).sum+1=2 ^ d
 | 0=>rfl
 | d+1=>by
  have ih:=LX d;rw [List.range_succ,List.map_append,List.sum_append,Nat.pow_succ];simp only [List.map_cons,List.map_nil,List.sum_cons,List.sum_nil];omega
def fV (F:CF) (x:Nat):CF:=⟨fun y=>if y=x then [] else F.k y,fun y=>if (y:Int)∈F.k x then -1 else F.u y⟩
theorem y8 (S:CS) (x:Nat):(iA S x).f=fV S.f x:=rfl
theorem VH {n:Nat} {F:CF} (ok:oO n F) {x:Nat} (hx:x<n) {F':CF} (e:∀z,z∈F.k x->dM n F' z=dM n F z):wt n F' (F.k x)+1=2 ^ (F.k x).length:=by
 rw [←LX]
 congr 1
 rw [AO e];unfold wt
 congr 1
 apply List.ext_getElem σ;intro i h1 h2;rw [List.getElem_map,List.getElem_map,List.getElem_range];have hi:i<(F.k x).length:=by simpa using h1
 have hm:(F.k x)[i]∈F.k x:=List.getElem_mem hi;have hc:=ok.xN x hx i _ (ε hi);have hr:=ok.vU x hx _ hm;unfold dM;rw [if_pos ⟨hr.1,hr.2.1⟩,hc];simp
theorem TR {n:Nat} {F:CF} (ok:oO n F) {x:Nat} (hx:x<n) {F':CF} (e:∀z,z∈F.k x->dM n F' z=dM n F z) (u:∀z,z∈F.k x->F'.u z.toNat=-1):lV n F' (F.k x):=by
 refine ⟨fun z hz=>⟨(ok.vU x hx z hz).1,(ok.vU x hx z hz).2.1,u z hz⟩,?_⟩;rw [List.pairwise_iff_getElem];intro i j hi hj hij;have d:∀i (hi:i<(F.k x).length),dM n F' (F.k x)[i]=i:=fun i hi=>by
  have hm:(F.k x)[i]∈F.k x:=List.getElem_mem hi;have hc:=ok.xN x hx i _ (ε hi);have hr:=ok.vU x hx _ hm;rw [e _ hm];unfold dM;rw [if_pos ⟨hr.1,hr.2.1⟩,hc]
 rw [d i hi,d j hj];omega
theorem oO.Sn {n:Nat} {F:CF} (h:oO n F) {x:Nat} (hx:x<n) (hr:F.u x=-1):oO n (fV F x):=by
 have:=oO.split (n:=n) (S:=⟨fun _=>.slice none 0 0,F.k,F.u⟩) h hx hr;exact this
structure Db (A:NS) (G:BG):Prop where
 fh:FH A.cs.length G.F (fun y=>(A.c y).i) (cZ A)
 rh:RH A.cs.length G (fun y=>(A.c y).i)
 w:∀h:Nat,1<=h->wt A.cs.length G.F (G.R h)=dZ A h
structure EX (A:NS) (G:BG) (x:Nat):Prop where
 fh:FH A.cs.length G.F (fun y=>(A.c y).i) (fun p y=>y≠x->p≠x->cZ A p y)
 two:∀p c:Nat,c<A.cs.length->G.F.u x=p->G.F.u c=x->cZ A p c
 rh:RH A.cs.length G (fun y=>(A.c y).i)
 w:∀h:Nat,1<=h->wt A.cs.length G.F (G.R h)=dZ A h
theorem Db.x {A:NS} {G:BG} (h:Db A G) {x:Nat} (hx:x<A.cs.length):EX A G x:=
 ⟨⟨h.fh.f,h.fh.home,fun y p hy hu _ _=>h.fh.ord y p hy hu,h.fh.alone⟩,fun p c hc h1 h2=>cz (h.fh.ord x p hx h1) (h.fh.ord c x hc h2),h.rh,h.w⟩
def sQ (F:CF) (x p:Nat) (above:Int):CF:=
  ⟨fun y=>if y=x then setAt (F.k p) x p else if y=p then F.k x else if (y:Int)=above then setAt (F.k y) p x else F.k y,
   fun y=>if y=x then above else if (y:Int)∈F.k x then p else if (y:Int)∈setAt (F.k p) x p then x else F.u y⟩
theorem Zz (S:CS) (x p:Nat) (above:Int):(iG S x p above).f=sQ S.f x p above:=rfl
def J7 (x p:Nat) (above:Int) (z:Int):Int:=if z=p/\above=-1 then (x:Int) else z
def ry (G:BG) (x p:Nat):BG:=⟨sQ G.F x p (G.F.u p),fun k=>(G.R k).map (J7 x p (G.F.u p))⟩
section
variable {n:Nat} {F:CF}
theorem Si (h:oO n F) {x p:Nat} (hx:x<n) (hu:F.u x=p):zZ n ⟨fun _=>.slice none 0 0,F.k,F.u⟩ x p (F.u p):=by
 obtain ⟨hp,hm⟩:=h.above hx hu;exact K8 (S:=⟨fun _=>.slice none 0 0,F.k,F.u⟩) h hx hp hu hm
theorem Qq (h:oO n F) {x p:Nat} (hx:x<n) (hu:F.u x=p):oO n (sQ F x p (F.u p)):=
 oO.lift (S:=⟨fun _=>.slice none 0 0,F.k,F.u⟩) h (Si h hx hu)
theorem tV (x p:Nat) (above:Int) (y:Nat):((sQ F x p above).k y).length=if y=x then (F.k p).length else if y=p then (F.k x).length else (F.k y).length:=
 RS ⟨fun _=>.slice none 0 0,F.k,F.u⟩ x p above y
theorem wh (h:oO n F) {x y:Nat} (hx:x<n) (hy:y<n):(y:Int)∈F.k x↔F.u y=x:=by
 constructor
 ·intro hm;obtain ⟨z,e,_,h2,_⟩:=h.below hx hm;obtain rfl:y=z:=ω;exact h2
 ·intro hu;exact (h.above hy hu).2
theorem D6 (h:oO n F) {x p:Nat} (hx:x<n) (hu:F.u x=p) {y:Nat} (hy:y<n) :
  (sQ F x p (F.u p)).u y=if y=x then F.u p else if F.u y=x then (p:Int) else if y=p\/F.u y=p then (x:Int) else F.u y:=by
 obtain ⟨hp,hm⟩:=h.above hx hu
 show (if y=x then F.u p else if (y:Int)∈F.k x then (p:Int) else if (y:Int)∈setAt (F.k p) x p then (x:Int) else F.u y)=_
 by_cases e:y=x
 ·rw [if_pos e,if_pos e]
 ·rw [if_neg e,if_neg e]
  by_cases e2:F.u y=x
  ·rw [if_pos ((wh h hx hy).2 e2),if_pos e2]
  ·rw [if_neg (fun hm2=>e2 ((wh h hx hy).1 hm2)),if_neg e2];have e3:(y:Int)∈setAt (F.k p) x p↔(y=p\/F.u y=p):=by
    rw [ql (h.nd p hp) hm,wh h hp hy];constructor
    ·rintro (h1|⟨h1,_⟩)
     ·exact Or.inl ω
     ·exact Or.inr h1
    ·rintro (h1|h1)
     ·exact Or.inl ω
     ·exact Or.inr ⟨h1,ω⟩
   by_cases e4:y=p\/F.u y=p
   ·rw [if_pos (e3.2 e4),if_pos e4]
   ·rw [if_neg (fun hm2=>e4 (e3.1 hm2)),if_neg e4]
theorem tH (h:oO n F) {x p:Nat} (hx:x<n) (hu:F.u x=p) {y r:Nat} (hy:y<n) (hr:(sQ F x p (F.u p)).u y=r) :
  (y=x/\F.u p=r)\/(y≠x/\F.u y=x/\r=p)\/(y=p/\r=x)\/(y≠x/\y≠p/\F.u y=p/\r=x)\/(y≠x/\y≠p/\F.u y=r/\r≠x/\r≠p):=by
 rw [D6 h hx hu hy] at hr
 by_cases e:y=x
 ·rw [if_pos e] at hr;exact Or.inl ⟨e,hr⟩
 ·rw [if_neg e] at hr
  by_cases e2:F.u y=x
  ·rw [if_pos e2] at hr;exact Or.inr (Or.inl ⟨e,e2,ω⟩)
  ·rw [if_neg e2] at hr
   by_cases e3:y=p\/F.u y=p
   ·rw [if_pos e3] at hr
    by_cases e4:y=p
    ·exact Or.inr (Or.inr (Or.inl ⟨e4,ω⟩))
    ·exact Or.inr (Or.inr (Or.inr (Or.inl ⟨e,e4,e3.resolve_left e4,ω⟩)))
   ·rw [if_neg e3] at hr;exact Or.inr (Or.inr (Or.inr (Or.inr ⟨e,fun e4=>e3 (Or.inl e4),hr,fun e5=>e2 ω,fun e5=>e3 (Or.inr ω)⟩)))
theorem qH (h:oO n F) {x p:Nat} (hx:x<n) (hu:F.u x=p) {y:Nat} (hy:y<n):(sQ F x p (F.u p)).u y=-1↔(y=x/\F.u p=-1)\/(y≠x/\y≠p/\F.u y=-1):=by
 rw [D6 h hx hu hy]
 by_cases e:y=x
 ·rw [if_pos e];exact ⟨fun h=>Or.inl ⟨e,h⟩,fun h=>by rcases h with h|h;exact h.2;exact absurd e h.1⟩
 ·rw [if_neg e]
  by_cases e2:F.u y=x
  ·rw [if_pos e2];exact ⟨fun h=>ω,fun h=>by rcases h with h|h;exact absurd h.1 e;omega⟩
  ·rw [if_neg e2]
   by_cases e3:y=p\/F.u y=p
   ·rw [if_pos e3];exact ⟨fun h=>ω,fun h=>by rcases h with h|h;exact absurd h.1 e;rcases e3 with e3|e3;exact absurd e3 h.2.1;omega⟩
   ·rw [if_neg e3];exact ⟨fun h=>Or.inr ⟨e,fun e4=>e3 (Or.inl e4),h⟩,fun h=>by rcases h with h|h;exact absurd h.1 e;exact h.2.2⟩
end
section
variable {A:NS} {G:BG} {x p:Nat}
theorem Af (h:EX A G x) (hx:x<A.cs.length) (hu:G.F.u x=p) {k:Nat} {z:Int} (hz:z∈G.R k) :
  0<=J7 x p (G.F.u p) z/\J7 x p (G.F.u p) z<A.cs.length/\(ry G x p).F.u (J7 x p (G.F.u p) z).toNat=-1/\dM A.cs.length (ry G x p).F (J7 x p (G.F.u p) z)=dM A.cs.length G.F z/\(A.c (J7 x p (G.F.u p) z).toNat).i=(A.c z.toNat).i:=by
 obtain ⟨hp,hm⟩:=h.fh.f.above hx hu;have hne:p≠x:=fun e=>by subst e;exact h.fh.f.self hx hm
 have hr:=(h.rh.row k).1 z hz;obtain ⟨y,rfl⟩:=Int.eq_ofNat_of_zero_le hr.1;rw [π] at hr;have hy:y<A.cs.length:=ω;unfold J7
 by_cases e:(y:Int)=p/\G.F.u p=-1
 ·rw [if_pos e,π,π];obtain rfl:y=p:=ω;refine ⟨ω,ω,(qH h.fh.f hx hu hx).2 (Or.inl ⟨rfl,e.2⟩),?_,(h.fh.home x y hx hu).1⟩;rw [fQ _ _ hx,fQ _ _ hy]
  show (((sQ G.F x y (G.F.u y)).k x).length:Int)=_
  rw [tV,if_pos rfl]
 ·rw [if_neg e,π];have hyp:y≠p:=fun e2=>by subst e2;exact e ⟨rfl,hr.2.2⟩
  have hyx:y≠x:=fun e2=>by subst e2;omega
  refine ⟨ω,ω,(qH h.fh.f hx hu hy).2 (Or.inr ⟨hyx,hyp,hr.2.2⟩),?_,rfl⟩;rw [fQ _ _ hy,fQ _ _ hy]
  show (((sQ G.F x p (G.F.u p)).k y).length:Int)=_
  rw [tV,if_neg hyx,if_neg hyp]
theorem y9 (h:EX A G x) (hx:x<A.cs.length) (hu:G.F.u x=p):EX A (ry G x p) x:=by
 obtain ⟨hp,hm⟩:=h.fh.f.above hx hu;have hne:p≠x:=fun e=>by subst e;exact h.fh.f.self hx hm
 have hxp:=h.fh.home x p hx hu;have hqx:∀q:Nat,G.F.u p=q->q≠x:=fun q hq e=>by
  have d1:=h.fh.f.OD hx hu;have d2:=h.fh.f.OD hp hq;subst e;omega
 refine ⟨⟨Qq h.fh.f hx hu,fun y r hy hr=>?_,fun y r hy hr hyx hrx=>?_,fun y hy hh=>?_⟩,fun q c hc h1 h2=>?_,⟨fun k=>⟨fun z hz=>?_,?_⟩,fun k y=>⟨fun hm2=>?_,fun hm2=>?_⟩⟩,fun k hk=>?_⟩
 ·rcases tH h.fh.f hx hu hy hr with ⟨e,h2⟩|⟨_,h2,e⟩|⟨e,e2⟩|⟨_,_,h2,e⟩|⟨_,_,h2,_,_⟩
  ·subst e;have:=h.fh.home p r hp h2;exact ⟨hxp.1.trans this.1,hxp.2⟩
  ·subst e;have:=h.fh.home y x hy h2;exact ⟨this.1.trans hxp.1,this.2⟩
  ·subst e e2;exact ⟨hxp.1.symm,by rw [←hxp.1];exact hxp.2⟩
  ·subst e;have:=h.fh.home y p hy h2;exact ⟨this.1.trans hxp.1.symm,this.2⟩
  ·exact h.fh.home y r hy h2
 ·rcases tH h.fh.f hx hu hy hr with ⟨e,h2⟩|⟨_,h2,e⟩|⟨e,e2⟩|⟨_,_,h2,e⟩|⟨_,_,h2,_,_⟩
  ·exact absurd e hyx
  ·subst e;exact h.two r y hy hu h2
  ·exact absurd e2 hrx
  ·exact absurd e hrx
  ·exact h.fh.ord y r hy h2 hyx hrx
 ·have h0:=h.fh.alone y hy hh;have hyx:y≠x:=fun e=>by subst e;exact hh hxp.2
  have hyp:y≠p:=fun e=>by subst e;exact hh (by rw [←hxp.1];exact hxp.2)
  refine ⟨(qH h.fh.f hx hu hy).2 (Or.inr ⟨hyx,hyp,h0.1⟩),?_⟩;have:((sQ G.F x p (G.F.u p)).k y).length=0:=by rw [tV,if_neg hyx,if_neg hyp,h0.2];rfl
  exact List.eq_nil_of_length_eq_zero this
 ·have h3:G.F.u p=q:=by
   have:=D6 h.fh.f hx hu hx;rw [if_pos rfl] at this;rw [←this];exact h1
  have hpq:=h.fh.ord p q hp h3 hne (hqx q h3);rcases tH h.fh.f hx hu hc h2 with ⟨e,h4⟩|⟨_,h4,e⟩|⟨e,e2⟩|⟨e3,_,h4,e⟩|⟨_,_,h4,e3,_⟩
  ·exact absurd rfl (hqx x h4)
  ·exact absurd e.symm hne
  ·subst e;exact hpq
  ·exact cz hpq (h.fh.ord c p hc h4 e3 hne)
  ·exact absurd rfl e3
 ·obtain ⟨z0,hz0,rfl⟩:=List.mem_map.1 hz;have:=Af h hx hu hz0;exact ⟨this.1,this.2.1,this.2.2.1⟩
 ·show ((G.R k).map _).Pairwise _
  rw [List.pairwise_map];exact (h.rh.row k).2.imp_of_mem (fun {a b} ha hb hab=>by rw [(Af h hx hu ha).2.2.2.1,(Af h hx hu hb).2.2.2.1];exact hab)
 ·obtain ⟨z0,hz0,e⟩:=List.mem_map.1 hm2;have h1:=Af h hx hu hz0;rw [e] at h1;rw [π] at h1;have hr:=(h.rh.row k).1 z0 hz0;have h2:=(h.rh.mem k z0.toNat).1 (by rw [show ((z0.toNat:Nat):Int)=z0 by omega];exact hz0);exact ⟨h2.1,ω,h1.2.2.1,by show (A.c y).i=(k:Int);rw [h1.2.2.2.2];exact h2.2.2.2⟩
 ·obtain ⟨k1,hy,hr,hh⟩:=hm2
  show (y:Int)∈(G.R k).map _
  rw [List.mem_map];rcases (qH h.fh.f hx hu hy).1 hr with ⟨e,h2⟩|⟨hyx,hyp,h2⟩
  ·subst e;refine ⟨(p:Int),(h.rh.mem k p).2 ⟨k1,hp,h2,?_⟩,by unfold J7;rw [if_pos ⟨rfl,h2⟩]⟩;have e9:(A.c y).i=(A.c p).i:=hxp.1
   show (A.c p).i=(k:Int)
   rw [←e9];exact hh
  ·exact ⟨(y:Int),(h.rh.mem k y).2 ⟨k1,hy,h2,hh⟩,by unfold J7;rw [if_neg (fun e=>hyp ω)]⟩
 ·rw [←h.w k hk];unfold wt
  show (((G.R k).map _).map _).sum=_
  rw [List.map_map]
  congr 1
  exact List.map_congr_left (fun z hz=>by simp only [Function.comp];rw [(Af h hx hu hz).2.2.2.1])
theorem MB (h:EX A G x) (hx:x<A.cs.length) (hu:G.F.u x=p) (hk:∀c:Nat,c<A.cs.length->G.F.u c=x->cZ A x c) (hl:cZ A x p) :
  ∀c:Nat,c<A.cs.length->(ry G x p).F.u c=x->cZ A x c:=fun c hc h2=>by
 obtain ⟨hp,hm⟩:=h.fh.f.above hx hu;have hne:p≠x:=fun e=>by subst e;exact h.fh.f.self hx hm
 rcases tH h.fh.f hx hu hc h2 with ⟨e,h4⟩|⟨_,h4,e⟩|⟨e,e2⟩|⟨e3,_,h4,e⟩|⟨_,_,h4,e3,_⟩
 ·have d1:=h.fh.f.OD hx hu;have d2:=h.fh.f.OD hp h4;omega
 ·exact absurd e.symm hne
 ·subst e;exact hl
 ·exact cz hl (h.fh.ord c p hc h4 e3 hne)
 ·exact absurd rfl e3
theorem EX.done (h:EX A G x) (hx:x<A.cs.length) (hk:∀c:Nat,c<A.cs.length->G.F.u c=x->cZ A x c) (ht:∀p:Nat,G.F.u x=p->cZ A p x):Db A G:=by
 refine ⟨⟨h.fh.f,h.fh.home,fun y r hy hr=>?_,h.fh.alone⟩,h.rh,h.w⟩
 by_cases e1:y=x
 ·subst e1;exact ht r hr
 ·by_cases e2:r=x
  ·subst e2;exact hk y hy hr
  ·exact h.fh.ord y r hy hr e1 e2
theorem CK {k s:Int} (h:Db A G) (hB:jo A x k s=true) (hx:x<A.cs.length):EX (aB A x k s) G x/\∀c:Nat,c<A.cs.length->G.F.u c=x->cZ (aB A x k s) x c:=by
 have hc:=fun y=>rA hB hx y;have hi:=fun y=>iR hB hx y;have hle:=tJ hB;rw [π] at hle;have hne:∀y r:Nat,y<A.cs.length->G.F.u y=r->y≠r:=fun y r hy hu e=>by
  subst e;exact h.fh.f.self hy (h.fh.f.above hy hu).2
 have low:∀y:Nat,y≠x->cZ A x y->cZ (aB A x k s) x y:=fun y hy hl=>mD hl (by rw [hc,if_neg hy]) (by rw [hc,if_pos rfl];exact hle);have same:∀y r:Nat,y≠x->r≠x->cZ A y r->cZ (aB A x k s) y r:=fun y r h1 h2 hl=>(fP (by rw [hc,if_neg h1]) (by rw [hc,if_neg h2])).2 hl;have hn:=fJ A x k s;have hw:∀q:Nat,dZ (aB A x k s) q=dZ A q:=fun q=>by
  unfold aB;rw [if_pos hB,π];have e:=nL A x ⟨(A.c x).i,k,s⟩ q hx;simp only at e;omega
 refine ⟨⟨⟨by rw [hn];exact h.fh.f,fun y r hy hr=>?_,fun y r hy hr e1 e2=>?_,fun y hy hh=>?_⟩,fun q c hc' h1 h2=>?_,⟨fun q=>by rw [hn];exact h.rh.row q,fun q y=>?_⟩,fun q hq=>by rw [hn,hw];exact h.w q hq⟩,fun c hc' hu=>?_⟩
 ·rw [hn] at hy;simp only [hi];exact h.fh.home y r hy hr
 ·rw [hn] at hy;exact same r y e2 e1 (h.fh.ord y r hy hr)
 ·rw [hn] at hy;simp only [hi] at hh;exact h.fh.alone y hy hh
 ·rw [hn] at hc';have h3:=h.fh.ord x q hx h1;have h4:=h.fh.ord c x hc' h2;exact same q c (fun e=>hne x q hx h1 e.symm) (hne c x hc' h2) (cz h3 h4)
 ·rw [hn];simp only [hi];exact h.rh.mem q y
 ·exact low c (hne c x hc' hu) (h.fh.ord c x hc' hu)
end
theorem oM (A:NS) (a b:Int) (h:cB A a b=true):cB A b a=false:=by
 unfold cB at *;simp only [Bool.and_eq_true,decide_eq_true_eq] at h;have:=qo h.2;simp [this]
theorem zN {A:NS} {y p:Nat} (hy:bX A (y:Int)=true) (hp:bX A (p:Int)=true) (hne:y≠p) (h:cB A y p=false):cZ A p y:=by
 rw [lY,hy,hp] at h;simp only [Bool.and_self,Bool.true_and,decide_eq_false_iff_not] at h;exact (jm hne).resolve_left h
def iK (G:BG) (h x:Nat):BG:=⟨fV G.F x,dG G.R h ((G.R h).filter (fun z=>z != (x:Int)))⟩
def rD (A:NS) (h x:Nat) (G:BG):BG:=yB (cB A) A.cs.length h (G.F.k x) (iK G h x)
def yf (A:NS) (h x:Nat) (G:BG):Nat:=(lG (cB A) A.cs.length (iK G h x).F ((iK G h x).R h) (G.F.k x)).q
theorem IW {l:List Int} (hn:l.Nodup) {x:Int} (hx:x∈l):(l.filter (fun z=>z != x)).length+1=l.length:=by
 induction l with
 | nil=>cases hx
 | cons y r ih=>
  rw [List.nodup_cons] at hn;rcases ρ.1 hx with e|h
  ·subst e;have:r.filter (fun z=>z != x)=r:=by
    rw [List.filter_eq_self];intro a ha;simp;intro e;subst e;exact hn.1 ha
   rw [List.filter_cons_of_neg σ,this];simp
  ·have hne:y≠x:=fun e=>by subst e;exact hn.1 h
   rw [List.filter_cons_of_pos (by simpa using hne)];have:=ih hn.2 h;simp only [List.length_cons];omega
theorem Oz {n:Nat} {F:CF} {l:List Int} (hn:l.Nodup) {x:Int} (hx:x∈l):wt n F (l.filter (fun z=>z != x))+2 ^ (dM n F x).toNat=wt n F l:=by
 have hc:∀ (y:Int) (l:List Int),wt n F (y::l)=2 ^ (dM n F y).toNat + wt n F l:=fun y l=>by unfold wt;simp
 induction l with
 | nil=>cases hx
 | cons y r ih=>
  rw [List.nodup_cons] at hn;rcases ρ.1 hx with e|h
  ·subst e;have:r.filter (fun z=>z != x)=r:=by
    rw [List.filter_eq_self];intro a ha;simp;intro e;subst e;exact hn.1 ha
   rw [List.filter_cons_of_neg σ,this,hc];omega
  ·have hne:y≠x:=fun e=>by subst e;exact hn.1 h
   rw [List.filter_cons_of_pos (by simpa using hne),hc,hc];have:=ih hn.2 h;omega
section
variable {A:NS} {G:BG} {h x:Nat}
theorem LK (B:EX A G x) (ok:A.Ok) (hx:x<A.cs.length) (hr:G.F.u x=-1) (hin:0<(A.c x).i) (hh:(A.c x).i=h) :
  Db (bz A x) (rD A h x G)/\yf A h x G+((rD A h x G).R h).length+1=(G.R h).length+(G.F.k x).length/\(x:Int)∈G.R h/\
   lV A.cs.length (fV G.F x) ((G.R h).filter (fun z=>z != (x:Int)))/\lV A.cs.length (fV G.F x) (G.F.k x)/\(∀z,z∈(G.R h).filter (fun z=>z != (x:Int))->z∉G.F.k x)/\oO A.cs.length (fV G.F x)/\
   (∀z,z∈G.R h\/z∈G.F.k x->bX A z=true):=by
 have EU:1<=h:=ω;have hn:=ok.c1;have inx:bX A (x:Int)=true:=(ai _ _).2 ⟨hx,hin⟩;have hc:=fun y=>xR inx y;have hcs:=fT A (x:Int);have dn:=B.fh.f.nd x hx;have ku:∀z,z∈G.F.k x->∃y:Nat,z=y/\y<A.cs.length/\G.F.u y=x:=fun z hz=>by
  obtain ⟨y,h1,h2,h3,_⟩:=B.fh.f.below hx hz;exact ⟨y,h1,h2,h3⟩
 have sx:(x:Int)∉G.F.k x:=B.fh.f.self hx;have dS:∀z:Int,z≠x->dM A.cs.length (fV G.F x) z=dM A.cs.length G.F z:=fun z hz=>by
  unfold dM fV;simp only
  by_cases h0:0<=z/\z<A.cs.length
  ·rw [if_pos h0,if_pos h0,if_neg ω]
  ·rw [if_neg h0,if_neg h0]
 have uS:∀z:Int,0<=z->G.F.u z.toNat=-1->(fV G.F x).u z.toNat=-1:=fun z h0 hu=>by
  unfold fV;simp only
  split
  ·rfl
  ·exact hu
 have kU:∀z,z∈G.F.k x->(fV G.F x).u z.toNat=-1:=fun z hz=>by
  obtain ⟨y,rfl,_,_⟩:=ku z hz;unfold fV;simp only [π];rw [if_pos hz]
 have mx:(x:Int)∈G.R h:=(B.rh.mem h x).2 ⟨EU,hx,hr,hh⟩;have hrow:∀k,lV A.cs.length (fV G.F x) ((iK G h x).R k):=fun k=>by
  have base:∀l:List Int,lV A.cs.length G.F l->(x:Int)∉l->lV A.cs.length (fV G.F x) l:=fun l hl hxl=>by
   refine ⟨fun z hz=>?_,hl.2.imp_of_mem (fun {a b} ha hb hab=>?_)⟩
   ·have:=hl.1 z hz;exact ⟨this.1,this.2.1,uS z this.1 this.2.2⟩
   ·rw [dS a (fun e=>hxl (e▸ha)),dS b (fun e=>hxl (e▸hb))];exact hab
  unfold iK dG;simp only
  split
  ·refine base _ ⟨fun z hz=>(B.rh.row h).1 z (List.mem_filter.1 hz).1,(B.rh.row h).2.filter _⟩ (fun hm=>by simp at hm)
  ·rename_i hk
   exact base _ (B.rh.row k) (fun hm=>hk (by have:=((B.rh.mem k x).1 hm).2.2.2;omega))
 have hl:lV A.cs.length (fV G.F x) (G.F.k x):=TR B.fh.f hx (fun z hz=>dS z (fun e=>sx (e▸hz))) kU;have hd:∀z,z∈(iK G h x).R h->z∉G.F.k x:=fun z hz hk=>by
  unfold iK dG at hz;simp only [if_true] at hz;obtain ⟨y,rfl,hy,hu⟩:=ku z hk;have:=((B.rh.mem h y).1 (List.mem_filter.1 hz).1).2.2.1;omega
 have hF:FH A.cs.length (fV G.F x) (fun y=>((bz A x).c y).i) (cZ (bz A x)):=by
  refine ⟨B.fh.f.Sn hx hr,fun y p hy hu=>?_,fun y p hy hu=>?_,fun y hy h0=>?_⟩
  all_goals unfold fV at *;simp only at *
  ·split at hu
   ·omega
   ·rename_i hk
    have hyx:y≠x:=fun e=>by subst e;omega
    have hpx:p≠x:=fun e=>by subst e;exact hk (B.fh.f.above hy hu).2
    rw [hc,hc,if_neg hyx,if_neg hpx];exact B.fh.home y p hy hu
  ·split at hu
   ·omega
   ·rename_i hk
    have hyx:y≠x:=fun e=>by subst e;omega
    have hpx:p≠x:=fun e=>by subst e;exact hk (B.fh.f.above hy hu).2
    exact (fP (by rw [hc,if_neg hpx]) (by rw [hc,if_neg hyx])).2 (B.fh.ord y p hy hu hyx hpx)
  ·by_cases hyx:y=x
   ·subst hyx;exact ⟨by rw [if_neg sx];exact hr,by rw [if_pos rfl]⟩
   ·rw [hc,if_neg hyx] at h0;have:=B.fh.alone y hy h0;rw [if_neg hyx,this.2];exact ⟨by split;rfl;exact this.1,rfl⟩
 have hL:∀y p:Nat,y<A.cs.length->p<A.cs.length->((bz A x).c y).i=(h:Int)->((bz A x).c p).i=(h:Int)->y≠p->cB A y p=false->cZ (bz A x) p y:=fun y p hy hp h1 h2 hne ha=>by
  have hyx:y≠x:=fun e=>by rw [hc,if_pos e] at h1;simp [Cl.z] at h1;omega
  have hpx:p≠x:=fun e=>by rw [hc,if_pos e] at h2;simp [Cl.z] at h2;omega
  rw [hc,if_neg hyx] at h1;rw [hc,if_neg hpx] at h2;exact (fP (by rw [hc,if_neg hpx]) (by rw [hc,if_neg hyx])).2 (zN ((ai _ _).2 ⟨hy,ω⟩) ((ai _ _).2 ⟨hp,ω⟩) hne ha)
 have hroot:∀y:Nat,y<A.cs.length->((fV G.F x).u y=-1↔G.F.u y=-1\/G.F.u y=x):=fun y hy=>by
  unfold fV;simp only;have hk:=wh B.fh.f hx hy
  by_cases e:G.F.u y=x
  ·rw [if_pos (hk.2 e)];exact ⟨fun _=>Or.inr e,fun _=>rfl⟩
  ·rw [if_neg (fun hm=>e (hk.1 hm))];exact ⟨fun h=>Or.inl h,fun h=>h.resolve_right e⟩
 have hmem:∀k y:Nat,k≠h->((y:Int)∈(iK G h x).R k↔1<=k/\y<A.cs.length/\(fV G.F x).u y=-1/\((bz A x).c y).i=(k:Int)):=fun k y hk=>by
  unfold iK dG;simp only [if_neg hk];rw [B.rh.mem k y];constructor
  ·rintro ⟨a1,a2,a3,a4⟩;have hyx:y≠x:=fun e=>by subst e;omega
   exact ⟨a1,a2,(hroot y a2).2 (Or.inl a3),by rw [hc,if_neg hyx];exact a4⟩
  ·rintro ⟨a1,a2,a3,a4⟩;have hyx:y≠x:=fun e=>by rw [hc,if_pos e] at a4;simp [Cl.z] at a4;omega
   rw [hc,if_neg hyx] at a4;refine ⟨a1,a2,((hroot y a2).1 a3).resolve_right (fun e=>?_),a4⟩;have:=(B.fh.home y x a2 e).1;omega
 have hm:∀y:Nat,y<A.cs.length/\(fV G.F x).u y=-1/\((bz A x).c y).i=(h:Int)↔(y:Int)∈(iK G h x).R h\/(y:Int)∈G.F.k x:=fun y=>by
  unfold iK dG;simp only [if_true,List.mem_filter,bne_iff_ne,ne_eq];rw [B.rh.mem h y];constructor
  ·rintro ⟨a2,a3,a4⟩;have hyx:y≠x:=fun e=>by rw [hc,if_pos e] at a4;simp [Cl.z] at a4;omega
   rw [hc,if_neg hyx] at a4;rcases (hroot y a2).1 a3 with e|e
   ·exact Or.inl ⟨⟨EU,a2,e,a4⟩,ω⟩
   ·exact Or.inr ((wh B.fh.f hx a2).2 e)
  ·rintro (⟨⟨_,a2,a3,a4⟩,a5⟩|a1)
   ·exact ⟨a2,(hroot y a2).2 (Or.inl a3),by rw [hc,if_neg ω];exact a4⟩
   ·obtain ⟨z,e,a2,a3⟩:=ku _ a1;obtain rfl:y=z:=ω;have hyx:y≠x:=fun e=>by subst e;exact sx a1
    refine ⟨a2,(hroot y a2).2 (Or.inr a3),?_⟩;rw [hc,if_neg hyx];have:=(B.fh.home y x a2 a3).1;omega
 obtain ⟨r1,r2,r3,r4⟩:=Ch (G:=iK G h x) hF hn (oM A) hL EU hrow hmem hm hl hd;have nd:(G.R h).Nodup:=(B.rh.row h).nodup;have eR:(iK G h x).R h=(G.R h).filter (fun z=>z != (x:Int)):=by unfold iK dG;simp
 have fl:=IW nd mx;refine ⟨⟨by rw [hcs];exact r1,by rw [hcs];exact r2,fun k hk=>?_⟩,?_,mx,by rw [←eR];exact hrow h,hl,by rw [←eR];exact hd,hF.f,fun z hz=>?_⟩
 ·rw [hcs];have e1:wt A.cs.length (rD A h x G).F ((rD A h x G).R k)=_:=r3 k;rw [e1];have hlen:=nL A x Cl.z (k:Int) hx;have e2:bz A x=jh A x Cl.z:=by unfold bz;rw [if_pos inx,π]
  rw [e2]
  by_cases ek:k=h
  ·subst ek;rw [if_pos rfl,eR];rw [if_pos ω,if_neg (by simp [Cl.z];omega)] at hlen;have w1:=Oz (F:=G.F) (n:=A.cs.length) nd mx;rw [fQ _ _ hx,π] at w1;have w2:=VH (F':=fV G.F x) B.fh.f hx (fun z hz=>dS z (fun e=>sx (e▸hz)));have w3:wt A.cs.length (fV G.F x) ((G.R k).filter (fun z=>z != (x:Int)))=wt A.cs.length G.F ((G.R k).filter (fun z=>z != (x:Int))):=AO (fun z hz=>dS z (by simpa using (List.mem_filter.1 hz).2));have w4:=B.w k hk
   show wt A.cs.length (fV G.F x) _+wt A.cs.length (fV G.F x) _=_
   omega
  ·rw [if_neg ek];rw [if_neg ω,if_neg (by simp [Cl.z];omega)] at hlen;have eK:(iK G h x).R k=G.R k:=by unfold iK dG;simp only [if_neg ek]
   rw [eK];have w4:=B.w k hk
   have w3:wt A.cs.length (fV G.F x) (G.R k)=wt A.cs.length G.F (G.R k):=AO (fun z hz=>dS z (fun e=>by
    subst e;have:=((B.rh.mem k x).1 hz).2.2.2
    omega))
   show wt A.cs.length (fV G.F x) _=_
   omega
 ·rw [eR] at r4;have e3:yf A h x G=(lG (cB A) A.cs.length (iK G h x).F ((G.R h).filter (fun z=>z != (x:Int))) (G.F.k x)).q:=by unfold yf;rw [eR]
  rw [e3];have e4:(rD A h x G).R h=(yB (cB A) A.cs.length h (G.F.k x) (iK G h x)).R h:=rfl;rw [e4];omega
 ·rcases hz with hz|hz
  ·have hr:=(B.rh.row h).1 z hz;have:=(B.rh.mem h z.toNat).1 (by rw [show ((z.toNat:Nat):Int)=z by omega];exact hz);exact (yZ _ _).2 ⟨hr.1,hr.2.1,by have:=this.2.2.2;omega⟩
  ·obtain ⟨y,rfl,hy,hu⟩:=ku z hz;exact (ai _ _).2 ⟨hy,(B.fh.home y x hy hu).2⟩
end
end Go.Proofs.YtklibcncmbofpaaGreat
