/-
  Lemmas for RankSorts: KarLaw, FrOk, BnP. Conditions: those of each lemma.
-/
import Derived.Test.YtklibcncmbofpaaGreatP28
import Derived.Test.YtklibcncmbofpaaGreatP29
set_option maxHeartbeats 8000000
set_option maxRecDepth 10000
set_option linter.unusedVariables false
set_option linter.unusedSimpArgs false
namespace Go.Proofs.YtklibcncmbofpaaGreat
open Go Go.RowKit
def ji (n:Nat) (F:CF) (l:List Int):Prop:=(∀x,x∈l→0≤x∧x<n∧F.u x.toNat=-1)∧l.Pairwise (fun x y=>bM n F x<bM n F y)
theorem zw (n:Nat) (F:CF) (x:Int):wO n F x=true↔0≤x∧x<n∧F.u x.toNat=-1:=by
 unfold wO;simp only [Bool.and_eq_true,decide_eq_true_eq,beq_iff_eq];exact ⟨fun h=>⟨h.1.1,h.1.2,h.2⟩,fun h=>⟨⟨h.1,h.2.1⟩,h.2.2⟩⟩
theorem jF {l:List Int} {i:Nat} (h:i<l.length):l.getD i 0=l[i]:=by simp [φ,h]
theorem Db (n:Nat) (S:CS) (l:List Int):Ha n S l=true↔ji n S.f l:=by
 unfold Ha su rowOk;simp only [OO,NI];rw [List.all_eq_true];simp only [List.mem_range,Bool.and_eq_true,Bool.or_eq_true,beq_iff_eq,decide_eq_true_eq];constructor
 ·intro h;refine ⟨fun x hx=>?_,?_⟩
  ·obtain ⟨i,hi,rfl⟩:=List.getElem_of_mem hx;have:=(h i hi).1;rw [jF hi] at this;exact (zw n S.f _).1 this
  ·rw [List.pairwise_iff_getElem];have key:∀ (d i:Nat) (hi:i<l.length) (hj:i+d+1<l.length),bM n S.f l[i]<bM n S.f l[i+d+1]:=fun d=>by
    induction d with
    | zero=>
     intro i hi hj;rcases (h (i+1) hj).2 with h2|h2
     ·omega
     ·rw [Nat.add_sub_cancel,jF hi,jF hj] at h2;exact of_decide_eq_true h2
    | succ d ih=>
     intro i hi hj;have h1:=ih i hi ω;rcases (h (i+d+1+1) ω).2 with h2|h2
     ·omega
     ·rw [Nat.add_sub_cancel,jF (show i+d+1<l.length by omega),jF (show i+d+1+1<l.length by omega)] at h2
      exact Int.lt_trans h1 (of_decide_eq_true h2)
   intro i j hi hj hij;have:=key (j-i-1) i hi ω;simpa [show i+(j-i-1)+1=j by omega] using this
 ·rintro ⟨h1,h2⟩ i hi;refine ⟨?_,?_⟩
  ·rw [jF hi];exact (zw n S.f _).2 (h1 _ (List.getElem_mem hi))
  ·rcases Nat.eq_zero_or_pos i with h0|h0
   ·exact Or.inl h0
   ·rw [jF hi,jF (show i-1<l.length by omega)]
    exact Or.inr (decide_eq_true ((List.pairwise_iff_getElem.1 h2) (i-1) i ω hi ω))
theorem ji.nodup {n:Nat} {F:CF} {l:List Int} (h:ji n F l):l.Nodup:=h.2.imp (fun {a b} hab e=>by subst e;omega)
theorem any_false {A B:List Int}:A.any (fun x=>decide (x∈B))=false↔∀x,x∈A→x∉B:=by
 rw [List.any_eq_false];simp
theorem FE {n:Nat} {F:CF} {A B:List Int} {q:Nat} (f:l8 n F) (hA:ji n F A) (hB:ji n F B) (hd:∀x,x∈A→x∉B):G n 0 0 0 0 ⟨F,A,B,[],[],q⟩:=by
 have d0:∀x,0≤bM n F x:=fun x=>by unfold bM;split<;>omega
 refine ⟨f,fun x hx=>?_,?_,hA.2,fun x _=>by simpa using d0 x,hB.2,fun x _=>by simpa using d0 x,fun x hx=>(by cases hx),List.Pairwise.nil,fun x hx=>(by cases hx)⟩
 ·unfold CC.L at hx;simp only [List.append_nil,List.mem_append] at hx;rcases hx with hx|hx
  ·exact hA.1 x hx
  ·exact hB.1 x hx
 ·unfold CC.L;simp only [List.append_nil];rw [List.nodup_append];exact ⟨hA.nodup,hB.nodup,fun x hx y hy e=>by subst e;exact hd x hx hy⟩
def CC.done (C:CC):Prop:=C.A=[]∧C.B=[]∧C.N=[]
instance (C:CC):Decidable C.done:=by unfold CC.done;exact inferInstance
theorem step_done {lt:Int→Int→Bool} {n k:Nat} {C:CC} (h:C.done):Co lt n k C=C:=by
 obtain ⟨F,A,B,N,O,q⟩:=C;obtain ⟨h1,h2,h3⟩:=h;simp only at h1 h2 h3;subst h1 h2 h3
 rfl
theorem wF {lt:Int→Int→Bool} {n k:Nat} {C0:CC} (h:(eU lt n k C0).done):∀j,eU lt n (k+j) C0=eU lt n k C0
 | 0=>rfl
 | j+1=>by
  have ih:=wF h j;rw [Nat.add_succ,eU,ih,step_done h]
theorem Js {lt:Int→Int→Bool} {n k m:Nat} {C0:CC} (hk:(eU lt n k C0).done) (hm:(eU lt n m C0).done):eU lt n k C0=eU lt n m C0:=by
 rcases Nat.le_total k m with h|h
 ·have:=wF hk (m-k);rw [show k+(m-k)=m by omega] at this
  exact this.symm
 ·have:=wF hm (k-m);rw [show m+(k-m)=k by omega] at this
  exact this
def tJ (lt:Int→Int→Bool) (n:Nat) (C0:CC) (F:CF) (O:List Int) (q:Nat):Prop:=∃k,eU lt n k C0=⟨F,[],[],[],O,q⟩
theorem tJ.eq {lt:Int→Int→Bool} {n:Nat} {C0:CC} {F:CF} {O:List Int} {q:Nat} (h:tJ lt n C0 F O q) {m:Nat} (hm:(eU lt n m C0).done):eU lt n m C0=⟨F,[],[],[],O,q⟩:=by
 obtain ⟨k,hk⟩:=h;rw [←hk];exact Js hm (by rw [hk];exact ⟨rfl,rfl,rfl⟩)
structure FL (O:qO) (w:World) (bt ba lo n:Nat) (S:CS) (q:Nat):Prop where
 f:aM w bt ba lo n S
 l:O.at_ w q
 a:Apart O bt ba n S
 t:bt<w.heap.size
 ok:l8 n S.f
theorem GU (O:qO) (bt ba lo n:Nat) (S:CS) (va vb:Value) (A B:List Int) (q:Nat) (w:World) (h:FL O w bt ba lo n S q)
  (ha:fI w (O.wr++ba::S.blk n) va A) (hb:fI w (O.wr++ba::S.blk n) vb B) (hA:ji n S.f A) (hB:ji n S.f B) (hd:∀x,x∈A→x∉B) (hq:q≤900000) (hdA:∀x,x∈A→O.dom x) (hdB:∀x,x∈B→O.dom x) :
  Calls Tryz.prog 194 #[.pointer (some ⟨bt,0,none⟩),.iface O.ty (.pointer (some ⟨O.p,0,none⟩)),va,vb] w fun e w'=>
   ∃S' vo X q',e=.returned (.tuple #[vo,.bool true])∧FL O w' bt ba lo n S' q'∧tJ O.lt n ⟨S.f,A,B,[],[],q⟩ S'.f X q'∧G n 0 0 0 0 ⟨S.f,A,B,[],[],q⟩∧aQ w' w.heap.size vo X∧fI w' (O.wr++ba::S'.blk n) vo X∧aa (O.wr++ba::S.blk n) w w'∧(∀g,g∈S'.blk n→g∈S.blk n∨w.heap.size≤g)∧(∀g,vo.ownBlock=some g→g∉S'.blk n):=by
 have g0:=FE (q:=q) h.ok hA hB hd
 refine (IK O bt ba lo n S va vb A B q w h.f h.l h.a h.t ha hb ((Db n S A).2 hA) ((Db n S B).2 hB) (any_false.2 hd) (Pt O.asym (fun x hx=>by
  have e:CC.L ⟨S.f,A,B,[],[],q⟩=A++B:=by unfold CC.L;simp
  rw [e] at hx;rcases List.mem_append.1 hx with hx|hx
  ·exact hdA x hx
  ·exact hdB x hx) g0 rfl h.f.le hq)).mono ?_
 rintro e w' ⟨k,vn,va',vb',vo,rfl,hM,e1,e2,e3⟩;have gk:=(BD (lt:=O.lt) g0 rfl k).1;generalize hC:eU O.lt n k ⟨S.f,A,B,[],[],q⟩=C at *
 obtain ⟨F,A1,B1,N1,O1,q1⟩:=C;simp only at e1 e2 e3;subst e1 e2 e3;obtain ⟨S',hS,hF,hAp,h4,h5,h6⟩:=hM.rT;simp only at hS;subst hS;have hba:=hM.old _ hM.Fg.2;have hlt2:=hF.FJ;have hblk:∀g,g∈S'.blk n→g∈S.blk n∨w.heap.size≤g:=fun g hg=>by
  rcases h4 g hg with h'|h'
  ·rcases List.mem_append.1 h' with h'|h'
   ·exact absurd (O.sub _ h') (hAp.blk g hg)
   ·rcases List.mem_cons.1 h' with rfl|h'
    ·have:=(hF.lD hg).1;omega
    ·exact Or.inl h'
  ·exact Or.inr ω
 refine ⟨S',vo,O1,q1,rfl,⟨hF,hM.O4,hAp,Nat.lt_of_lt_of_le h.t hM.upd.size,gk.f⟩,⟨k,hC⟩,g0,hM.out.mono ω,?_,hM.upd,hblk,h6⟩;obtain ⟨a,cap,rfl,h1,h2,h3⟩:=hM.out.shape;refine ⟨a,cap,rfl,h1,h2,fun j u hj=>?_⟩
 obtain ⟨g,off,rfl,hc⟩:=h3 j u hj;have hg:=hM.out.lt g rfl;refine ⟨g,off,rfl,hg.2,fun hm=>?_,hc⟩
 rcases List.mem_append.1 hm with hm|hm
 ·have:=hM.k0 _ (O.sub _ hm);omega
 ·rcases List.mem_cons.1 hm with rfl|hm
  ·omega
  ·exact h6 g rfl hm
structure Ag (lt:Int→Int→Bool) (n:Nat) (F:CF) (A B:List Int) (q:Nat) (F':CF) (O:List Int) (q':Nat):Prop where
 row:ji n F' O
 ok:l8 n F'
 cnt:q'+O.length=q+(A.length+B.length)
 sub:∀x,x∈O→x∈A∨x∈B
 out:∀x:Nat,(x:Int)∉A→(x:Int)∉B→F'.u x=F.u x∧F'.k x=F.k x
 wt:wt n F' O=wt n F A+wt n F B
 nl:∀y p:Nat,y<n→F'.u y=p→F.u y=p∨(((y:Int)∈A∨(y:Int)∈B)∧((p:Int)∈A∨(p:Int)∈B)∧y≠p∧lt y p=false)
 ro:∀y:Nat,((y:Int)∈A∨(y:Int)∈B)→(y:Int)∈O∨∃p:Nat,p<n∧F'.u y=p
theorem carried {lt:Int→Int→Bool} (has:∀a b,lt a b=true→lt b a=false) {n:Nat} {F:CF} {A B:List Int} {q:Nat} {F':CF} {O:List Int} {q':Nat} (g:G n 0 0 0 0 ⟨F,A,B,[],[],q⟩) (h:tJ lt n ⟨F,A,B,[],[],q⟩ F' O q'):Ag lt n F A B q F' O q':=by
 obtain ⟨k,hk⟩:=h;have g1:=BD (lt:=lt) g rfl k;have r:=EA has g rfl k;rw [hk] at g1 r;obtain ⟨g1,_,g2⟩:=g1;have eL:CC.L ⟨F',[],[],[],O,q'⟩=O:=by unfold CC.L;simp
 have eL0:CC.L ⟨F,A,B,[],[],q⟩=A++B:=by unfold CC.L;simp
 have s:=r.sub;have o:=r.out;have w:=r.wt;rw [eL] at s w g2;rw [eL0] at s o w g2;refine ⟨⟨fun x hx=>g1.rt x (by rw [eL];exact hx),g1.o1⟩,g1.f,by simpa using g2,fun x hx=>by simpa using s x hx,fun x h1 h2=>o x (by simp;exact ⟨h1,h2⟩),?_,fun y p hy hu=>by have:=r.nl y p hy hu;rw [eL0] at this;simpa using this,fun y hy=>by have:=r.ro y (by rw [eL0];simpa using hy);rw [eL] at this;exact this⟩
 rw [w];unfold wt;simp
end Go.Proofs.YtklibcncmbofpaaGreat
namespace Go.Proofs.YtklibcncmbofpaaGreat
def Iu (l:List Int) (x y:Int):List Int:=l.map (fun z=>if z=x then y else z)
theorem l8.split {n:Nat} {S:CS} (h:l8 n S.f) {x:Nat} (hx:x<n) (hr:S.u x=-1):l8 n (fq S x).f:=by
 have nx:∀z,z<n→(x:Int)∉S.k z:=fun z hz hm=>by
  have:=(h.tH z hz _ hm).2.2;rw [π] at this;have e:S.f.u x=S.u x:=rfl;omega
 have uk:∀y z,y<n→z<n→(y:Int)∈S.k z→S.u y=z:=fun y z hy hz hm=>by
  have:=(h.tH z hz _ hm).2.2;rwa [π] at this
 refine ⟨fun z hz y hy=>?_,fun z hz=>?_,fun y hy=>?_,fun z hz i w hw=>?_⟩
 ·show 0≤y∧y<n∧(if ((y.toNat:Nat):Int)∈S.k x then (-1:Int) else S.u y.toNat)=z
  have hy':y∈(if z=x then ([]:List Int) else S.k z):=hy
  by_cases e:z=x
  ·rw [if_pos e] at hy';cases hy'
  ·rw [if_neg e] at hy';obtain ⟨h1,h2,h3⟩:=h.tH z hz y hy';refine ⟨h1,h2,?_⟩;rw [if_neg (fun hm=>?_)]
   ·exact h3
   ·have:=uk y.toNat x ω hx hm;have e3:S.f.u y.toNat=S.u y.toNat:=rfl;omega
 ·show (if z=x then ([]:List Int) else S.k z).Nodup
  split
  ·exact List.nodup_nil
  ·exact h.nd z hz
 ·show (if (y:Int)∈S.k x then (-1:Int) else S.u y)=-1∨∃p:Nat,p<n∧(if (y:Int)∈S.k x then (-1:Int) else S.u y)=p∧(y:Int)∈(if p=x then ([]:List Int) else S.k p)
  by_cases hm:(y:Int)∈S.k x
  ·rw [if_pos hm];exact Or.inl rfl
  ·rw [if_neg hm];rcases h.up y hy with h1|⟨p,hp,h1,h2⟩
   ·exact Or.inl h1
   ·refine Or.inr ⟨p,hp,h1,?_⟩;rw [if_neg (fun e=>by subst e;exact hm h2)];exact h2
 ·have hw':(if z=x then ([]:List Int) else S.k z)[i]?=some w:=hw
  show (if w.toNat=x then ([]:List Int) else S.k w.toNat).length=i
  by_cases e:z=x
  ·rw [if_pos e] at hw';simp at hw'
  ·rw [if_neg e] at hw';have hm:=List.mem_of_getElem? hw';have hr:=h.tH z hz w hm;rw [if_neg (fun e2=>nx z hz (by rw [←e2,show ((w.toNat:Nat):Int)=w by omega];exact hm))]
   exact h.tY z hz i w hw'
theorem vN {l:List Int} (h:l.Nodup) (x y:Int) (hx:x∈l):Iu l x y=setAt l x y:=by
 obtain ⟨i,hi,he,hxi⟩:=rX l x hx;unfold Iu setAt;rw [he,π];apply List.ext_getElem σ;intro j h1 h2;rw [List.getElem_map,List.getElem_set];have hil:l[i]=x:=(List.getElem?_eq_some_iff.1 hxi).2
 by_cases e:i=j
 ·subst e;rw [if_pos hil,if_pos rfl]
 ·rw [if_neg e,if_neg (fun e2=>e ?_)]
  have hj:j<l.length:=by simpa using h1
  have hp:=List.pairwise_iff_getElem.1 (List.nodup_iff_pairwise_ne.1 h);rcases Nat.lt_trichotomy i j with h'|h'|h'
  ·exact absurd (hil.trans e2.symm) (hp i j hi hj h')
  ·exact h'
  ·exact absurd (e2.trans hil.symm) (hp j i hj hi h')
theorem nz {l:List Int} (h:l.Nodup) {x y z:Int} (hx:x∈l):z∈setAt l x y↔z=y∨(z∈l∧z≠x):=by
 rw [←vN h x y hx];unfold Iu;rw [List.mem_map];constructor
 ·rintro ⟨w,hw,rfl⟩
  by_cases e:w=x
  ·rw [if_pos e];exact Or.inl rfl
  ·rw [if_neg e];exact Or.inr ⟨hw,e⟩
 ·rintro (rfl|⟨h1,h2⟩)
  ·exact ⟨x,hx,by rw [if_pos rfl]⟩
  ·exact ⟨z,h1,by rw [if_neg h2]⟩
theorem C9 {l:List Int} (h:l.Nodup) {x y z:Int} (hx:x∈l) {i:Nat} (hz:(setAt l x y)[i]?=some z):(l[i]?=some x∧z=y)∨(l[i]?=some z∧z≠x):=by
 rw [←vN h x y hx] at hz;unfold Iu at hz;rw [List.getElem?_map] at hz;cases hq:l[i]? with
 | none=>rw [hq] at hz;cases hz
 | some w=>
  rw [hq] at hz;simp at hz
  by_cases e:w=x
  ·rw [if_pos e] at hz;subst e;exact Or.inl ⟨rfl,hz.symm⟩
  ·rw [if_neg e] at hz;subst hz;exact Or.inr ⟨rfl,e⟩
theorem uT {l:List Int} (h:l.Nodup) {x y:Int} (hx:x∈l) (hy:y∉l):(setAt l x y).Nodup:=by
 rw [←vN h x y hx];unfold Iu;rw [List.nodup_iff_pairwise_ne,List.pairwise_map];refine (List.nodup_iff_pairwise_ne.1 h).imp_of_mem (fun {a b} ha hb hab=>?_)
 by_cases e1:a=x
 ·rw [if_pos e1]
  by_cases e2:b=x
  ·exact absurd (e1.trans e2.symm) hab
  ·rw [if_neg e2];intro e;subst e;exact hy hb
 ·rw [if_neg e1]
  by_cases e2:b=x
  ·rw [if_pos e2];intro e;subst e;exact hy ha
  ·rw [if_neg e2];exact hab
theorem l8.lift {n:Nat} {S:CS} (h:l8 n S.f) {x p:Nat} {above:Int} (ok:xe n S x p above):l8 n (fD S x p above).f:=by
 have hx:=ok.hx;have hp:=ok.hp;have hne:=ok.ne;have uk:∀y z:Nat,y<n→z<n→(y:Int)∈S.k z→S.u y=z:=fun y z hy hz hm=>by
  have:=(h.tH z hz _ hm).2.2;rwa [π] at this
 have rg:∀z,z<n→∀w,w∈S.k z→∃y:Nat,w=y∧y<n∧S.u y=z:=fun z hz w hw=>by
  obtain ⟨h1,h2,h3⟩:=h.tH z hz w hw;exact ⟨w.toNat,ω,ω,h3⟩
 have dg:∀y z:Nat,z<n→(y:Int)∈S.k z→(S.k y).length<(S.k z).length:=fun y z hz hm=>by
  obtain ⟨i,hi,he⟩:=List.getElem_of_mem hm;have hge:(S.k z)[i]?=some (y:Int):=by rw [List.getElem?_eq_getElem hi,he]
  have:=h.tY z hz i (y:Int) hge;rw [π] at this;have this':(S.k y).length=i:=this;have hi':i<(S.k z).length:=hi;omega
 have pk:(p:Int)∉S.k p:=h.self hp;have px:(p:Int)∉S.k x:=fun hm=>by
  have h1:=dg p x hx hm;have h2:=dg x p hp ok.mem;omega
 have ux:S.u x=p:=ok.up;have up:S.u p=above:=ok.ab;have nd:=h.nd p hp;have top:∀q:Nat,(q:Int)=above→q<n∧q≠x∧q≠p∧(p:Int)∈S.k q:=fun q hq=>by
  rcases ok.top with e|⟨q',e,h1,h2,h3,h4⟩
  ·omega
  ·obtain rfl:q=q':=ω;exact ⟨h1,h2,h3,h4⟩
 have K:∀z:Nat,(fD S x p above).f.k z=if z=x then setAt (S.k p) x p else if z=p then S.k x else if (z:Int)=above then setAt (S.k z) p x else S.k z:=fun z=>rfl
 have U:∀z:Nat,(fD S x p above).f.u z=if z=x then above else if (z:Int)∈S.k x then (p:Int) else if (z:Int)∈setAt (S.k p) x p then (x:Int) else S.u z:=fun z=>rfl
 have mo:∀z:Int,z∈setAt (S.k p) x p↔z=p∨(z∈S.k p∧z≠x):=fun z=>nz nd ok.mem
 have D:∀y:Nat,((fD S x p above).f.k y).length=if y=x then (S.k p).length else if y=p then (S.k x).length else (S.k y).length:=fun y=>by
  rw [K]
  split
  ·rw [iQ]
  ·split
   ·rfl
   ·split
    ·rw [iQ]
    ·rfl
 have U1:∀y:Nat,y<n→(y:Int)∈S.k x→(fD S x p above).f.u y=p:=fun y hy hm=>by
  rw [U,if_neg (fun e=>by subst e;exact h.self hx hm),if_pos hm]
 have U2:∀y:Nat,y<n→(y:Int)∈setAt (S.k p) x p→(fD S x p above).f.u y=x:=fun y hy hm=>by
  rcases (mo y).1 hm with e|⟨h1,h2⟩
  ·obtain rfl:y=p:=ω;rw [U,if_neg (Ne.symm hne),if_neg px,if_pos hm]
  ·rw [U,if_neg (fun e=>h2 (by rw [e])),if_neg (fun hm2=>by have:=uk y x hy hx hm2;have:=uk y p hy hp h1;omega),if_pos hm]
 have U3:∀y:Nat,y<n→y≠x→y≠p→S.u y≠x→S.u y≠p→(fD S x p above).f.u y=S.u y:=fun y hy h1 h2 h3 h4=>by
  rw [U,if_neg h1,if_neg (fun hm=>h3 (uk y x hy hx hm)),if_neg (fun hm=>by
   rcases (mo y).1 hm with e|⟨h5,_⟩
   ·omega
   ·exact h4 (uk y p hy hp h5))]
 refine ⟨fun z hz w hw=>?_,fun z hz=>?_,fun y hy=>?_,fun z hz i w hw=>?_⟩
 ·rw [K] at hw
  split at hw
  ·rename_i e;subst e
   have hwm:=hw;rcases (mo w).1 hw with rfl|⟨h1,h2⟩
   ·exact ⟨ω,ω,by rw [π];exact U2 p hp hwm⟩
   ·obtain ⟨y,rfl,hy,_⟩:=rg p hp w h1;exact ⟨ω,ω,by rw [π];exact U2 y hy hwm⟩
  ·rename_i hzx
   split at hw
   ·rename_i e;subst e
    obtain ⟨y,rfl,hy,_⟩:=rg x hx w hw;exact ⟨ω,ω,by rw [π];exact U1 y hy hw⟩
   ·rename_i hzp
    split at hw
    ·rename_i e
     obtain ⟨_,_,_,hm⟩:=top z e;rcases (nz (h.nd z hz) hm).1 hw with rfl|⟨h1,h2⟩
     ·exact ⟨ω,ω,by rw [π,U,if_pos rfl];exact e.symm⟩
     ·obtain ⟨y,rfl,hy,hu⟩:=rg z hz w h1;have hyx:y≠x:=fun e=>by subst e;omega
      exact ⟨ω,ω,by rw [π,U3 y hy hyx (fun e=>h2 (by rw [e])) ω ω];exact hu⟩
    ·rename_i hza
     obtain ⟨y,rfl,hy,hu⟩:=rg z hz w hw;have hyx:y≠x:=fun e=>by subst e;omega
     have hyp:y≠p:=fun e=>by subst e;omega
     exact ⟨ω,ω,by rw [π,U3 y hy hyx hyp ω ω];exact hu⟩
 ·rw [K]
  split
  ·exact uT nd ok.mem pk
  ·split
   ·exact h.nd x hx
   ·split
    ·rename_i e
     obtain ⟨h1,h2,h3,hm⟩:=top z e;exact uT (h.nd z hz) hm (fun hm2=>by have:=uk x z hx hz hm2;omega)
    ·exact h.nd z hz
 ·by_cases hyx:y=x
  ·subst hyx;rw [U,if_pos rfl];rcases ok.top with e|⟨q,e,h1,h2,h3,h4⟩
   ·exact Or.inl e
   ·refine Or.inr ⟨q,h1,e,?_⟩;rw [K,if_neg h2,if_neg h3,if_pos e.symm];exact (nz (h.nd q h1) h4).2 (Or.inl rfl)
  ·by_cases hm1:(y:Int)∈S.k x
   ·refine Or.inr ⟨p,hp,U1 y hy hm1,?_⟩;rw [K,if_neg (Ne.symm hne),if_pos rfl];exact hm1
   ·by_cases hm2:(y:Int)∈setAt (S.k p) x p
    ·refine Or.inr ⟨x,hx,U2 y hy hm2,?_⟩;rw [K,if_pos rfl];exact hm2
    ·have e:(fD S x p above).f.u y=S.u y:=by rw [U,if_neg hyx,if_neg hm1,if_neg hm2]
     rw [e];rcases h.up y hy with h1|⟨r,hr,h1,h2⟩
     ·exact Or.inl h1
     ·refine Or.inr ⟨r,hr,h1,?_⟩;have hrx:r≠x:=fun e=>by subst e;exact hm1 h2
      have hrp:r≠p:=fun e=>by subst e;exact hm2 ((mo y).2 (Or.inr ⟨h2,fun e=>hyx ω⟩))
      rw [K,if_neg hrx,if_neg hrp]
      split
      ·rename_i e
       obtain ⟨_,_,_,hm⟩:=top r e;exact (nz (h.nd r hr) hm).2 (Or.inr ⟨h2,fun e2=>hm2 ((mo y).2 (Or.inl e2))⟩)
      ·exact h2
 ·have other:∀ (z:Nat) (w:Int),z<n→z≠x→(S.k z)[i]?=some w→w≠p→w≠x→((fD S x p above).f.k w.toNat).length=i:=fun z w hz _ hw h1 h2=>by
   obtain ⟨y,rfl,hy,_⟩:=rg z hz w (List.mem_of_getElem? hw);rw [π,D,if_neg (fun e=>h2 (by rw [e])),if_neg (fun e=>h1 (by rw [e]))]
   have:=h.tY z hz i (y:Int) hw;rwa [π] at this
  have xi:∀i,(S.k p)[i]?=some (x:Int)→(S.k x).length=i:=fun i hi=>by
   have:=h.tY p hp i (x:Int) hi;rwa [π] at this
  rw [K] at hw
  split at hw
  ·rename_i e;subst e
   rcases C9 nd ok.mem hw with ⟨h1,rfl⟩|⟨h1,h2⟩
   ·rw [π,D,if_neg (Ne.symm hne),if_pos rfl];exact xi i h1
   ·exact other p w hp (Ne.symm hne) h1 (fun e=>pk (by rw [←e];exact List.mem_of_getElem? h1)) h2
  ·rename_i hzx
   split at hw
   ·rename_i e;subst e
    have hm:=List.mem_of_getElem? hw;obtain ⟨y,rfl,hy,_⟩:=rg x hx w hm;rw [π,D,if_neg (fun e=>by subst e;exact h.self hx hm),if_neg (fun e=>by subst e;exact px hm)]
    have:=h.tY x hx i (y:Int) hw;rwa [π] at this
   ·rename_i hzp
    split at hw
    ·rename_i e
     obtain ⟨_,_,_,hm⟩:=top z e;rcases C9 (h.nd z hz) hm hw with ⟨h1,rfl⟩|⟨h1,h2⟩
     ·rw [π,D,if_pos rfl];have:=h.tY z hz i (p:Int) h1;rwa [π] at this
     ·exact other z w hz hzx h1 h2 (fun e2=>by have:=uk x z hx hz (by rw [←e2];exact List.mem_of_getElem? h1);omega)
    ·rename_i hza
     have hm:=List.mem_of_getElem? hw;exact other z w hz hzx hw (fun e2=>by have:=uk p z hp hz (by rw [←e2];exact hm);omega) (fun e2=>by have:=uk x z hx hz (by rw [←e2];exact hm);omega)
theorem Fu {n:Nat} {S:CS} (h:l8 n S.f) {x:Nat} (hx:x<n) {p:Nat} (hp:p<n) (hu:S.u x=p) (hm:(x:Int)∈S.k p):xe n S x p (S.u p):=by
 have dg:∀y z:Nat,z<n→(y:Int)∈S.k z→(S.k y).length<(S.k z).length:=fun y z hz hm=>by
  obtain ⟨i,hi,he⟩:=List.getElem_of_mem hm;have hge:(S.k z)[i]?=some (y:Int):=by rw [List.getElem?_eq_getElem hi,he]
  have:=h.tY z hz i (y:Int) hge;rw [π] at this;have this':(S.k y).length=i:=this;omega
 refine ⟨hx,hp,fun e=>by subst e;exact h.self hx hm,hu,rfl,hm,fun k hk=>by have:=h.tH x hx k hk;omega,fun k hk=>by have:=h.tH p hp k hk;omega,?_⟩
 rcases h.up p hp with h1|⟨q,hq,h1,h2⟩
 ·exact Or.inl h1
 ·have d1:=dg x p hp hm;have d2:=dg p q hq h2;exact Or.inr ⟨q,h1,hq,fun e=>by subst e;omega,fun e=>by subst e;omega,h2⟩
theorem KX (S:CS) (x p:Nat) (above:Int) (y:Nat):((fD S x p above).k y).length=if y=x then (S.k p).length else if y=p then (S.k x).length else (S.k y).length:=by
 show (if y=x then setAt (S.k p) x p else if y=p then S.k x else if (y:Int)=above then setAt (S.k y) p x else S.k y).length=_
 split
 ·rw [iQ]
 ·split
  ·rfl
  ·split
   ·rw [iQ]
   ·rfl
structure FH (n:Nat) (F:CF) (hom:Nat→Int) (L:Nat→Nat→Prop):Prop where
 f:l8 n F
 home:∀y p:Nat,y<n→F.u y=p→hom y=hom p∧0<hom y
 ord:∀y p:Nat,y<n→F.u y=p→L p y
 alone:∀y:Nat,y<n→¬0<hom y→F.u y=-1∧F.k y=[]
theorem l8.above {n:Nat} {F:CF} (h:l8 n F) {y p:Nat} (hy:y<n) (hu:F.u y=p):p<n∧(y:Int)∈F.k p:=by
 rcases h.up y hy with h1|⟨q,hq,h1,h2⟩
 ·omega
 ·obtain rfl:q=p:=ω;exact ⟨hq,h2⟩
theorem l8.below {n:Nat} {F:CF} (h:l8 n F) {p:Nat} (hp:p<n) {z:Int} (hz:z∈F.k p):∃y:Nat,z=y∧y<n∧F.u y=p∧(F.k y).length<(F.k p).length:=by
 obtain ⟨r1,r2,r3⟩:=h.tH p hp z hz;obtain ⟨i,hi,he⟩:=List.getElem_of_mem hz;have hc:=h.tY p hp i z (by rw [List.getElem?_eq_getElem hi,he])
 obtain ⟨y,rfl⟩:=Int.eq_ofNat_of_zero_le r1;rw [π] at r3 hc;exact ⟨y,rfl,ω,r3,ω⟩
theorem l8.GA {n:Nat} {F:CF} (h:l8 n F) {y p:Nat} (hy:y<n) (hu:F.u y=p):(F.k y).length<(F.k p).length:=by
 obtain ⟨h1,h2⟩:=h.above hy hu;obtain ⟨z,e,_,_,hd⟩:=h.below h1 h2;obtain rfl:y=z:=ω;exact hd
theorem ji.ext {n:Nat} {F F':CF} {l:List Int} (h:ji n F l) (e:∀x,x∈l→F'.u x.toNat=F.u x.toNat∧F'.k x.toNat=F.k x.toNat):ji n F' l:=by
 refine ⟨fun x hx=>?_,h.2.imp_of_mem (fun {a b} ha hb hab=>?_)⟩
 ·have:=h.1 x hx;exact ⟨this.1,this.2.1,by rw [(e x hx).1];exact this.2.2⟩
 ·unfold bM at hab ⊢;rw [(e a ha).2,(e b hb).2];exact hab
theorem MC {n:Nat} {F F':CF} {x:Int} (e:F'.k x.toNat=F.k x.toNat):bM n F' x=bM n F x:=by unfold bM;rw [e]
theorem LF {n:Nat} {F:CF} {hom:Nat→Int} {L:Nat→Nat→Prop} {lt:Int→Int→Bool} {h:Int} {A0 B0:List Int} {q:Nat} {F':CF} {O:List Int} {q':Nat} (H:FH n F hom L)
  (hL:∀y p:Nat,y<n→p<n→hom y=h→hom p=h→y≠p→lt y p=false→L p y) (h1:1≤h)
  (m:∀y:Nat,y<n∧F.u y=-1∧hom y=h↔(y:Int)∈A0∨(y:Int)∈B0) (C:Ag lt n F A0 B0 q F' O q') :
  FH n F' hom L∧(∀y:Nat,(y:Int)∈O↔y<n∧F'.u y=-1∧hom y=h)∧(∀y:Nat,y<n→hom y≠h→F'.u y=F.u y∧F'.k y=F.k y):=by
 have far:∀y:Nat,y<n→hom y≠h→F'.u y=F.u y∧F'.k y=F.k y:=fun y hy hh=>C.out y (fun hm=>hh ((m y).2 (Or.inl hm)).2.2) (fun hm=>hh ((m y).2 (Or.inr hm)).2.2)
 have key:∀y p:Nat,y<n→F'.u y=p→F.u y=p∨(y<n∧p<n∧hom y=h∧hom p=h∧y≠p∧lt y p=false):=fun y p hy hu=>by
  rcases C.nl y p hy hu with e|⟨k1,k2,k3,k4⟩
  ·exact Or.inl e
  ·have a1:=(m y).2 k1;have a2:=(m p).2 k2;exact Or.inr ⟨hy,a2.1,a1.2.2,a2.2.2,k3,k4⟩
 refine ⟨⟨C.ok,fun y p hy hu=>?_,fun y p hy hu=>?_,fun y hy hh=>?_⟩,fun y=>⟨fun hm=>?_,fun hm=>?_⟩,far⟩
 ·rcases key y p hy hu with e|⟨_,_,k1,k2,_,_⟩
  ·exact H.home y p hy e
  ·rw [k1,k2];exact ⟨rfl,ω⟩
 ·rcases key y p hy hu with e|⟨k0,kp,k1,k2,k3,k4⟩
  ·exact H.ord y p hy e
  ·exact hL y p k0 kp k1 k2 k3 k4
 ·have:=far y hy ω;rw [this.1,this.2];exact H.alone y hy hh
 ·have r:=C.row.1 _ hm;have a:=(m y).2 (C.sub _ hm);exact ⟨a.1,by simpa using r.2.2,a.2.2⟩
 ·obtain ⟨hy,hu,hh⟩:=hm
  by_cases hAB:(y:Int)∈A0∨(y:Int)∈B0
  ·rcases C.ro y hAB with h2|⟨p,hp,h2⟩
   ·exact h2
   ·omega
  ·have h2:=C.out y (fun h=>hAB (Or.inl h)) (fun h=>hAB (Or.inr h))
   exact absurd ((m y).1 ⟨hy,by rw [←h2.1];exact hu,hh⟩) hAB
structure BG where
 F:CF
 R:Nat→List Int
structure RH (n:Nat) (G:BG) (hom:Nat→Int):Prop where
 row:∀h,ji n G.F (G.R h)
 mem:∀h y:Nat,(y:Int)∈G.R h↔1≤h∧y<n∧G.F.u y=-1∧hom y=h
def BG.none:BG:=⟨CS.none.f,fun _=>[]⟩
def bJ (R:Nat→List Int) (h:Nat) (l:List Int):Nat→List Int:=fun k=>if k=h then l else R k
def iY (lt:Int→Int→Bool) (n:Nat) (F:CF) (A B:List Int):CC:=eU lt n (n+1) ⟨F,A,B,[],[],0⟩
theorem BX {lt:Int→Int→Bool} {n:Nat} {F:CF} {A B:List Int} (g:G n 0 0 0 0 ⟨F,A,B,[],[],0⟩) (has:∀a b,lt a b=true→lt b a=false) (hn:n≤65536):(iY lt n F A B).done:=by
 have r:=Pt (dom:=fun _=>True) has (fun x hx=>trivial) g rfl hn (Nat.zero_le _) (n+1)
 unfold iY CC.done;refine ⟨?_,?_,?_⟩
 all_goals
  apply Classical.byContradiction;intro hne;have:=r.ends (by first|exact Or.inl hne|exact Or.inr (Or.inl hne)|exact Or.inr (Or.inr hne))
  omega
theorem N8 {lt:Int→Int→Bool} {n:Nat} {F:CF} {A B:List Int} {F':CF} {O:List Int} {q:Nat} (g:G n 0 0 0 0 ⟨F,A,B,[],[],0⟩) (has:∀a b,lt a b=true→lt b a=false) (hn:n≤65536) (h:tJ lt n ⟨F,A,B,[],[],0⟩ F' O q) :
  (iY lt n F A B).F=F'∧(iY lt n F A B).O=O∧(iY lt n F A B).q=q:=by
 have:=h.eq (m:=n+1) (BX g has hn);unfold iY;rw [this];exact ⟨rfl,rfl,rfl⟩
theorem OT {lt:Int→Int→Bool} {n:Nat} {F:CF} {A B:List Int} (g:G n 0 0 0 0 ⟨F,A,B,[],[],0⟩) (has:∀a b,lt a b=true→lt b a=false) (hn:n≤65536):Ag lt n F A B 0 (iY lt n F A B).F (iY lt n F A B).O (iY lt n F A B).q:=by
 refine carried has g ⟨n+1,?_⟩;obtain ⟨h1,h2,h3⟩:=BX g has hn;unfold iY at *
 generalize eU lt n (n+1) ⟨F,A,B,[],[],0⟩=C at *
 obtain ⟨F1,A1,B1,N1,O1,q1⟩:=C;simp only at h1 h2 h3;subst h1 h2 h3
 rfl
def vg (lt:Int→Int→Bool) (n h:Nat) (l:List Int) (G:BG):BG:=⟨(iY lt n G.F (G.R h) l).F,bJ G.R h (iY lt n G.F (G.R h) l).O⟩
theorem yS {n:Nat} {G:BG} {hom:Nat→Int} {L:Nat→Nat→Prop} {lt:Int→Int→Bool} {h:Nat} {l:List Int} (H:FH n G.F hom L) (hn:n≤65536) (has:∀a b,lt a b=true→lt b a=false)
  (hL:∀y p:Nat,y<n→p<n→hom y=h→hom p=h→y≠p→lt y p=false→L p y) (h1:1≤h)
  (hrow:∀k,ji n G.F (G.R k)) (hmem:∀k y:Nat,k≠h→((y:Int)∈G.R k↔1≤k∧y<n∧G.F.u y=-1∧hom y=k))
  (m:∀y:Nat,y<n∧G.F.u y=-1∧hom y=h↔(y:Int)∈G.R h∨(y:Int)∈l) (hl:ji n G.F l) (hd:∀x,x∈G.R h→x∉l) :
  FH n (vg lt n h l G).F hom L∧RH n (vg lt n h l G) hom∧(∀k,wt n (vg lt n h l G).F ((vg lt n h l G).R k)=if k=h then wt n G.F (G.R h)+wt n G.F l else wt n G.F (G.R k))∧
   (iY lt n G.F (G.R h) l).q+((vg lt n h l G).R h).length=(G.R h).length+l.length:=by
 have g:=FE (q:=0) H.f (hrow h) hl hd;have C:=OT g has hn;obtain ⟨h2,h3,h4⟩:=LF H hL ω m C;have far:∀k:Nat,k≠h→∀x,x∈G.R k→(iY lt n G.F (G.R h) l).F.u x.toNat=G.F.u x.toNat∧(iY lt n G.F (G.R h) l).F.k x.toNat=G.F.k x.toNat:=fun k hk x hx=>by
  have hr:=(hrow k).1 x hx;have:=(hmem k x.toNat hk).1 (by rw [show ((x.toNat:Nat):Int)=x by omega];exact hx)
  exact h4 x.toNat this.2.1 ω
 unfold vg;refine ⟨h2,⟨fun k=>?_,fun k y=>?_⟩,fun k=>?_,?_⟩
 ·simp only [bJ]
  split
  ·exact C.row
  ·rename_i hk
   exact (hrow k).ext (far k hk)
 ·simp only [bJ]
  split
  ·rename_i hk
   subst hk;rw [h3 y];exact ⟨fun a=>⟨h1,a⟩,fun a=>a.2⟩
  ·rename_i hk
   rw [hmem k y hk];constructor
   ·rintro ⟨a1,a2,a3,a4⟩;exact ⟨a1,a2,by rw [(h4 y a2 ω).1];exact a3,a4⟩
   ·rintro ⟨a1,a2,a3,a4⟩;exact ⟨a1,a2,by rw [←(h4 y a2 ω).1];exact a3,a4⟩
 ·simp only [bJ]
  split
  ·exact C.wt
  ·rename_i hk
   exact xB (fun x hx=>MC (far k hk x hx).2)
 ·simp only [bJ,if_true];have:=C.cnt;omega
theorem Gg:∀d:Nat,((List.range d).map (fun i=>2 ^ i)).sum+1=2 ^ d
 | 0=>rfl
 | d+1=>by
  have ih:=Gg d;rw [List.range_succ,List.map_append,List.sum_append,Nat.pow_succ];simp only [List.map_cons,List.map_nil,List.sum_cons,List.sum_nil];omega
def dL (F:CF) (x:Nat):CF:=⟨fun y=>if y=x then [] else F.k y,fun y=>if (y:Int)∈F.k x then -1 else F.u y⟩
theorem vL (S:CS) (x:Nat):(fq S x).f=dL S.f x:=rfl
theorem Mt {n:Nat} {F:CF} (ok:l8 n F) {x:Nat} (hx:x<n) {F':CF} (e:∀z,z∈F.k x→bM n F' z=bM n F z):wt n F' (F.k x)+1=2 ^ (F.k x).length:=by
 rw [←Gg]
 congr 1
 rw [xB e];unfold wt
 congr 1
 apply List.ext_getElem σ;intro i h1 h2;rw [List.getElem_map,List.getElem_map,List.getElem_range];have hi:i<(F.k x).length:=by simpa using h1
 have hm:(F.k x)[i]∈F.k x:=List.getElem_mem hi;have hc:=ok.tY x hx i _ (List.getElem?_eq_getElem hi);have hr:=ok.tH x hx _ hm;unfold bM;rw [if_pos ⟨hr.1,hr.2.1⟩,hc];simp
theorem Kt {n:Nat} {F:CF} (ok:l8 n F) {x:Nat} (hx:x<n) {F':CF} (e:∀z,z∈F.k x→bM n F' z=bM n F z) (u:∀z,z∈F.k x→F'.u z.toNat=-1):ji n F' (F.k x):=by
 refine ⟨fun z hz=>⟨(ok.tH x hx z hz).1,(ok.tH x hx z hz).2.1,u z hz⟩,?_⟩
 rw [List.pairwise_iff_getElem];intro i j hi hj hij;have d:∀i (hi:i<(F.k x).length),bM n F' (F.k x)[i]=i:=fun i hi=>by
  have hm:(F.k x)[i]∈F.k x:=List.getElem_mem hi;have hc:=ok.tY x hx i _ (List.getElem?_eq_getElem hi);have hr:=ok.tH x hx _ hm;rw [e _ hm];unfold bM;rw [if_pos ⟨hr.1,hr.2.1⟩,hc]
 rw [d i hi,d j hj];omega
theorem l8.Lb {n:Nat} {F:CF} (h:l8 n F) {x:Nat} (hx:x<n) (hr:F.u x=-1):l8 n (dL F x):=by
 have:=l8.split (n:=n) (S:=⟨fun _=>.slice none 0 0,F.k,F.u⟩) h hx hr
 exact this
end Go.Proofs.YtklibcncmbofpaaGreat
