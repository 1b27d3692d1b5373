/-
  Lemmas for RankSorts: KarPl, KarPl2. Conditions: those of each lemma.
-/
import Derived.Test.YtklibcncmbofpaaGreatP27
set_option maxHeartbeats 8000000
set_option maxRecDepth 10000
set_option linter.unusedVariables false
set_option linter.unusedSimpArgs false
namespace Go.Proofs.YtklibcncmbofpaaGreat
theorem oO:∀ (n:Nat) (l:List Int),l.Nodup→(∀x,x∈l→0≤x∧x<n)→l.length≤n
 | 0,l,_,h=>by
  cases l with
  | nil=>simp
  | cons x r=>have:=h x σ;omega
 | n+1,l,hn,h=>by
  have h1:=oO n (l.filter (fun x=>x != (n:Int))) (hn.filter _) (fun x hx=>by
   simp only [List.mem_filter] at hx;have:=h x hx.1;have h2:x≠n:=by simpa using hx.2
   omega)
  have h2:l.length≤(l.filter (fun x=>x != (n:Int))).length+1:=by
   clear h1 h
   induction l with
   | nil=>simp
   | cons y r ih=>
    rw [List.nodup_cons] at hn
    by_cases hy:y=n
    ·subst hy;have e:r.filter (fun x=>x != (n:Int))=r:=by
      rw [List.filter_eq_self];intro a ha;simp;intro e;subst e;exact hn.1 ha
     rw [List.filter_cons_of_neg σ,e];simp
    ·have:=ih hn.2;rw [List.filter_cons_of_pos (by simpa using hy)]
     simp only [List.length_cons];omega
  omega
structure l8 (n:Nat) (F:CF):Prop where
 tH:∀x,x<n→∀y,y∈F.k x→0≤y∧y<n∧F.u y.toNat=x
 nd:∀x,x<n→(F.k x).Nodup
 up:∀y,y<n→F.u y=-1∨∃p:Nat,p<n∧F.u y=p∧(y:Int)∈F.k p
 tY:∀x,x<n→∀i z,(F.k x)[i]?=some z→(F.k z.toNat).length=i
theorem K5 (n:Nat):l8 n CS.none.f:=⟨fun x _ y hy=>(by cases hy),fun x _=>List.nodup_nil,fun y _=>Or.inl rfl,fun x _ i z h=>by simp [CS.none,CS.f] at h⟩
theorem l8.self {n:Nat} {F:CF} (h:l8 n F) {x:Nat} (hx:x<n):(x:Int)∉F.k x:=fun hm=>by
 obtain ⟨i,hi,he⟩:=List.getElem_of_mem hm;have:=h.tY x hx i x (by rw [List.getElem?_eq_getElem hi,he])
 simp at this;omega
theorem l8.len {n:Nat} {F:CF} (h:l8 n F) {x:Nat} (hx:x<n):(F.k x).length+1≤n:=by
 have:=oO n ((x:Int)::F.k x) (List.nodup_cons.2 ⟨h.self hx,h.nd x hx⟩) (fun y hy=>by
  rcases List.mem_cons.1 hy with rfl|hy
  ·omega
  ·have:=h.tH x hx y hy;omega)
 simpa using this
theorem l8.link {n:Nat} {F:CF} (h:l8 n F) {a b:Nat} (ha:a<n) (hb:b<n) (hne:a≠b) (ra:F.u a=-1) (rb:F.u b=-1) (hd:(F.k a).length=(F.k b).length):l8 n (fC F a b):=by
 have nb:∀x,x<n→(b:Int)∉F.k x:=fun x hx hm=>by
  have:=(h.tH x hx b hm).2.2;simp at this;omega
 have na:∀x,x<n→(a:Int)∉F.k x:=fun x hx hm=>by
  have:=(h.tH x hx a hm).2.2;simp at this;omega
 refine ⟨fun x hx y hy=>?_,fun x hx=>?_,fun y hy=>?_,fun x hx i z hz=>?_⟩
 ·unfold fC at hy ⊢;simp only at hy ⊢
  split at hy
  ·rename_i e
   subst e;rcases List.mem_append.1 hy with hy|hy
   ·obtain ⟨h1,h2,h3⟩:=h.tH x hx y hy;refine ⟨h1,h2,?_⟩;rw [if_neg (fun e=>by rw [e,rb] at h3;omega)];exact h3
   ·simp at hy;subst hy;exact ⟨ω,ω,σ⟩
  ·obtain ⟨h1,h2,h3⟩:=h.tH x hx y hy;refine ⟨h1,h2,?_⟩;rw [if_neg (fun e=>by rw [e,rb] at h3;omega)];exact h3
 ·unfold fC;simp only
  split
  ·rw [List.nodup_append];exact ⟨h.nd a ha,σ,fun y hy z hz e=>by simp at hz;subst hz;subst e;exact nb a ha hy⟩
  ·exact h.nd x hx
 ·unfold fC;simp only
  by_cases hyb:y=b
  ·subst hyb;exact Or.inr ⟨a,ha,σ,σ⟩
  ·rw [if_neg hyb];rcases h.up y hy with h1|⟨p,hp,h1,h2⟩
   ·exact Or.inl h1
   ·refine Or.inr ⟨p,hp,h1,?_⟩
    split
    ·rename_i e;subst e;exact List.mem_append.2 (Or.inl h2)
    ·exact h2
 ·have kz:∀z,z∈F.k x→(fC F a b).k z.toNat=F.k z.toNat:=fun z hz=>by
   unfold fC;simp only
   rw [if_neg (fun e=>by
    have:=h.tH x hx z hz
    exact na x hx (by rw [←e,show ((z.toNat:Nat):Int)=z by omega];exact hz))]
  have hz':=hz;unfold fC at hz';simp only at hz'
  split at hz'
  ·rename_i e
   subst e;rcases Nat.lt_or_ge i (F.k x).length with hi|hi
   ·rw [List.getElem?_append_left hi] at hz';rw [kz z (List.mem_of_getElem? hz')];exact h.tY x hx i z hz'
   ·have hil:i=(F.k x).length:=by
     have:=(List.getElem?_eq_some_iff.1 hz').1;simp at this;omega
    subst hil;rw [List.getElem?_append_right (Nat.le_refl _)] at hz';simp at hz';subst hz';unfold fC;simp only [π];rw [if_neg (fun e=>hne ω),hd]
  ·rw [kz z (List.mem_of_getElem? hz')];exact h.tY x hx i z hz'
def CC.L (C:CC):List Int:=C.A++(C.B++(C.N++C.O))
structure G (n ka kb kn ko:Nat) (C:CC):Prop where
 f:l8 n C.F
 rt:∀x,x∈C.L→0≤x∧x<n∧C.F.u x.toNat=-1
 nd:C.L.Nodup
 a1:C.A.Pairwise (fun x y=>bM n C.F x<bM n C.F y)
 a2:∀x,x∈C.A→(ka:Int)≤bM n C.F x
 b1:C.B.Pairwise (fun x y=>bM n C.F x<bM n C.F y)
 b2:∀x,x∈C.B→(kb:Int)≤bM n C.F x
 n1:∀x,x∈C.N→bM n C.F x=kn
 o1:C.O.Pairwise (fun x y=>bM n C.F x<bM n C.F y)
 o2:∀x,x∈C.O→bM n C.F x<ko
theorem og (n k:Nat) (C:CC):(takeA n k C).L.Perm C.L:=by
 obtain ⟨F,A,B,N,O,q⟩:=C;unfold takeA
 split
 ·rename_i x t h
  simp only at h;subst h
  split
  ·unfold CC.L;simp only;rw [List.perm_iff_count];intro y;simp [List.count_append,List.count_cons];omega
  ·exact List.Perm.refl _
 ·exact List.Perm.refl _
theorem nL (n k:Nat) (C:CC):(takeB n k C).L.Perm C.L:=by
 obtain ⟨F,A,B,N,O,q⟩:=C;unfold takeB
 split
 ·rename_i x t h
  simp only at h;subst h
  split
  ·unfold CC.L;simp only;rw [List.perm_iff_count];intro y;simp [List.count_append,List.count_cons];omega
  ·exact List.Perm.refl _
 ·exact List.Perm.refl _
theorem nK (C:CC):(dO C).L.Perm C.L:=by
 obtain ⟨F,A,B,N,O,q⟩:=C;unfold dO
 split
 ·rename_i x h
  simp only at h;subst h;unfold CC.L;simp only;rw [List.perm_iff_count];intro y;simp [List.count_append,List.count_cons]
  try omega
 ·rename_i x y z h
  simp only at h;subst h;unfold CC.L;simp only;rw [List.perm_iff_count];intro y;simp [List.count_append,List.count_cons]
  try omega
 ·exact List.Perm.refl _
theorem FY (n k:Nat) (C:CC):(takeA n k C).F=C.F:=by unfold takeA;split;(split<;>rfl);rfl
theorem Fv (n k:Nat) (C:CC):(takeB n k C).F=C.F:=by unfold takeB;split;(split<;>rfl);rfl
theorem Ga (C:CC):(dO C).F=C.F:=by unfold dO;split<;>rfl
theorem Af {n k:Nat} {C:CC} (h:G n k k k k C):G n (k+1) k k k (takeA n k C):=by
 have hp:=og n k C;have hF:=FY n k C;have rt:=fun x (hx:x∈(takeA n k C).L)=>h.rt x (hp.mem_iff.1 hx)
 have nd:=hp.nodup_iff.2 h.nd;have key:((takeA n k C).A.Pairwise (fun x y=>bM n C.F x<bM n C.F y))∧(∀x,x∈(takeA n k C).A→((k+1:Nat):Int)≤bM n C.F x)∧(takeA n k C).B=C.B∧(∀x,x∈(takeA n k C).N→bM n C.F x=k)∧(takeA n k C).O=C.O:=by
  obtain ⟨F,A,B,N,O,q⟩:=C;have a1:=h.a1;have a2:=h.a2;have n1:=h.n1;simp only at a1 a2 n1;unfold takeA;rcases A with _|⟨x,t⟩
  ·exact ⟨List.Pairwise.nil,fun x hx=>by (cases hx),rfl,n1,rfl⟩
  ·simp only;rw [List.pairwise_cons] at a1;have hx:=a2 x σ
   split
   ·rename_i hd
    refine ⟨a1.2,fun y hy=>?_,rfl,fun y hy=>?_,rfl⟩
    ·have:=a1.1 y hy;omega
    ·simp only at hy;rcases List.mem_append.1 hy with hy|hy
     ·exact n1 y hy
     ·simp at hy;subst hy;exact hd
   ·rename_i hd
    refine ⟨List.pairwise_cons.2 a1,fun y hy=>?_,rfl,n1,rfl⟩
    rcases List.mem_cons.1 hy with rfl|hy
    ·omega
    ·have:=a1.1 y hy;omega
 obtain ⟨k1,k2,k3,k4,k5⟩:=key;rw [←hF] at k1 k2 k4;exact ⟨by rw [hF];exact h.f,fun x hx=>by rw [hF];exact rt x hx,nd,k1,k2,by rw [k3,hF];exact h.b1,by rw [k3,hF];exact h.b2,k4,by rw [k5,hF];exact h.o1,by rw [k5,hF];exact h.o2⟩
theorem AQ {n k:Nat} {C:CC} (h:G n (k+1) k k k C):G n (k+1) (k+1) k k (takeB n k C):=by
 have hp:=nL n k C;have hF:=Fv n k C;have rt:=fun x (hx:x∈(takeB n k C).L)=>h.rt x (hp.mem_iff.1 hx)
 have nd:=hp.nodup_iff.2 h.nd;have key:((takeB n k C).B.Pairwise (fun x y=>bM n C.F x<bM n C.F y))∧(∀x,x∈(takeB n k C).B→((k+1:Nat):Int)≤bM n C.F x)∧(takeB n k C).A=C.A∧(∀x,x∈(takeB n k C).N→bM n C.F x=k)∧(takeB n k C).O=C.O:=by
  obtain ⟨F,A,B,N,O,q⟩:=C;have a1:=h.b1;have a2:=h.b2;have n1:=h.n1;simp only at a1 a2 n1;unfold takeB;rcases B with _|⟨x,t⟩
  ·exact ⟨List.Pairwise.nil,fun x hx=>by (cases hx),rfl,n1,rfl⟩
  ·simp only;rw [List.pairwise_cons] at a1;have hx:=a2 x σ
   split
   ·rename_i hd
    refine ⟨a1.2,fun y hy=>?_,rfl,fun y hy=>?_,rfl⟩
    ·have:=a1.1 y hy;omega
    ·simp only at hy;rcases List.mem_append.1 hy with hy|hy
     ·exact n1 y hy
     ·simp at hy;subst hy;exact hd
   ·rename_i hd
    refine ⟨List.pairwise_cons.2 a1,fun y hy=>?_,rfl,n1,rfl⟩
    rcases List.mem_cons.1 hy with rfl|hy
    ·omega
    ·have:=a1.1 y hy;omega
 obtain ⟨k1,k2,k3,k4,k5⟩:=key;rw [←hF] at k1 k2 k4;exact ⟨by rw [hF];exact h.f,fun x hx=>by rw [hF];exact rt x hx,nd,by rw [k3,hF];exact h.a1,by rw [k3,hF];exact h.a2,k1,k2,k4,by rw [k5,hF];exact h.o1,by rw [k5,hF];exact h.o2⟩
theorem zU {n k:Nat} {C:CC} (h:G n (k+1) (k+1) k k C):G n (k+1) (k+1) k (k+1) (dO C):=by
 have hp:=nK C;have hF:=Ga C;have rt:=fun x (hx:x∈(dO C).L)=>h.rt x (hp.mem_iff.1 hx)
 have nd:=hp.nodup_iff.2 h.nd;have key:(dO C).A=C.A∧(dO C).B=C.B∧(∀x,x∈(dO C).N→x∈C.N)∧((dO C).O=C.O∨∃x,x∈C.N∧(dO C).O=C.O++[x]):=by
  unfold dO
  split
  ·rename_i x hx
   exact ⟨rfl,rfl,fun y hy=>by (cases hy),Or.inr ⟨x,by rw [hx];simp,rfl⟩⟩
  ·rename_i x y z hx
   exact ⟨rfl,rfl,fun u hu=>by rw [hx];exact List.mem_cons_of_mem _ hu,Or.inr ⟨x,by rw [hx];simp,rfl⟩⟩
  ·exact ⟨rfl,rfl,fun y hy=>hy,Or.inl rfl⟩
 obtain ⟨k1,k2,k3,k4⟩:=key;refine ⟨by rw [hF];exact h.f,fun x hx=>by rw [hF];exact rt x hx,nd,by rw [k1,hF];exact h.a1,by rw [k1,hF];exact h.a2,by rw [k2,hF];exact h.b1,by rw [k2,hF];exact h.b2,fun x hx=>by rw [hF];exact h.n1 x (k3 x hx),?_,?_⟩
 ·rw [hF];rcases k4 with e|⟨x,hx,e⟩
  ·rw [e];exact h.o1
  ·rw [e,List.pairwise_append];exact ⟨h.o1,List.pairwise_singleton _ _,fun y hy z hz=>by simp at hz;subst hz;rw [h.n1 z hx];exact h.o2 y hy⟩
 ·rw [hF];intro y hy;rcases k4 with e|⟨x,hx,e⟩
  ·rw [e] at hy;have:=h.o2 y hy;omega
  ·rw [e] at hy;rcases List.mem_append.1 hy with hy|hy
   ·have:=h.o2 y hy;omega
   ·simp at hy;subst hy;rw [h.n1 y hx];omega
theorem vZ {C:CC} (h:C.N.length≤3):(dO C).N=[]∨∃x y,(dO C).N=[x,y]:=by
 obtain ⟨F,A,B,N,O,q⟩:=C;simp only at h
 match N,h with
 | [],_=>exact Or.inl rfl
 | [x],_=>exact Or.inl rfl
 | [x,y],_=>exact Or.inr ⟨x,y,rfl⟩
 | [x,y,z],_=>exact Or.inr ⟨y,z,rfl⟩
 | _::_::_::_::_,h=>simp at h;try omega
theorem dH (n:Nat) (F:CF) {x:Nat} (hx:x<n):bM n F x=(F.k x).length:=by unfold bM;rw [if_pos ω];simp
theorem rW (n:Nat) (F:CF) {a b:Nat} (ha:a<n) (x:Int) (hx:0≤x∧x<n):bM n (fC F a b) x=if x=a then bM n F a+1 else bM n F x:=by
 obtain ⟨y,rfl⟩:=Int.eq_ofNat_of_zero_le hx.1;have hy:y<n:=ω;rw [dH _ _ hy,dH _ _ ha,dH _ _ hy];unfold fC;simp only
 by_cases e:y=a
 ·subst e;simp
 ·rw [if_neg e,if_neg ω]
theorem Dp {n k:Nat} {C:CC} (h:G n (k+1) (k+1) k (k+1) C) {x y:Int} (hN:C.N=[x,y]):∃a b:Nat,x=a∧y=b∧a<n∧b<n∧a≠b∧C.F.u a=-1∧C.F.u b=-1∧(C.F.k a).length=k∧(C.F.k b).length=k:=by
 have hx:=h.rt x (by unfold CC.L;rw [hN];simp)
 have hy:=h.rt y (by unfold CC.L;rw [hN];simp)
 have dx:=h.n1 x (by rw [hN];simp)
 have dy:=h.n1 y (by rw [hN];simp)
 obtain ⟨a,rfl⟩:=Int.eq_ofNat_of_zero_le hx.1;obtain ⟨b,rfl⟩:=Int.eq_ofNat_of_zero_le hy.1;have ha:a<n:=ω;have hb:b<n:=ω;rw [dH _ _ ha] at dx;rw [dH _ _ hb] at dy;refine ⟨a,b,rfl,rfl,ha,hb,fun e=>?_,by simpa using hx.2.2,by simpa using hy.2.2,ω,ω⟩
 subst e;have:=h.nd;unfold CC.L at this;rw [hN] at this;rw [List.nodup_append] at this;have:=this.2.1;rw [List.nodup_append] at this;have:=this.2.1;simp at this
theorem Ib (lt:Int→Int→Bool) (a b:Nat):(iC lt a b=a∧jS lt a b=b)∨(iC lt a b=b∧jS lt a b=a):=by
 unfold iC jS
 split
 ·exact Or.inr ⟨rfl,rfl⟩
 ·exact Or.inl ⟨rfl,rfl⟩
theorem NW {lt:Int→Int→Bool} {n k:Nat} {C:CC} (h:G n (k+1) (k+1) k (k+1) C) (hN:C.N=[]∨∃x y,C.N=[x,y]):G n (k+1) (k+1) (k+1) (k+1) (jY lt C)∧(jY lt C).N.length≤1∧(jY lt C).q+(jY lt C).L.length=C.q+C.L.length:=by
 rcases hN with hN|⟨x,y,hN⟩
 ·have e:jY lt C=C:=by unfold jY;rw [hN]
  rw [e];exact ⟨⟨h.f,h.rt,h.nd,h.a1,h.a2,h.b1,h.b2,fun x hx=>(by rw [hN] at hx;cases hx),h.o1,h.o2⟩,by rw [hN];simp,rfl⟩
 ·obtain ⟨a,b,rfl,rfl,ha,hb,hne,ra,rb,da,db⟩:=Dp h hN;have e:jY lt C={ C with F:=fC C.F (iC lt a b) (jS lt a b),N:=[(iC lt a b:Int)],q:=C.q+1 }:=by unfold jY;rw [hN];simp
  have hm:∀z,z∈C.A++(C.B++C.O)→z∈C.L∧z≠a∧z≠b:=fun z hz=>by
   have hnd:=h.nd;unfold CC.L at hnd ⊢;rw [hN] at hnd ⊢;have hp:(C.A++(C.B++([(a:Int),(b:Int)]++C.O))).Perm ((a:Int)::(b:Int)::(C.A++(C.B++C.O))):=by
    rw [List.perm_iff_count];intro y;simp [List.count_append,List.count_cons];omega
   have hnd2:=hp.nodup_iff.1 hnd;rw [List.nodup_cons,List.nodup_cons] at hnd2;refine ⟨hp.mem_iff.2 (List.mem_cons_of_mem _ (List.mem_cons_of_mem _ hz)),fun e=>?_,fun e=>?_⟩
   ·subst e;exact hnd2.1 (List.mem_cons_of_mem _ hz)
   ·subst e;exact hnd2.2.1 hz
  have hmA:∀z,z∈C.A→z∈C.A++(C.B++C.O):=fun z hz=>by simp [hz]
  have hmB:∀z,z∈C.B→z∈C.A++(C.B++C.O):=fun z hz=>by simp [hz]
  have hmO:∀z,z∈C.O→z∈C.A++(C.B++C.O):=fun z hz=>by simp [hz]
  obtain ⟨hi,lo,ehi,elo,hhi,hlo,hne2,rhi,rlo,dhi,dlo,hhab⟩:∃hi lo,iC lt a b=hi∧jS lt a b=lo∧hi<n∧lo<n∧hi≠lo∧C.F.u hi=-1∧C.F.u lo=-1∧(C.F.k hi).length=k∧(C.F.k lo).length=k∧((hi=a∧lo=b)∨(hi=b∧lo=a)):=by
   rcases Ib lt a b with ⟨h1,h2⟩|⟨h1,h2⟩
   ·exact ⟨a,b,h1,h2,ha,hb,hne,ra,rb,da,db,Or.inl ⟨rfl,rfl⟩⟩
   ·exact ⟨b,a,h1,h2,hb,ha,Ne.symm hne,rb,ra,db,da,Or.inr ⟨rfl,rfl⟩⟩
  have hfar:∀z,z∈C.A++(C.B++C.O)→z≠(hi:Int)∧z≠(lo:Int):=fun z hz=>by
   have:=hm z hz;rcases hhab with ⟨rfl,rfl⟩|⟨rfl,rfl⟩
   ·exact this.2
   ·exact ⟨this.2.2,this.2.1⟩
  have hdeg:∀z,z∈C.A++(C.B++C.O)→bM n (fC C.F hi lo) z=bM n C.F z:=fun z hz=>by
   have hr:=h.rt z (hm z hz).1;rw [rW n C.F hhi z ⟨hr.1,hr.2.1⟩,if_neg (hfar z hz).1]
  rw [e,ehi,elo];have hL:(CC.L { C with F:=fC C.F hi lo,N:=[(hi:Int)],q:=C.q+1 }).Perm ((hi:Int)::(C.A++(C.B++C.O))):=by
   unfold CC.L;simp only;rw [List.perm_iff_count];intro y;simp [List.count_append,List.count_cons];omega
  refine ⟨⟨h.f.link hhi hlo hne2 rhi rlo (by rw [dhi,dlo]),fun z hz=>?_,hL.nodup_iff.2 (List.nodup_cons.2 ⟨fun hm2=>(hfar _ hm2).1 rfl,?_⟩),?_,?_,?_,?_,?_,?_,?_⟩,σ,?_⟩
  ·rcases List.mem_cons.1 (hL.mem_iff.1 hz) with rfl|hz
   ·refine ⟨ω,ω,?_⟩;unfold fC;simp only [π];rw [if_neg hne2];exact rhi
   ·have hr:=h.rt z (hm z hz).1;refine ⟨hr.1,hr.2.1,?_⟩;unfold fC;simp only;rw [if_neg (fun e=>by have:=(hfar z hz).2;omega)]
    exact hr.2.2
  ·have hnd:=h.nd;unfold CC.L at hnd;rw [hN] at hnd;have hp:(C.A++(C.B++([(a:Int),(b:Int)]++C.O))).Perm ((a:Int)::(b:Int)::(C.A++(C.B++C.O))):=by
    rw [List.perm_iff_count];intro y;simp [List.count_append,List.count_cons];omega
   have hnd2:=hp.nodup_iff.1 hnd;rw [List.nodup_cons,List.nodup_cons] at hnd2;exact hnd2.2.2
  ·exact h.a1.imp_of_mem (fun {x y} hx hy hxy=>by rw [hdeg x (hmA x hx),hdeg y (hmA y hy)];exact hxy)
  ·intro x hx
   show _≤bM n (fC C.F hi lo) x
   rw [hdeg x (hmA x hx)];exact h.a2 x hx
  ·exact h.b1.imp_of_mem (fun {x y} hx hy hxy=>by rw [hdeg x (hmB x hx),hdeg y (hmB y hy)];exact hxy)
  ·intro x hx
   show _≤bM n (fC C.F hi lo) x
   rw [hdeg x (hmB x hx)];exact h.b2 x hx
  ·intro x hx;simp at hx;subst hx
   show bM n (fC C.F hi lo) (hi:Int)=_
   rw [rW n C.F hhi hi ω,if_pos rfl,dH n C.F hhi,dhi];omega
  ·exact h.o1.imp_of_mem (fun {x y} hx hy hxy=>by rw [hdeg x (hmO x hx),hdeg y (hmO y hy)];exact hxy)
  ·intro x hx
   show bM n (fC C.F hi lo) x<_
   rw [hdeg x (hmO x hx)];exact h.o2 x hx
  ·unfold CC.L;simp only [List.length_append,List.length_cons,List.length_nil,hN];omega
theorem BD {lt:Int→Int→Bool} {n:Nat} {C0:CC} (h:G n 0 0 0 0 C0) (hN:C0.N=[]):∀k,G n k k k k (eU lt n k C0)∧(eU lt n k C0).N.length≤1∧(eU lt n k C0).q+(eU lt n k C0).L.length=C0.q+C0.L.length
 | 0=>⟨h,by rw [eU,hN];simp,rfl⟩
 | k+1=>by
  obtain ⟨g,h1,h2⟩:=BD (lt:=lt) h hN k;have g1:=Af g;have g2:=AQ g1;have g3:=zU g2;have t1:=(tQ n k (eU lt n k C0)).2;have t2:=(tX n k (takeA n k (eU lt n k C0))).2;have ev:=vZ (C:=takeB n k (takeA n k (eU lt n k C0))) ω;obtain ⟨g4,h3,h4⟩:=NW (lt:=lt) g3 ev;refine ⟨g4,h3,?_⟩;rw [eU];unfold Co;rw [h4,JZ,(nK _).length_eq,(nL _ _ _).length_eq,(og _ _ _).length_eq];exact h2
def wt (n:Nat) (F:CF) (l:List Int):Nat:=(l.map (fun x=>2 ^ (bM n F x).toNat)).sum
theorem zN {n:Nat} {F:CF} {l m:List Int} (h:l.Perm m):wt n F l=wt n F m:=by
 unfold wt;exact (h.map _).sum_nat
theorem xB {n:Nat} {F F':CF} {l:List Int} (h:∀x,x∈l→bM n F x=bM n F' x):wt n F l=wt n F' l:=by
 unfold wt
 congr 1
 exact List.map_congr_left (fun x hx=>by rw [h x hx])
structure RI (lt:Int→Int→Bool) (n:Nat) (C0 C:CC):Prop where
 sub:∀x,x∈C.L→x∈C0.L
 out:∀x:Nat,(x:Int)∉C0.L→C.F.u x=C0.F.u x∧C.F.k x=C0.F.k x
 wt:wt n C.F C.L=wt n C0.F C0.L
 nl:∀y p:Nat,y<n→C.F.u y=p→C0.F.u y=p∨((y:Int)∈C0.L∧(p:Int)∈C0.L∧y≠p∧lt y p=false)
 ro:∀y:Nat,(y:Int)∈C0.L→(y:Int)∈C.L∨∃p:Nat,p<n∧C.F.u y=p
theorem RI.refl (lt:Int→Int→Bool) (n:Nat) (C:CC):RI lt n C C:=⟨fun x h=>h,fun x _=>⟨rfl,rfl⟩,rfl,fun y p _ h=>Or.inl h,fun y h=>Or.inl h⟩
theorem RI.trans {lt:Int→Int→Bool} {n:Nat} {A B C:CC} (h:RI lt n A B) (k:RI lt n B C):RI lt n A C:=
 ⟨fun x hx=>h.sub x (k.sub x hx),fun x hx=>by
  have h1:=h.out x hx;have h2:=k.out x (fun hm=>hx (h.sub _ hm))
  exact ⟨h2.1.trans h1.1,h2.2.trans h1.2⟩,k.wt.trans h.wt,fun y p hy hu=>by
  rcases k.nl y p hy hu with h1|⟨h1,h2,h3,h4⟩
  ·exact h.nl y p hy h1
  ·exact Or.inr ⟨h.sub _ h1,h.sub _ h2,h3,h4⟩,fun y hy=>by
  by_cases hB:(y:Int)∈B.L
  ·exact k.ro y hB
  ·rcases h.ro y hy with h1|⟨p,hp,h1⟩
   ·exact absurd h1 hB
   ·exact Or.inr ⟨p,hp,by rw [(k.out y hB).1];exact h1⟩⟩
theorem RI.perm {lt:Int→Int→Bool} {n:Nat} {C D:CC} (hp:D.L.Perm C.L) (hF:D.F=C.F):RI lt n C D:=
 ⟨fun x hx=>hp.mem_iff.1 hx,fun x _=>by rw [hF];exact ⟨rfl,rfl⟩,by rw [hF];exact zN hp,fun y p _ h=>by rw [hF] at h;exact Or.inl h,fun y h=>Or.inl (hp.mem_iff.2 h)⟩
theorem Ma {lt:Int→Int→Bool} {n k:Nat} {C:CC} (has:∀a b,lt a b=true→lt b a=false) (h:G n (k+1) (k+1) k (k+1) C) (hN:C.N=[]∨∃x y,C.N=[x,y]):RI lt n C (jY lt C):=by
 rcases hN with hN|⟨x,y,hN⟩
 ·have e:jY lt C=C:=by unfold jY;rw [hN]
  rw [e];exact RI.refl _ _ _
 ·obtain ⟨a,b,rfl,rfl,ha,hb,hne,ra,rb,da,db⟩:=Dp h hN;have e:jY lt C={ C with F:=fC C.F (iC lt a b) (jS lt a b),N:=[(iC lt a b:Int)],q:=C.q+1 }:=by unfold jY;rw [hN];simp
  rw [e];obtain ⟨hi,lo,ehi,elo,hhi,hlo,hne2,dhi,dlo,hah,hhab⟩:∃hi lo,iC lt a b=hi∧jS lt a b=lo∧hi<n∧lo<n∧hi≠lo∧(C.F.k hi).length=k∧(C.F.k lo).length=k∧lt lo hi=false∧((hi=a∧lo=b)∨(hi=b∧lo=a)):=by
   unfold iC jS
   by_cases hab:lt b a=true
   ·rw [if_pos hab,if_pos hab];exact ⟨b,a,rfl,rfl,hb,ha,Ne.symm hne,db,da,has _ _ hab,Or.inr ⟨rfl,rfl⟩⟩
   ·rw [if_neg hab,if_neg hab];exact ⟨a,b,rfl,rfl,ha,hb,hne,da,db,by simpa using hab,Or.inl ⟨rfl,rfl⟩⟩
  have hLp:C.L.Perm ((hi:Int)::(lo:Int)::(C.A++(C.B++C.O))):=by
   unfold CC.L;rw [hN,List.perm_iff_count];intro y;rcases hhab with ⟨rfl,rfl⟩|⟨rfl,rfl⟩<;>simp [List.count_append,List.count_cons]<;>omega
  have hL:(CC.L { C with F:=fC C.F hi lo,N:=[(hi:Int)],q:=C.q+1 }).Perm ((hi:Int)::(C.A++(C.B++C.O))):=by
   unfold CC.L;simp only;rw [List.perm_iff_count];intro y;simp [List.count_append,List.count_cons];omega
  have hnd2:=hLp.nodup_iff.1 h.nd;rw [List.nodup_cons,List.nodup_cons] at hnd2;rw [ehi,elo];refine ⟨fun x hx=>hLp.mem_iff.2 ?_,fun x hx=>?_,?_,fun y p hy hu=>?_,fun y hy=>?_⟩
  ·rcases List.mem_cons.1 (hL.mem_iff.1 hx) with rfl|hx
   ·simp
   ·exact List.mem_cons_of_mem _ (List.mem_cons_of_mem _ hx)
  ·unfold fC;simp only;rw [if_neg (fun e=>hx (by subst e;exact hLp.mem_iff.2 σ)),if_neg (fun e=>hx (by subst e;exact hLp.mem_iff.2 σ))]
   exact ⟨rfl,rfl⟩
  ·rw [zN hL,zN hLp];have hd:∀z,z∈C.A++(C.B++C.O)→bM n (fC C.F hi lo) z=bM n C.F z:=fun z hz=>by
    have hr:=h.rt z (hLp.mem_iff.2 (List.mem_cons_of_mem _ (List.mem_cons_of_mem _ hz)));rw [rW n C.F hhi z ⟨hr.1,hr.2.1⟩,if_neg (fun e=>by subst e;exact hnd2.1 (List.mem_cons_of_mem _ hz))]
   have e1:=xB hd;have e2:bM n (fC C.F hi lo) (hi:Int)=(k:Int)+1:=by rw [rW n C.F hhi hi ω,if_pos rfl,dH n C.F hhi,dhi]
   have e3:bM n C.F (hi:Int)=(k:Int):=by rw [dH n C.F hhi,dhi]
   have e4:bM n C.F (lo:Int)=(k:Int):=by rw [dH n C.F hlo,dlo]
   have:∀ (F:CF) (x:Int) (l:List Int),wt n F (x::l)=2 ^ (bM n F x).toNat + wt n F l:=fun F x l=>by unfold wt;simp
   rw [this,this,this,e1,e2,e3,e4];have e5:((k:Int)+1).toNat=k+1:=ω;rw [e5,π,Nat.pow_succ];omega
  ·unfold fC at hu;simp only at hu
   split at hu
   ·rename_i e
    subst e;obtain rfl:hi=p:=ω;exact Or.inr ⟨hLp.mem_iff.2 σ,hLp.mem_iff.2 σ,Ne.symm hne2,hah⟩
   ·exact Or.inl hu
  ·rcases List.mem_cons.1 (hLp.mem_iff.1 hy) with e|hy
   ·exact Or.inl (hL.mem_iff.2 (by rw [e];simp))
   ·rcases List.mem_cons.1 hy with e|hy
    ·refine Or.inr ⟨hi,hhi,?_⟩;unfold fC;simp only;rw [if_pos ω]
    ·exact Or.inl (hL.mem_iff.2 (List.mem_cons_of_mem _ hy))
theorem EA {lt:Int→Int→Bool} {n:Nat} {C0:CC} (has:∀a b,lt a b=true→lt b a=false) (h:G n 0 0 0 0 C0) (hN:C0.N=[]):∀k,RI lt n C0 (eU lt n k C0)
 | 0=>RI.refl _ _ _
 | k+1=>by
  obtain ⟨g,h1,h2⟩:=BD (lt:=lt) h hN k;have g1:=Af g;have g2:=AQ g1;have g3:=zU g2;have t1:=(tQ n k (eU lt n k C0)).2;have t2:=(tX n k (takeA n k (eU lt n k C0))).2;have ev:=vZ (C:=takeB n k (takeA n k (eU lt n k C0))) ω;have r4:=Ma has g3 ev;exact ((((EA has h hN k).trans (RI.perm (og n k _) (FY n k _))).trans (RI.perm (nL n k _) (Fv n k _))).trans (RI.perm (nK _) (Ga _))).trans r4
theorem Pt {lt:Int→Int→Bool} {n:Nat} {C0:CC} {dom:Int→Prop} (has:∀a b,lt a b=true→lt b a=false) (hdm:∀x,x∈C0.L→dom x) (h:G n 0 0 0 0 C0) (hN:C0.N=[]) (hn:n≤65536) (hq:C0.q≤900000) (k:Nat):Fw dom lt n k (eU lt n k C0):=by
 obtain ⟨g,h1,h2⟩:=BD (lt:=lt) h hN k;have hL0:C0.L.length≤n:=oO n _ h.nd (fun x hx=>by have:=h.rt x hx;omega)
 have hL:(eU lt n k C0).L.length≤n:=oO n _ g.nd (fun x hx=>by have:=g.rt x hx;omega)
 have hLL:(eU lt n k C0).L.length=(eU lt n k C0).A.length+((eU lt n k C0).B.length+((eU lt n k C0).N.length+(eU lt n k C0).O.length)):=by unfold CC.L;simp
 have dn:∀x,x∈(eU lt n k C0).L→bM n (eU lt n k C0).F x≤n:=fun x hx=>by
  have hr:=g.rt x hx;obtain ⟨y,rfl⟩:=Int.eq_ofNat_of_zero_le hr.1;have hy:y<n:=ω;rw [dH _ _ hy];have:=g.f.len hy;omega
 refine ⟨h1,fun x y hxy=>?_,ω,ω,fun hne=>?_⟩
 ·have g3:=zU (AQ (Af g));obtain ⟨a,b,e1,e2,ha,hb,hab,ra,rb,da,db⟩:=Dp g3 hxy;have hsub:∀z,z∈(dO (takeB n k (takeA n k (eU lt n k C0)))).L→dom z:=fun z hz=>hdm z ((EA has h hN k).sub z ((og n k _).mem_iff.1 ((nL n k _).mem_iff.1 ((nK _).mem_iff.1 hz))))
  have da':dom (a:Int):=by rw [←e1];exact hsub x (by unfold CC.L;rw [hxy];simp)
  have db':dom (b:Int):=by rw [←e2];exact hsub y (by unfold CC.L;rw [hxy];simp)
  refine ⟨a,b,e1,e2,da',db',ha,hb,hab,?_,?_,?_,g3.f.len ha,g3.f.len hb⟩
  ·unfold wO;rw [decide_eq_true ω];simp [ra]
  ·unfold wO;rw [decide_eq_true ω];simp [rb]
  ·rw [dH _ _ ha,dH _ _ hb,da,db]
 ·rcases hne with hne|hne|hne
  ·obtain ⟨x,t,e⟩:=List.exists_cons_of_ne_nil hne;have h3:=g.a2 x (by rw [e];simp)
   have h4:=dn x (by unfold CC.L;rw [e];simp)
   omega
  ·obtain ⟨x,t,e⟩:=List.exists_cons_of_ne_nil hne;have h3:=g.b2 x (by rw [e];simp)
   have h4:=dn x (by unfold CC.L;rw [e];simp)
   omega
  ·obtain ⟨x,t,e⟩:=List.exists_cons_of_ne_nil hne;have h3:=g.n1 x (by rw [e];simp)
   have h4:=dn x (by unfold CC.L;rw [e];simp)
   omega
end Go.Proofs.YtklibcncmbofpaaGreat
