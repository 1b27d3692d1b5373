/-
  Lemmas for ProofHolds: ArP, Ar, Ar2, Ar3, Pq, Pq2, Pq3. Conditions: those of each lemma.
-/
import Derived.Deep.RegionLaw
import Derived.Deep.DeepCutAuto
import Derived.Test.YtklibcncmbofpaaGreatR02
set_option linter.all false
set_option maxHeartbeats 8000000
set_option maxRecDepth 10000
namespace Go.Proofs.YtklibcncmbofpaaGreat
open Go Go.RowKit
structure AR where
 sl:List (Nat×Bool)
 wait:List Nat
 next:Nat
 most:Nat
def AR.g(R:AR)(x:Nat):Nat:=(R.sl.getD x (0,false)).1
def AR.v(R:AR)(x:Nat):Bool:=(R.sl.getD x (0,false)).2
def Ga(l:List (Nat×Bool)):Nat:=(l.filter (fun p=>p.2)).length
def AR.cnt(R:AR):Nat:=Ga R.sl
structure AR.Ok(R:AR):Prop where
 n:R.sl.length<=65536
 nx:R.next<=R.sl.length
 Wv:1<=R.most/\R.most<=4294967295
 wt:∀x,x∈R.wait->x<R.next/\R.v x=false/\R.g x<R.most
 nd:R.wait.Nodup
 fresh:∀x,R.next<=x->R.g x=0/\R.v x=false
 lv:∀x,R.v x=true->1<=R.g x
 gm:∀x,R.g x<=R.most
def AR.new(n most:Nat):AR:=⟨List.replicate n (0,false),[],0,most⟩
def AR.put(R:AR)(x:Nat)(p:Nat×Bool):AR:={ R with sl:=R.sl.set x p }
def uY(R:AR):Option (Nat×AR):=
 match R.wait.getLast? with
 | some x=>some (x,{ R with wait:=R.wait.dropLast })
 | none=>if R.next=R.sl.length then none else some (R.next,{ R with next:=R.next+1 })
def vz(R:AR):Option (Nat×AR):=(uY R).map fun p=>(p.1,p.2.put p.1 (R.g p.1+1,true))
def CK(R:AR)(x g:Int):Bool:=decide (0<=x) && decide (x<R.sl.length) && decide ((R.g x.toNat:Int)=g) && R.v x.toNat
def kW(R:AR)(x:Nat):AR:={ R.put x (R.g x,false)with wait:=if R.g x<R.most then R.wait++[x]else R.wait }
section
variable {R:AR}
theorem AR.yC(x:Nat)(p:Nat×Bool)(y:Nat):(R.put x p).g y=if y=x/\x<R.sl.length then p.1 else R.g y:=by
 unfold AR.put AR.g;simp only[φ,List.getElem?_set]
 by_cases h:x=y
 ·subst h
  by_cases hl:x<R.sl.length
  ·simp[hl]
  ·simp[hl]
 ·rw[if_neg h,if_neg (fun e=>h e.1.symm)]
theorem AR.zK(x:Nat)(p:Nat×Bool)(y:Nat):(R.put x p).v y=if y=x/\x<R.sl.length then p.2 else R.v y:=by
 unfold AR.put AR.v;simp only[φ,List.getElem?_set]
 by_cases h:x=y
 ·subst h
  by_cases hl:x<R.sl.length
  ·simp[hl]
  ·simp[hl]
 ·rw[if_neg h,if_neg (fun e=>h e.1.symm)]
theorem AR.far{x:Nat}(hx:R.sl.length<=x):R.g x=0/\R.v x=false:=by
 unfold AR.g AR.v;rw[φ,List.getElem?_eq_none hx];exact⟨rfl,rfl⟩
theorem AR.jZ(x:Nat)(p:Nat×Bool):(R.put x p).sl.length=R.sl.length:=by unfold AR.put;simp
theorem AR.Oo{x:Nat}(h:R.v x=true):x<R.sl.length:=by
 rcases Nat.lt_or_ge x R.sl.length with h'|h'
 ·exact h'
 ·rw[(AR.far h').2]at h;cases h
theorem uf(q:Nat×Bool)(r:List (Nat×Bool)):Ga (q::r)=Ga r+if q.2 then 1 else 0:=by
 unfold Ga;rw[List.filter_cons];cases h:q.2<;>simp
theorem FD:∀ (l:List (Nat×Bool)) (x:Nat) (p:Nat×Bool),x<l.length->Ga (l.set x p)+(if (l.getD x (0,false)).2 then 1 else 0)=Ga l+(if p.2 then 1 else 0)
 | [],x,p,h=>by simp at h
 | q::r,0,p,h=>by
  rw[List.set_cons_zero,uf,uf]
  show _+_+(if q.2 then 1 else 0)=_
  omega
 | q::r,x+1,p,h=>by
  have ih:=FD r x p (by simpa using h);rw[List.set_cons_succ,uf,uf,List.getD_cons_succ];omega
theorem Mf(l:List (Nat×Bool)):Ga l<=l.length:=List.length_filter_le _ _
theorem AR.y7(x:Nat)(p:Nat×Bool)(hx:x<R.sl.length):(R.put x p).cnt+(if R.v x then 1 else 0)=R.cnt+(if p.2 then 1 else 0):=FD R.sl x p hx
theorem AR.MK(h:R.Ok):R.wait.length<=R.next:=by
 have key:∀ (n:Nat) (l:List Nat),l.Nodup->(∀x,x∈l->x<n)->l.length<=n:=by
  intro n
  induction n with
  | zero=>
   intro l _ h;cases l with
   | nil=>simp
   | cons x r=>have:=h x σ;omega
  | succ n ih=>
   intro l hn h
   have h1:=ih (l.erase n) (hn.erase _) (fun x hx=>by
    have h2:=(List.Nodup.mem_erase_iff hn).1 hx;have:=h x h2.2
    omega)
   have h2:=List.length_erase_le (a:=n) (l:=l);have h3:l.length<=(l.erase n).length+1:=by
    by_cases hm:n∈l
    ·rw[List.length_erase_of_mem hm];omega
    ·rw[List.erase_of_not_mem hm];omega
   omega
 exact key _ _ h.nd (fun x hx=>(h.wt x hx).1)
theorem AR.zY{n most:Nat}(hn:n<=65536)(hm:1<=most/\most<=4294967295):(AR.new n most).Ok:=by
 have e:∀x,(AR.new n most).g x=0/\(AR.new n most).v x=false:=fun x=>by
  unfold AR.new AR.g AR.v;simp only[φ,List.getElem?_replicate]
  split<;>exact⟨rfl,rfl⟩
 refine⟨by simp[AR.new];exact hn,by simp[AR.new],hm,fun x hx=>by simp[AR.new]at hx,by simp[AR.new],fun x _=>e x,fun x hx=>?_,fun x=>?_⟩
 ·rw[(e x).2]at hx;cases hx
 ·rw[(e x).1];exact Nat.zero_le _
theorem AR.Vn(n most:Nat):(AR.new n most).cnt=0:=by
 unfold AR.cnt Ga AR.new;simp
theorem yA{x:Nat}{R':AR}(h:R.Ok)(hp:uY R=some (x,R')):x<R.sl.length/\R.v x=false/\R.g x<R.most/\R'.sl=R.sl/\R'.most=R.most/\R'.next<=R.sl.length/\x<R'.next/\R.next<=R'.next/\
  (∀y,y∈R'.wait->y∈R.wait/\y≠x)/\R'.wait.Nodup:=by
 unfold uY at hp;cases hl:R.wait.getLast? with
 | some y=>
  rw[hl]at hp;simp only[Option.some.injEq,Prod.mk.injEq]at hp;obtain⟨rfl,rfl⟩:=hp;have hm:y∈R.wait:=List.mem_of_getLast? hl;obtain⟨h1,h2,h3⟩:=h.wt y hm;have hn:=h.nd;have happ:R.wait=R.wait.dropLast++[y]:=by
   obtain⟨l,hl'⟩:=List.getLast?_eq_some_iff.1 hl;rw[hl'];simp
  rw[happ,θ]at hn;refine⟨Nat.lt_of_lt_of_le h1 h.nx,h2,h3,rfl,rfl,h.nx,h1,Nat.le_refl _,fun z hz=>⟨List.dropLast_subset _ hz,fun e=>?_⟩,hn.1⟩;exact hn.2.2 z hz y σ e
 | none=>
  rw[hl]at hp;have hw:R.wait=[]:=List.getLast?_eq_none_iff.1 hl;dsimp only at hp
  split at hp
  ·cases hp
  ·rename_i hne
   simp only[Option.some.injEq,Prod.mk.injEq]at hp;obtain⟨rfl,rfl⟩:=hp;have h1:=h.nx;have h2:=h.fresh R.next (Nat.le_refl _);refine⟨ω,h2.2,by rw[h2.1];exact h.Wv.1,rfl,rfl,by show R.next+1<=_;omega,by show R.next<R.next+1;omega,by show R.next<=R.next+1;omega,fun y hy=>?_,h.nd⟩;rw[show({ R with next:=R.next+1 }:AR).wait=R.wait from rfl,hw]at hy;cases hy
theorem xz{x:Nat}{R':AR}(h:R.Ok)(hp:vz R=some (x,R')):R'.Ok/\x<R.sl.length/\R.v x=false/\R.g x<R.most/\R'.sl=R.sl.set x (R.g x+1,true)/\R'.most=R.most/\R'.cnt=R.cnt+1:=by
 unfold vz at hp;cases hq:uY R with
 | none=>rw[hq]at hp;cases hp
 | some q=>
  obtain⟨y,R1⟩:=q;rw[hq]at hp;simp only[Option.map_some,Option.some.injEq,Prod.mk.injEq]at hp;obtain⟨rfl,rfl⟩:=hp;obtain⟨h1,h2,h3,h4,h5,h6,h7,h8,h9,h10⟩:=yA h hq;have eg:∀z,R1.g z=R.g z:=fun z=>by unfold AR.g;rw[h4]
  have ev:∀z,R1.v z=R.v z:=fun z=>by unfold AR.v;rw[h4]
  have hl:y<R1.sl.length:=by rw[h4];exact h1
  refine⟨⟨by rw[AR.jZ,h4];exact h.n,by rw[AR.jZ,h4];exact h6,by show 1<=R1.most/\R1.most<=4294967295;rw[h5];exact h.Wv,fun z hz=>?_,h10,fun z hz=>?_,fun z hz=>?_,fun z=>?_⟩,h1,h2,h3,by show R1.sl.set _ _=_;rw[h4],h5,?_⟩
  ·obtain⟨a1,a2⟩:=h9 z hz;obtain⟨b1,b2,b3⟩:=h.wt z a1;rw[AR.zK,AR.yC,if_neg (fun e=>a2 e.1),if_neg (fun e=>a2 e.1),ev,eg];refine⟨Nat.lt_of_lt_of_le b1 h8,b2,?_⟩
   show R.g z<R1.most
   rw[h5];exact b3
  ·have hz':R1.next<=z:=hz;rw[AR.zK,AR.yC,if_neg ω,if_neg ω,ev,eg];exact h.fresh z ω
  ·rw[AR.zK]at hz;rw[AR.yC]
   by_cases e:z=y/\y<R1.sl.length
   ·rw[if_pos e];show 1<=R.g y+1;omega
   ·rw[if_neg e]at hz⊢;rw[ev]at hz;rw[eg];exact h.lv z hz
  ·rw[AR.yC]
   show _<=R1.most
   rw[h5]
   split
   ·show R.g y+1<=_;omega
   ·rw[eg];exact h.gm z
  ·have hc:=AR.y7 (R:=R1) y (R.g y+1,true) hl;rw[ev,h2]at hc;simp at hc;rw[hc];unfold AR.cnt;rw[h4]
theorem Fh{x:Nat}(h:R.Ok)(hv:R.v x=true):(kW R x).Ok/\(kW R x).cnt+1=R.cnt:=by
 have hx:=AR.Oo hv;have eg:∀z,(kW R x).g z=R.g z:=fun z=>by
  show(R.put x (R.g x,false)).g z=_
  rw[AR.yC]
  split
  ·rename_i e;rw[e.1]
  ·rfl
 have ev:∀z,(kW R x).v z=if z=x then false else R.v z:=fun z=>by
  show(R.put x (R.g x,false)).v z=_
  rw[AR.zK]
  by_cases e:z=x
  ·rw[if_pos ⟨e,hx⟩,if_pos e]
  ·rw[if_neg (fun h=>e h.1),if_neg e]
 have vv:x<R.next:=by
  rcases Nat.lt_or_ge x R.next with h'|h'
  ·exact h'
  ·rw[(h.fresh x h').2]at hv;cases hv
 refine⟨⟨by show(R.put x _).sl.length<=_;rw[AR.jZ];exact h.n,by show R.next<=(R.put x _).sl.length;rw[AR.jZ];exact h.nx,h.Wv,fun z hz=>?_,?_,fun z hz=>?_,fun z hz=>?_,fun z=>by rw[eg];exact h.gm z⟩,?_⟩
 ·have hz':z∈(if R.g x<R.most then R.wait++[x]else R.wait):=hz;rw[ev,eg];have hw:z∈R.wait->z<R.next/\(if z=x then false else R.v z)=false/\R.g z<R.most:=fun hm=>by
   obtain⟨b1,b2,b3⟩:=h.wt z hm;refine⟨b1,?_,b3⟩
   split
   ·rfl
   ·exact b2
  split at hz'
  ·rename_i hlt
   rcases τ.1 hz' with hm|hm
   ·exact hw hm
   ·simp at hm;subst hm;exact⟨vv,by rw[if_pos rfl],hlt⟩
  ·exact hw hz'
 ·show(if R.g x<R.most then R.wait++[x]else R.wait).Nodup
  split
  ·rw[θ];refine⟨h.nd,σ,fun a ha b hb e=>?_⟩;simp at hb;subst hb;subst e;have:=(h.wt _ ha).2.1;rw[hv]at this;cases this
  ·exact h.nd
 ·rw[ev,eg];have hz':R.next<=z:=hz;have:=h.fresh z hz';exact⟨this.1,by split;rfl;exact this.2⟩
 ·rw[ev]at hz
  split at hz
  ·cases hz
  ·rw[eg];exact h.lv z hz
 ·have hc:=AR.y7 (R:=R) x (R.g x,false) hx;rw[hv]at hc;simp at hc;exact hc
end
theorem jk{c:Code}{K:Exit->Act->World->Prop}{a:Act}{W:World}(R:World->Prop)(h:R W)(k:∀W',R W'->Code.wp Tryz.prog c K a W'):Code.wp Tryz.prog c K a W:=k W h
def Pe(R:AR)(j:Nat):Value:=if j % 2=0 then .int .u32 (R.g (j / 2):Int)else .bool (R.v (j / 2))
def Z4(ga:Nat)(v:Value)(R:AR)(j:Nat):Value:=[Value.slice (some ⟨ga,0,none⟩) R.sl.length R.sl.length,v,.int .i64 (R.next:Int),.int .i64 (R.cnt:Int),.int .u32 (R.most:Int)].getD j undef
structure uE(w:World)(pa ga:Nat)(v:Value)(R:AR):Prop where
 head:aL w pa 158 5 (Z4 ga v R)
 row:aL w ga 155 (R.sl.length*2) (Pe R)
 wait:w.ownsRow 0 3 1 v R.wait.length (aQ (bH R.wait))
 ne:pa≠ga
 nw:∀k,v.ownBlock=some k->k≠pa/\k≠ga
 ok:R.Ok
def qM(w:World)(pa:Nat)(F:List Nat)(R:AR):Prop:=∃ga v,F=pa::ga::v.ownBlock.toList/\uE w pa ga v R
section
variable {w:World}{pa ga:Nat}{v:Value}{R:AR}{F:List Nat}
theorem uE.c0(h:uE w pa ga v R):w.cell? ⟨pa,0,none⟩=some (.slice (some ⟨ga,0,none⟩) R.sl.length R.sl.length):=h.head.cellAt 0 ω rfl
theorem uE.c1(h:uE w pa ga v R):w.cell? ⟨pa,1,none⟩=some v:=h.head.cellAt 1 ω rfl
theorem uE.c2(h:uE w pa ga v R):w.cell? ⟨pa,2,none⟩=some (.int .i64 (R.next:Int)):=h.head.cellAt 2 ω rfl
theorem uE.c3(h:uE w pa ga v R):w.cell? ⟨pa,3,none⟩=some (.int .i64 (R.cnt:Int)):=h.head.cellAt 3 ω rfl
theorem uE.c4(h:uE w pa ga v R):w.cell? ⟨pa,4,none⟩=some (.int .u32 (R.most:Int)):=h.head.cellAt 4 ω rfl
theorem uE.s0(h:uE w pa ga v R){x:Nat}(hx:x<R.sl.length):w.cell? ⟨ga,x*2,none⟩=some (.int .u32 (R.g x:Int)):=h.row.cellAt (x*2) ω (by unfold Pe;rw[if_pos ω,show x*2 / 2=x by omega])
theorem uE.s1(h:uE w pa ga v R){x:Nat}(hx:x<R.sl.length):w.cell? ⟨ga,x*2+1,none⟩=some (.bool (R.v x)):=h.row.cellAt (x*2+1) ω (by unfold Pe;rw[if_neg ω,show(x*2+1) / 2=x by omega])
theorem Oy(l:List Nat):(bH l).length=l.length:=by unfold bH;simp
theorem uE.upd{w':World}{S:List Nat}(h:uE w pa ga v R)(hu:aa S w w')(hS:∀x,x∈S->x∉pa::ga::v.ownBlock.toList):uE w' pa ga v R:=
 ⟨h.head.upd hu (fun e=>hS _ e σ),h.row.upd hu (fun e=>hS _ e σ),aC h.wait hu (fun k hk e=>hS _ e (by simp[hk])),h.ne,h.nw,h.ok⟩
theorem qM.upd{w':World}{S:List Nat}(h:qM w pa F R)(hu:aa S w w')(hS:∀x,x∈S->x∉F):qM w' pa F R:=by
 obtain⟨ga,v,rfl,h⟩:=h;exact⟨ga,v,rfl,h.upd hu hS⟩
theorem qM.lt(h:qM w pa F R):∀x,x∈F->x<w.heap.size:=by
 obtain⟨ga,v,rfl,h⟩:=h;intro x hx;simp at hx;rcases hx with rfl|rfl|hx
 ·exact h.head.lt
 ·exact h.row.lt
 ·exact(h.wait.lt x hx).2
theorem qM.ok(h:qM w pa F R):R.Ok:=by obtain⟨ga,v,rfl,h⟩:=h;exact h.ok
theorem SF:(Tryz.prog.info? 155).map (fun i=>(i.zero,i.size,i.bytes))=some (some (.agg #[.int .u32 0,.bool false]),2,8):=by kernel_rfl
theorem MS(n m:Nat)(w:World)(h:n<=65536)(hm:1<=m/\m<=4294967295) :
  Calls Tryz.prog 80 #[.int .i64 (n:Int),.int .u32 (m:Int)] w fun e w'=>∃pa F,e=.returned (.tuple #[.pointer (some ⟨pa,0,none⟩),.int .i64 0])/\qM w' pa F (AR.new n m)/\aa [] w w'/\∀x,x∈F->w.heap.size<=x:=by
 have hm0:((m:Int) == 0)=false:=ζ
 go_enter Tryz.func80,Tryz.ntmps80
 go_wp2_with (first
  | (at_make;refine wpList_make_row rfl _ 156 rfl 155 (.agg #[.int .u32 0,.bool false]) 2 8 Tryz.underlying156 SF n rfl ω μ ?_;intro w2 hr2 hu2))
 go_ret2;have hh:=dP w2 [.slice (some ⟨w.heap.size,0,none⟩) n n,.slice none 0 0,.int .i64 0,.int .i64 0,.int .u32 (m:Int)] 158;have l1:=hr2.lt;have e:∀x,(AR.new n m).g x=0/\(AR.new n m).v x=false:=fun x=>by
  unfold AR.new AR.g AR.v;simp only[φ,List.getElem?_replicate]
  split<;>exact⟨rfl,rfl⟩
 refine⟨w2.heap.size,w2.heap.size::w.heap.size::[],rfl,⟨w.heap.size,.slice none 0 0,rfl,⟨?_,?_,⟨by simp[AR.new,bH,aQ],Or.inl ⟨rfl,by simp[AR.new]⟩⟩,ω,fun k hk=>(by cases hk),AR.zY h hm⟩⟩,hu2.trans ((aa.refl _ _).alloc _),fun x hx=>by simp at hx;omega⟩
 ·refine hh.ext (fun j hj=>?_);unfold Z4;rw[AR.Vn];simp[AR.new]
 ·have hl:(AR.new n m).sl.length=n:=by simp[AR.new]
  rw[hl];refine(hr2.alloc _).ext (fun j hj=>?_);unfold Pe;rw[(e _).1,(e _).2]
  show(madeCells #[Value.int .u32 0,.bool false] (n*2)).toList.getD j undef=_
  rw[φ,ε (by simp[size_madeCells];omega)];simp only[Option.getD_some,madeCells,Array.getElem_toList,Array.getElem_map,Array.getElem_range];rcases(ω:j % 2=0\/j % 2=1)with e|e<;>simp[e]
theorem Ap(h:qM w pa F R)(x g:Int)(hg:0<=g/\g<=4294967295) :
  Calls Tryz.prog 83 #[.pointer (some ⟨pa,0,none⟩),.agg #[.int .i64 x,.int .u32 g]] w fun e w'=>e=.returned (.bool (CK R x g))/\aa [] w w':=by
 obtain⟨ga,v,rfl,h⟩:=h;have c0':=h.c0;have hl:=h.ok.n;have H:=χ h;unfold CK
 by_cases b1:x≥0
 ·by_cases b2:x<(R.sl.length:Int)
  ·have d0':=h.s0 (x:=x.toNat) ω;have d1':=h.s1 (x:=x.toNat) ω;rw[show((x.toNat * 2:Nat))=x.toNat * 2 from rfl]at d0';rw[decide_eq_true (show 0<=x from b1),decide_eq_true b2];generalize R.g x.toNat=gi at *;generalize R.v x.toNat=vi at *;generalize R.sl.length=n at *;clear h
   go_enter Tryz.func83,Tryz.ntmps83
   (go_upto_region 1 with(fail);refine jk (fun W=>W.cell? ⟨w.heap.size,0,none⟩=some (.int .i64 x)/\W.cell? ⟨w.heap.size,1,none⟩=some (.int .u32 g)/\aa [] w W) ⟨σ,σ,β⟩ ?_;rintro W ⟨q0,q1,hu⟩)
   have c0:=hu.was c0';have d0:=hu.was d0';have d1:=hu.was d1';have HU:=χ hu;clear hu c0' d0' d1'
   by_cases e:(gi:Int)=g
   ·subst e;cases vi
    all_goals
     go_quiet (fail)
     go_wp2;go_ret;exact⟨aT σ,by have:=HU.out;exact β⟩
   ·cases vi
    all_goals
     go_quiet (fail)
     go_wp2;go_ret;exact⟨aT (by simp[e]),by have:=HU.out;exact β⟩
  ·have b2b:decide (x<(R.sl.length:Int))=false:=by simpa using b2
   rw[b2b];generalize R.sl.length=n at *;clear h
   go_enter Tryz.func83,Tryz.ntmps83
   (go_upto_region 1 with(fail);refine jk (fun W=>W.cell? ⟨w.heap.size,0,none⟩=some (.int .i64 x)/\W.cell? ⟨w.heap.size,1,none⟩=some (.int .u32 g)/\aa [] w W) ⟨σ,σ,β⟩ ?_;rintro W ⟨q0,q1,hu⟩)
   have c0:=hu.was c0';have HU:=χ hu;clear hu c0'
   go_quiet (fail)
   go_wp2;go_ret;exact⟨aT σ,by have:=HU.out;exact β⟩
 ·have b1b:decide (x≥0)=false:=by simpa using b1
  rw[decide_eq_false (show ¬0<=x from b1)];clear h
  go_enter Tryz.func83,Tryz.ntmps83
  (go_upto_region 1 with(fail);refine jk (fun W=>W.cell? ⟨w.heap.size,0,none⟩=some (.int .i64 x)/\W.cell? ⟨w.heap.size,1,none⟩=some (.int .u32 g)/\aa [] w W) ⟨σ,σ,β⟩ ?_;rintro W ⟨q0,q1,hu⟩)
  have HU:=χ hu;clear hu
  go_quiet (fail)
  go_wp2;go_ret;exact⟨aT σ,by have:=HU.out;exact β⟩
end
theorem IG{w:World}{base g n cap k:Nat}{e:TypeId}{xs:List Value}(h:w.ownsRow base e 1 (.slice (some ⟨g,0,none⟩) n cap) n xs)(hk:k<=n):w.ownsRow base e 1 (.slice (some ⟨g,0,none⟩) k cap) k (xs.take k):=by
 rcases h.2 with⟨h1,_⟩|⟨g',cap',cur,h1,hb,hg,hn,hc,hs,ht⟩
 ·cases h1
 ·cases h1;have h0:=h.1;exact⟨by rw[List.length_take];omega,Or.inr ⟨g,cap,cur,rfl,hb,hg,ω,hc,hs,by rw[←ht,List.take_take];congr 1;omega⟩⟩
theorem VU{R R':AR}{x:Nat}(h:R.Ok)(hp:uY R=some (x,R')):R'.Ok:=by
 obtain⟨h1,h2,h3,h4,h5,h6,h7,h8,h9,h10⟩:=yA h hp;have eg:∀z,R'.g z=R.g z:=fun z=>by unfold AR.g;rw[h4]
 have ev:∀z,R'.v z=R.v z:=fun z=>by unfold AR.v;rw[h4]
 refine⟨by rw[h4];exact h.n,by rw[h4];exact h6,by rw[h5];exact h.Wv,fun z hz=>?_,h10,fun z hz=>?_,fun z hz=>by rw[ev]at hz;rw[eg];exact h.lv z hz,fun z=>by rw[eg,h5];exact h.gm z⟩
 ·obtain⟨a1,_⟩:=h9 z hz;obtain⟨b1,b2,b3⟩:=h.wt z a1;rw[ev,eg,h5];exact⟨ω,b2,b3⟩
 ·rw[ev,eg];exact h.fresh z ω
section
variable {w:World}{pa ga:Nat}{v:Value}{R:AR}{F:List Nat}
theorem R9(h:qM w pa F R)(x:Nat)(hx:R.v x=true) :
  Calls Tryz.prog 84 #[.pointer (some ⟨pa,0,none⟩),.int .i64 (x:Int)] w fun e w'=>e=.returned (.tuple #[.agg #[.int .i64 (x:Int),.int .u32 (R.g x:Int)],.bool true])/\aa [] w w':=by
 obtain⟨ga,v,rfl,h⟩:=h;have hl:=AR.Oo hx;have hn:=h.ok.n;have c0:=h.c0;have d0:=h.s0 hl;have d1:=h.s1 hl;rw[hx]at d1;have BN:(x:Int)<(R.sl.length:Int):=ω;have hx2:¬R.sl.length<=x:=ω;generalize R.g x=gx at *;generalize R.sl.length=n at *;have l1:=World.block_lt_of_cell? w _ c0;have l2:=World.block_lt_of_cell? w _ d0;clear h hx
 go_enter Tryz.func84,Tryz.ntmps84
 go_wp2;exact bodyPost_ret (v:=.tuple #[.agg #[.int .i64 (x:Int),.int .u32 (gx:Int)],.bool true]) (by simp[results,Tryz.results84,go_sem]) rfl ⟨rfl,β⟩
theorem NT{l:List Nat}{j x:Nat}(h:l[j]?=some x):(bH l).getD j 0=(x:Int):=by unfold bH;simp[φ,h]
theorem Au(l:List Int)(k:Nat):(aQ l).take k=aQ (l.take k):=by unfold aQ;rw[List.map_take]
theorem AV(l:List Nat)(k:Nat):(bH l).take k=bH (l.take k):=by unfold bH;rw[List.map_take]
theorem uE.setv(h:uE w pa ga v R){R':AR}{v':Value}(ok:R'.Ok)(e1:R'.sl=R.sl)(e2:R'.next=R.next)(e3:R'.most=R.most)(hw:w.ownsRow 0 3 1 v' R'.wait.length (aQ (bH R'.wait)))(hb:∀k,v'.ownBlock=some k->k≠pa/\k≠ga) :
  uE (w.setCell ⟨pa,1,none⟩ v') pa ga v' R':=by
 have hu:aa [pa] w (w.setCell ⟨pa,1,none⟩ v'):=(aa.refl _ _).setCell (Or.inl σ) _;refine⟨(h.head.set 1 v').ext (fun j hj=>?_),?_,aC hw hu (fun k hk e=>(hb k hk).1 (by simpa using e)),h.ne,hb,ok⟩
 ·rcases(ω:j=0\/j=1\/j=2\/j=3\/j=4)with rfl|rfl|rfl|rfl|rfl<;>simp[Z4,AR.cnt,e1,e2,e3]
 ·rw[e1];exact(h.row.upd hu (by simp;exact fun e=>h.ne e.symm)).ext (fun j hj=>by unfold Pe AR.g AR.v;rw[e1])
theorem uE.setn(h:uE w pa ga v R){R':AR}(ok:R'.Ok)(e1:R'.sl=R.sl)(e2:R'.wait=R.wait)(e3:R'.most=R.most):uE (w.setCell ⟨pa,2,none⟩ (.int .i64 (R'.next:Int))) pa ga v R':=by
 have hu:aa [pa] w (w.setCell ⟨pa,2,none⟩ (.int .i64 (R'.next:Int))):=(aa.refl _ _).setCell (Or.inl σ) _;refine⟨(h.head.set 2 _).ext (fun j hj=>?_),?_,by rw[e2];exact aC h.wait hu (fun k hk e=>(h.nw k hk).1 (by simpa using e)),h.ne,h.nw,ok⟩
 ·rcases(ω:j=0\/j=1\/j=2\/j=3\/j=4)with rfl|rfl|rfl|rfl|rfl<;>simp[Z4,AR.cnt,e1,e3]
 ·rw[e1];exact(h.row.upd hu (by simp;exact fun e=>h.ne e.symm)).ext (fun j hj=>by unfold Pe AR.g AR.v;rw[e1])
theorem GI(h:uE w pa ga v R){x:Nat}{R':AR}(hp:uY R=some (x,R')) :
  Calls Tryz.prog 82 #[.pointer (some ⟨pa,0,none⟩)] w fun e w'=>e=.returned (.tuple #[.int .i64 (x:Int),.bool true])/\∃v',v'.ownBlock=v.ownBlock/\uE w' pa ga v' R'/\aa [pa] w w':=by
 have ok':=VU h.ok hp;have hwl:=AR.MK h.ok;have hn:=h.ok.n;have hnx:=h.ok.nx;unfold uY at hp;cases hl:R.wait.getLast? with
 | some y=>
  rw[hl]at hp;simp only[Option.some.injEq,Prod.mk.injEq]at hp;obtain⟨rfl,rfl⟩:=hp;have hne:R.wait≠[]:=fun e=>by rw[e]at hl;cases hl
  have hpos:0<R.wait.length:=List.length_pos_iff.2 hne;have c1:=h.c1;have f1:=h.head.free 1;obtain⟨gw,cap,rfl,_,hgl,hnc,hcm,hcell,_⟩:=gJ h.wait hpos;have hat:R.wait[R.wait.length-1]?=some y:=by rw[←List.getLast?_eq_getElem?];exact hl
  have d0:=hcell (R.wait.length-1) (.int .i64 (y:Int)) (by rw[nS (by rw[Oy];omega),NT hat]);have hdl:R.wait.dropLast=R.wait.take (R.wait.length-1):=List.dropLast_eq_take;have hw2:=IG h.wait (k:=R.wait.length-1) ω;rw[Au,AV,←hdl]at hw2;have hll:R.wait.dropLast.length=R.wait.length-1:=σ;have HF:=χ (show uE (w.setCell ⟨pa,1,none⟩ (.slice (some ⟨gw,0,none⟩) (R.wait.length-1) cap)) pa ga (.slice (some ⟨gw,0,none⟩) (R.wait.length-1) cap) { R with wait:=R.wait.dropLast } from h.setv ok' rfl rfl rfl (by show w.ownsRow 0 _ 1 _ R.wait.dropLast.length _;rw[hll];exact hw2) h.nw)
  have PW:=World.block_lt_of_cell? w _ c1;clear h ok' hcell hat hdl hw2 hll hl hne;generalize hwn:R.wait.length=wn at *;obtain⟨m,rfl⟩:∃m,wn=m+1:=⟨wn-1,ω⟩;simp only[Nat.add_sub_cancel]at d0 HF;clear hwn;have hmi:((m+1:Nat):Int)-1=(m:Int):=ω;have hwr:IntKind.i64.wrap (((m+1:Nat):Int)-1)=(m:Int):=by rw[hmi];exact IntWalk.i64_in _ ω
  have hgt:((m+1:Nat):Int) > 0:=ω;have hlt:(m:Int)<((m+1:Nat):Int):=ω;have hcapI:(m:Int)<=(cap:Int):=ω
  go_enter Tryz.func82,Tryz.ntmps82
  go_wp2;go_ret2;exact⟨rfl,.slice (some ⟨gw,0,none⟩) m cap,rfl,HF.out,β⟩
 | none=>
  rw[hl]at hp;have hw:R.wait=[]:=List.getLast?_eq_none_iff.1 hl;dsimp only at hp
  split at hp
  ·cases hp
  ·rename_i hne
   simp only[Option.some.injEq,Prod.mk.injEq]at hp;obtain⟨rfl,rfl⟩:=hp;have c0:=h.c0;have c1:=h.c1;have c2:=h.c2;have f2:=h.head.free 2;have hv:=h.wait;rw[hw]at hv;obtain⟨a,c,rfl,hc⟩:=bq hv;simp only[List.length_nil]at c1;have hnn:((R.next:Int) == (R.sl.length:Int))=false:=ζ;have hwr:IntKind.i64.wrap ((R.next:Int)+1)=(R.next:Int)+1:=IntWalk.i64_in _ ω;have hwr2:IntKind.i64.wrap ((R.next:Int)+1-1)=(R.next:Int):=by rw[show(R.next:Int)+1-1=(R.next:Int) by omega];exact IntWalk.i64_in _ ω
   have PW:=World.block_lt_of_cell? w _ c0;have HF:=χ (fun W (hW:aa [] w W)=>(h.upd hW σ).setn (R':={ R with next:=R.next+1 }) ok' rfl rfl rfl);have HC:=χ (show((({ R with next:=R.next+1 }:AR).next:Nat):Int)=(R.next:Int)+1 from by show((R.next+1:Nat):Int)=_;omega);clear h ok' hv hw hl;generalize hq:({ R with next:=R.next+1 }:AR)=R2 at *;clear hq;generalize R.next=nx at *;generalize R.sl.length=n at *
   go_enter Tryz.func82,Tryz.ntmps82
   go_wp2
   go_quiet (fail)
   go_wp2;go_ret2;refine⟨rfl,_,rfl,?_,β⟩;have:=HF.out _ (((aa.refl [] w).drewN nq));rw[HC.out]at this;exact this
theorem WC{R:AR}{x:Nat}(hx:x<R.sl.length)(p:Nat×Bool)(j:Nat):Pe (R.put x p) j=if j=x*2+1 then .bool p.2 else if j=x*2 then .int .u32 (p.1:Int)else Pe R j:=by
 unfold Pe;rw[AR.yC,AR.zK]
 by_cases e3:j % 2=0
 ·rw[if_neg (show ¬j=x*2+1 by omega)];simp only[if_pos e3]
  by_cases e2:j=x*2
  ·rw[if_pos e2,if_pos ⟨ω,hx⟩]
  ·rw[if_neg e2,if_neg ω]
 ·simp only[if_neg e3];rw[if_neg (show ¬j=x*2 by omega)]
  by_cases e2:j=x*2+1
  ·rw[if_pos e2,if_pos ⟨ω,hx⟩]
  ·rw[if_neg e2,if_neg ω]
theorem uE.put(h:uE w pa ga v R){x:Nat}(hx:x<R.sl.length)(p:Nat×Bool)(ok:(R.put x p).Ok){w':World}(hrow:aL w' ga 155 (R.sl.length*2) (fun i=>if i=x*2+1 then .bool p.2 else if i=x*2 then .int .u32 (p.1:Int)else Pe R i))(hu:aa [ga] w w') :
  uE (w'.setCell ⟨pa,3,none⟩ (.int .i64 ((R.put x p).cnt:Int))) pa ga v (R.put x p):=by
 have hu2:aa [pa,ga] w (w'.setCell ⟨pa,3,none⟩ (.int .i64 ((R.put x p).cnt:Int))):=(hu.mono σ).setCell (Or.inl σ) _;refine⟨((h.head.upd hu (by simpa using h.ne)).set 3 _).ext (fun j hj=>?_),?_,aC h.wait hu2 (fun k hk e=>?_),h.ne,h.nw,ok⟩
 ·rcases(ω:j=0\/j=1\/j=2\/j=3\/j=4)with rfl|rfl|rfl|rfl|rfl<;>simp[Z4,AR.jZ]
  all_goals rfl
 ·rw[AR.jZ];exact(hrow.far _ _ (by simpa using h.ne.symm)).ext (fun j hj=>(WC hx p j).symm)
 ·have:=h.nw k hk;simp at e;omega
theorem IW(h:qM w pa F R){x:Nat}{R':AR}(hp:vz R=some (x,R')) :
  Calls Tryz.prog 66 #[.pointer (some ⟨pa,0,none⟩)] w fun e w'=>e=.returned (.tuple #[.agg #[.int .i64 (x:Int),.int .u32 ((R.g x:Int)+1)],.int .i64 0])/\Goes F w w' (fun F'=>qM w' pa F' R'):=by
 have Oc:=xz h.ok hp;obtain⟨ga,v,rfl,h⟩:=h;unfold vz at hp;cases hq:uY R with
 | none=>rw[hq]at hp;cases hp
 | some q=>
  obtain⟨y,R1⟩:=q;rw[hq]at hp;simp only[Option.map_some,Option.some.injEq,Prod.mk.injEq]at hp;obtain⟨rfl,rfl⟩:=hp;obtain⟨hTok,hx,hv0,hgm,hsl,hmst,hcnt⟩:=Oc;obtain⟨_,_,_,h4,_⟩:=yA h.ok hq;have hmo:=h.ok.Wv;have hlp:=h.head.lt;have hlg:=h.row.lt;have hvl:=fun k hk=>(h.wait.lt k hk).2;have k:=fun W (hW:aa [] w W)=>GI (h.upd hW σ) hq;have hx1:y<R1.sl.length:=by rw[h4];exact hx
  have hg1:R1.g y=R.g y:=by unfold AR.g;rw[h4]
  have hcn:R1.cnt<=65536:=by
   have h1:=Mf R1.sl;have h2:=h.ok.n;unfold AR.cnt;rw[h4]at h1⊢;omega
  have hv1:R1.v y=false:=by unfold AR.v at hv0⊢;rw[h4];exact hv0
  have hc2:(R1.put y (R.g y+1,true)).cnt=R1.cnt+1:=by
   have:=AR.y7 (R:=R1) y (R.g y+1,true) hx1;rw[hv1]at this;simpa using this
  have hn1:R1.sl.length<=65536:=by rw[h4];exact h.ok.n
  have hwg:IntKind.u32.wrap ((R.g y:Int)+1)=(R.g y:Int)+1:=IntWalk.u32_in _ ω;have hwc:IntKind.i64.wrap ((R1.cnt:Int)+1)=(R1.cnt:Int)+1:=IntWalk.i64_in _ ω;have hne:=h.ne;have hnw:=h.nw;have HT:=χ (ψ hTok hc2);clear h hq hTok hc2 hcnt hsl hmst hv0 h4
  go_enter Tryz.func66,Tryz.ntmps66
  go_upto_region 4 with(first
   | ((go_at_call 82;(with_reducible refine(k _ β).mono ?_));rintro e w1 ⟨rfl,v1,BF,hM,hu1⟩;(have q0:w1.cell? ⟨w.heap.size,0,none⟩=some (.int .i64 0):=hu1.kept γ ζ);(have q1:w1.cell? ⟨w.heap.size,1,none⟩=some (.int .u32 0):=hu1.kept γ ζ);(have f0:w1.frozen? ⟨w.heap.size,0,none⟩=false:=hu1.aS (v:=.int .i64 0) γ ζ γ);(have f1:w1.frozen? ⟨w.heap.size,1,none⟩=false:=hu1.aS (v:=.int .u32 0) γ ζ γ))
   | fail)
  have b0:=hM.c0;have b1:=hM.s0 hx1;have b2:=hM.s1 hx1;have b3:=hM.c3;have g1:=hM.row.free (y*2);have g2:=hM.row.free (y*2+1);have g3:=hM.head.free 3;have hyI:(y:Int)<(R1.sl.length:Int):=ω;rw[hg1]at b1;have hsz1:=hu1.size;have hgl:=hM.row.lt;have hnr1:¬ga=w.heap.size:=ω;have hnr2:¬pa=w.heap.size:=ω;have Z8:¬w.heap.size=ga:=ω;have ZV:¬w.heap.size=pa:=ω;have Yr:¬ga=pa:=fun e=>hne e.symm;have hrow:=(hM.row.set (y*2) (.int .u32 ((R.g y:Int)+1))).set (y*2+1) (.bool true);have HM:=χ (ψ hM (ψ hrow (ψ hu1 (ψ BF (ψ hnw hvl)))));clear hM hrow hu1 k BF hnw hvl;generalize hgy:R.g y=gy at *
  generalize R1.cnt=cn at *;generalize hnn:R1.sl.length=n at *;have HG:=χ (ψ hgy hnn);clear hgy hnn;go_wp2;obtain⟨hM,hrow,hu1,BF,hnw,hvl⟩:=HM.out;have e1:(((gy+1:Nat)):Int)=(gy:Int)+1:=ω;have hU:aa [ga] w1 ((w1.setCell ⟨ga,y*2,none⟩ (.int .u32 ((gy:Int)+1))).setCell ⟨ga,y*2+1,none⟩ (.bool true)):=((aa.refl _ _).setCell (Or.inl σ) _).setCell (Or.inl σ) _;have hok:=HT.out.1;have hct:=HT.out.2
  have hP:=hM.put (by rw[HG.out.2];exact hx1) (gy+1,true) hok (w':=(w1.setCell ⟨ga,y*2,none⟩ (.int .u32 ((gy:Int)+1))).setCell ⟨ga,y*2+1,none⟩ (.bool true)) (by
   rw[HG.out.2]
   exact hrow.ext (fun j hj=>by dsimp only;rw[e1])) hU
  rw[hct,show((cn+1:Nat):Int)=(cn:Int)+1 by omega]at hP;have hF:∀x,x∈pa::ga::v1.ownBlock.toList->x∈pa::ga::v.ownBlock.toList:=fun x hx=>by rw[BF]at hx;exact hx
  have hU1:aa (pa::ga::v.ownBlock.toList) w w1:=aa.trans ((aa.refl _ _).alloc _) (hu1.mono σ);refine bodyPost_ret (v:=.tuple #[.agg #[.int .i64 (y:Int),.int .u32 ((gy:Int)+1)],.int .i64 0]) (by simp[results,Tryz.results66,go_sem,q0,q1,hnr1,hnr2,Z8,ZV]) rfl ⟨by rw[HG.out.1],pa::ga::v1.ownBlock.toList,⟨ga,v1,rfl,?_⟩,?_,fun x hx=>Or.inl (hF x hx)⟩
  ·rw[HG.out.1];refine hP.upd (S:=[w.heap.size]) (((aa.refl _ _).setCell (Or.inl σ) _).setCell (Or.inl σ) _) (fun x hx hm=>?_);simp at hx;subst hx;have hm2:=hF _ hm;simp at hm2;rcases hm2 with e|e|e
   ·exact ZV e
   ·exact Z8 e
   ·have:=hvl _ e;omega
  ·exact((((hU1.setCell (Or.inl σ) _).setCell (Or.inl σ) _).setCell (Or.inl σ) _).setCell (Or.inr (Nat.le_refl _)) _).setCell (Or.inr (Nat.le_refl _)) _
end
theorem ZK{R:AR}{x:Nat}(h:R.Ok)(hv:R.v x=true):(R.put x (R.g x,false)).Ok:=by
 have k:=(Fh h hv).1;refine⟨k.n,k.nx,k.Wv,fun z hz=>k.wt z ?_,h.nd,k.fresh,k.lv,k.gm⟩
 show z∈(if R.g x<R.most then R.wait++[x]else R.wait)
 split
 ·exact τ.2 (Or.inl hz)
 ·exact hz
section
variable {w:World}{pa ga:Nat}{v:Value}{R:AR}{F:List Nat}
theorem uE.acX{w2:World}(hh:aL w2 pa 158 5 (Z4 ga v R))(hr:aL w2 ga 155 (R.sl.length*2) (Pe R))(hne:pa≠ga){R':AR}{v':Value}(ok:R'.Ok)(e1:R'.sl=R.sl)(e2:R'.next=R.next)(e3:R'.most=R.most)(hw:w2.ownsRow 0 3 1 v' R'.wait.length (aQ (bH R'.wait)))(hb:∀k,v'.ownBlock=some k->k≠pa/\k≠ga) :
  uE (w2.setCell ⟨pa,1,none⟩ v') pa ga v' R':=by
 have hu:aa [pa] w2 (w2.setCell ⟨pa,1,none⟩ v'):=(aa.refl _ _).setCell (Or.inl σ) _;refine⟨(hh.set 1 v').ext (fun j hj=>?_),?_,aC hw hu (fun k hk e=>(hb k hk).1 (by simpa using e)),hne,hb,ok⟩
 ·rcases(ω:j=0\/j=1\/j=2\/j=3\/j=4)with rfl|rfl|rfl|rfl|rfl<;>simp[Z4,AR.cnt,e1,e2,e3]
 ·rw[e1];exact(hr.upd hu (by simp;exact fun e=>hne e.symm)).ext (fun j hj=>by unfold Pe AR.g AR.v;rw[e1])
theorem JZ(h:qM w pa F R)(x:Nat)(hv:R.v x=true) :
    Calls Tryz.prog 67 #[.pointer (some ⟨pa,0,none⟩),.agg #[.int .i64 (x:Int),.int .u32 (R.g x:Int)]] w fun e w'=>e=.returned (.int .i64 0)/\Goes F w w' (fun F'=>qM w' pa F' (kW R x)):=by
  have hx:=AR.Oo hv;have hok:=h.ok;have hgm:=hok.gm x;have hmo:=hok.Wv;have kl:=fun W (hW:aa [] w W)=>Ap (h.upd hW σ) (x:Int) (R.g x:Int) ω;have hlv:CK R (x:Int) (R.g x:Int)=true:=by
    unfold CK;rw[show((x:Nat):Int).toNat=x by omega,hv,decide_eq_true (ω:(0:Int)<=x),decide_eq_true (ω:(x:Int)<R.sl.length)];simp
  rw[hlv]at kl;obtain⟨ga,v,rfl,h⟩:=h;obtain⟨av,cv,rfl,hcv⟩:=bq h.wait;have De:=Fh hok hv;have hoff:=ZK hok hv;have hcn:R.cnt<=65536:=by have h1:=Mf R.sl;have h2:=hok.n;unfold AR.cnt;omega
  have hc1:(R.put x (R.g x,false)).cnt+1=R.cnt:=by
    have:=AR.y7 (R:=R) x (R.g x,false) hx;rw[hv]at this;simpa using this
  have hwc:IntKind.i64.wrap ((R.cnt:Int)-1)=(R.cnt:Int)-1:=IntWalk.i64_in _ ω;have hlp:=h.head.lt;have hlg:=h.row.lt;have hne:=h.ne;have hwl:=AR.MK hok;have hnn:=hok.n;have hnx:=hok.nx;have H:=χ (ψ h (ψ hoff (ψ De hc1)));have hvl:=fun k hk=>(h.wait.lt k hk).2;have HVL:=χ (ψ hvl h.nw);have b0':=h.c0;have b3':=h.c3;have b4':=h.c4;have b1':=h.c1;have s1':=h.s1 hx;have g2':=h.row.free (x*2+1);have g3':=h.head.free 3;have g1':=h.head.free 1;have BN:(x:Int)<(R.sl.length:Int):=ω;clear h hok De hoff hlv hvl hv;have hnr1:¬ga=w.heap.size:=ω;have hnr2:¬pa=w.heap.size:=ω;have Z8:¬w.heap.size=ga:=ω
  have ZV:¬w.heap.size=pa:=ω;have Yr:¬ga=pa:=fun e=>hne e.symm
  go_enter Tryz.func67,Tryz.ntmps67
  go_wp2_with (first
    | ((go_at_call 83;(with_reducible refine(kl _ β).mono ?_));rintro e w1 ⟨rfl,hu1⟩;(have q0:w1.cell? ⟨w.heap.size,0,none⟩=some (.int .i64 (x:Int)):=hu1.was γ);(have q1:w1.cell? ⟨w.heap.size,1,none⟩=some (.int .u32 (R.g x:Int)):=hu1.was γ);(have hu:aa [] w w1:=aa.trans β hu1);(have b0:=hu.was b0');(have b1:=hu.was b1');(have b3:=hu.was b3');(have b4:=hu.was b4');(have s1:=hu.was s1');(have g1:=hu.aS b1' σ g1');(have g2:=hu.aS s1' σ g2');(have g3:=hu.aS b3' σ g3'))
    | fail)
  have HU:=χ hu;have hsz1:=hu.size;have hszA:=hu1.size;rw[World.size_alloc]at hszA;clear hu hu1 kl b0' b1' b3' b4' s1' g1' g2' g3'
  go_region
  go_upto_region 5 with(fail)
  obtain⟨hM,hoff,De,hc1⟩:=H.out;have hM1:=hM.upd HU.out σ
  have hP:=fun W (hW:aa [] w1 W)=>(hM1.upd hW σ).put hx (R.g x,false) hoff (w':=W.setCell ⟨ga,x*2+1,none⟩ (.bool false)) (((hM1.upd hW σ).row.set (x*2+1) (.bool false)).ext (fun j hj=>by
    dsimp only
    by_cases e1:j=x*2+1
    · rw[if_pos e1,if_pos e1]
    · rw[if_neg e1,if_neg e1]
      by_cases e2:j=x*2
      · rw[if_pos e2,e2];unfold Pe;rw[if_pos ω,show x*2 / 2=x by omega]
      · rw[if_neg e2])) ((aa.refl _ _).setCell (Or.inl σ) _)
  rw[show(((R.put x (R.g x,false)).cnt:Nat):Int)=(R.cnt:Int)-1 by omega]at hP;refine jk (fun W=>W.cell? ⟨w.heap.size,0,none⟩=some (.int .i64 (x:Int))/\W.cell? ⟨w.heap.size,1,none⟩=some (.int .u32 (R.g x:Int))/\uE W pa ga (.slice av R.wait.length cv) (R.put x (R.g x,false))/\aa [pa,ga] w W) ⟨γ,γ,(hP w1 (aa.refl _ _)).upd (S:=[]) ((aa.refl _ _).drew) σ,?_⟩ ?_
  · have:=HU.out.mono (T:=[pa,ga]) σ
    (repeat(first|assumption|exact aa.refl _ _|refine aa.alloc ?_ _|refine aa.drew ?_|refine aa.drewN ?_ _|refine aa.setCell ?_ ?_ _|focus(left;simp;done)|focus(right;simp;done)|focus(right;simp;omega)))
  rintro W ⟨q2,q3,mi,QU⟩;clear hM1 hP hM b0 b1 b3 b4 s1 g1 g2 g3 q0 q1;have c1:=mi.c1;have c4:=mi.c4;have f1:=mi.head.free 1;have hw:=mi.wait;have hszW:=QU.size;have hlW:w.heap.size<W.heap.size:=World.block_lt_of_cell? W _ q2;have HMW:=χ (ψ mi (ψ De QU));clear mi QU De hc1 hoff;rw[show(R.put x (R.g x,false)).most=R.most from rfl]at c4;rw[show(R.put x (R.g x,false)).wait=R.wait from rfl]at hw
  by_cases hlt:R.g x<R.most
  · have hltb:decide ((R.g x:Int)<(R.most:Int))=true:=by simp;exact hlt
    go_wp2
    go_quiet (fail)
    go_wp2;refine jk (fun W6=>aa [] W W6) β ?_;intro W6 ik;have p1:=ik.was c1;have p2:=ik.was q2;have pf1:=ik.aS c1 σ f1;have Cr:=aC (S:=[]) hw ik σ;have hsz6:=ik.size;have s0:aa [] W6 (W6.drew.alloc (.cells #[.int .i64 (x:Int)] 3)):=((aa.refl _ _).drew).alloc _;have rr:∀S X,aa S W6 X->pa∉S->X.frozen? ⟨pa,1,none⟩=false:=fun S X h hn=>h.aS p1 hn pf1;have rc:∀S X,aa S W6 X->pa∉S->(X.cell? ⟨pa,1,none⟩).isSome=true:=fun S X h hn=>by rw[h.kept p1 hn];rfl
    have hpa6:pa<W6.heap.size:=World.block_lt_of_cell? W6 _ p1;have hrs6:w.heap.size<W6.heap.size:=World.block_lt_of_cell? W6 _ p2;clear c1 c4 f1 q2 q3 hltb hw
    go_region_law
      (first
        | (refine j4 rfl _ _ 26 rfl 0 3 (.int .i64 0) 1 8 Tryz.underlying26 fF rfl δ (.slice av R.wait.length cv) R.wait.length (aQ (bH R.wait)) rfl (Cr.drew.alloc _) W6.heap.size [.int .i64 (x:Int)] rfl rfl (fun j u hj=>mP W6 [.int .i64 (x:Int)] 3 j u hj) (by simp[Value.oneCell']) μ ω σ ?_
           intro v2 w2 ho2 hu2 hv2;have hS2:aa (Value.slice av R.wait.length cv).ownBlock.toList W6 w2:=(s0.mono σ).trans hu2;have Pw:pa∉(Value.slice av R.wait.length cv).ownBlock.toList:=fun e=>by have:=HVL.out.2 pa (by simpa using e);omega
           have z1:=hS2.kept p1 Pw;have zf1:=hS2.aS p1 Pw pf1
           obtain⟨a2,cap2,rfl,hcap2⟩:=bq ho2))
    all_goals
      go_wp2;go_ret;obtain⟨mi,De,QU⟩:=HMW.out;have uG:=mi.upd ik σ;have hgw:ga∉(Value.slice av R.wait.length cv).ownBlock.toList:=fun e=>by have:=HVL.out.2 ga (by simpa using e);omega
      have eR:kW R x={ R.put x (R.g x,false)with wait:=R.wait++[x] }:=by unfold kW;rw[if_pos hlt]
      have BF:∀k,(Value.slice a2 (R.wait.length+1) cap2).ownBlock=some k->(Value.slice av R.wait.length cv).ownBlock=some k\/W6.heap.size<=k:=fun k hk=>by
        rcases hv2 with h|h
        · rw[h]at hk;exact Or.inl hk
        · rw[h]at hk;simp at hk;exact Or.inr ω
      have hfin:=uE.acX (uG.head.upd hS2 Pw) (uG.row.upd hS2 hgw) hne (R':=kW R x) (v':=.slice a2 (R.wait.length+1) cap2) De.1 (by rw[eR]) (by rw[eR]) (by rw[eR]) (by
        have e2:(kW R x).wait=R.wait++[x]:=by rw[eR]
        rw[e2,υ,show bH (R.wait++[x])=bH R.wait++[(x:Int)]from by unfold bH;simp,bM];exact ho2) (fun k hk=>by
        rcases BF k hk with h|h
        · exact HVL.out.2 k h
        · omega)
      refine⟨rfl,pa::ga::(Value.slice a2 (R.wait.length+1) cap2).ownBlock.toList,⟨ga,_,rfl,hfin⟩,?_,fun k hk=>?_⟩
      · have h1:aa (pa::ga::(Value.slice av R.wait.length cv).ownBlock.toList) w W6:=(QU.mono (fun z hz=>by simp at hz⊢;omega)).trans (ik.mono σ)
        exact(h1.trans (hS2.mono (fun z hz=>by simp[hz]))).setCell (Or.inl σ) _
      · simp only[ρ]at hk⊢
        rcases hk with h|h|h
        · exact Or.inl (Or.inl h)
        · exact Or.inl (Or.inr (Or.inl h))
        · rcases BF k (by simpa using h)with h'|h'
          · exact Or.inl (Or.inr (Or.inr (by simpa using h')))
          · exact Or.inr ω
  · have hltb:decide ((R.g x:Int)<(R.most:Int))=false:=ζ
    go_wp2
    go_quiet (fail)
    go_wp2;go_ret;obtain⟨mi,De,QU⟩:=HMW.out;have eR:kW R x=R.put x (R.g x,false):=by unfold kW;rw[if_neg hlt];rfl
    rw[eR];refine⟨rfl,_,⟨ga,_,rfl,mi.upd (S:=[]) β σ⟩,?_,fun k hk=>Or.inl hk⟩;have h1:aa (pa::ga::(Value.slice av R.wait.length cv).ownBlock.toList) w W:=QU.mono (fun z hz=>by simp at hz⊢;omega);exact h1.trans β
end
def pqC(K:gW)(pa pn:Nat)(kd d:Int)(q:Nat)(j:Nat):Value:=[Value.int .i64 kd,.int .i64 d,.pointer (some ⟨pa,0,none⟩),.iface K.ty (.pointer (some ⟨pn,0,none⟩)),.int .u64 (q:Int)].getD j undef
structure Fv(K:gW)(w:World)(p pa pn:Nat)(Fa Fn:List Nat)(kd d:Int)(R:AR)(A:NS)(q:Nat):Prop where
 head:aL w p 124 5 (pqC K pa pn kd d q)
 ar:qM w pa Fa R
 nest:K.at_ w pn Fn A
 s1:p∉Fa
 s2:p∉Fn
 s3:∀x,x∈Fa->x∉Fn
 len:R.sl.length=A.cs.length
 link:∀x:Nat,R.v x=bS A (x:Int)
def gP(K:gW)(w:World)(p:Nat)(F:List Nat)(kd d:Int)(R:AR)(A:NS)(q:Nat):Prop:=∃pa pn Fa Fn,F=p::(Fa++Fn)/\Fv K w p pa pn Fa Fn kd d R A q
section
variable {K:gW}{w:World}{p pa pn:Nat}{Fa Fn F:List Nat}{kd d:Int}{R:AR}{A:NS}{q:Nat}
theorem Fv.c2(h:Fv K w p pa pn Fa Fn kd d R A q):w.cell? ⟨p,2,none⟩=some (.pointer (some ⟨pa,0,none⟩)):=h.head.cellAt 2 ω rfl
theorem Fv.c3(h:Fv K w p pa pn Fa Fn kd d R A q):w.cell? ⟨p,3,none⟩=some (.iface K.ty (.pointer (some ⟨pn,0,none⟩))):=h.head.cellAt 3 ω rfl
theorem Fv.c4(h:Fv K w p pa pn Fa Fn kd d R A q):w.cell? ⟨p,4,none⟩=some (.int .u64 (q:Int)):=h.head.cellAt 4 ω rfl
theorem Fv.upd{w':World}{S:List Nat}(h:Fv K w p pa pn Fa Fn kd d R A q)(hu:aa S w w')(hS:∀x,x∈S->x∉p::(Fa++Fn)):Fv K w' p pa pn Fa Fn kd d R A q:=
 ⟨h.head.upd hu (fun e=>hS _ e σ),h.ar.upd hu (fun x hx hm=>hS x hx (by simp[hm])),K.upd h.nest hu (fun x hx hm=>hS x hx (by simp[hm])),h.s1,h.s2,h.s3,h.len,h.link⟩
theorem gP.upd{w':World}{S:List Nat}(h:gP K w p F kd d R A q)(hu:aa S w w')(hS:∀x,x∈S->x∉F):gP K w' p F kd d R A q:=by
 obtain⟨pa,pn,Fa,Fn,rfl,h⟩:=h;exact⟨pa,pn,Fa,Fn,rfl,h.upd hu hS⟩
theorem gP.au{w':World}(h:gP K w p F kd d R A q)(hu:aa [] w w'):gP K w' p F kd d R A q:=h.upd hu σ
theorem Fv.lt(h:Fv K w p pa pn Fa Fn kd d R A q):∀x,x∈p::(Fa++Fn)->x<w.heap.size:=fun x hx=>by
 simp only[ρ,τ]at hx;rcases hx with rfl|hx|hx
 ·exact h.head.lt
 ·exact h.ar.lt x hx
 ·exact K.lt h.nest x hx
theorem gP.lt(h:gP K w p F kd d R A q):∀x,x∈F->x<w.heap.size:=by
 obtain⟨pa,pn,Fa,Fn,rfl,h⟩:=h;exact h.lt
theorem gP.ok(h:gP K w p F kd d R A q):A.Ok/\R.Ok/\R.sl.length=A.cs.length/\∀x:Nat,R.v x=bS A (x:Int):=by
 obtain⟨pa,pn,Fa,Fn,rfl,h⟩:=h;exact⟨K.ok h.nest,h.ar.ok,h.len,h.link⟩
theorem Fv.RN(h:Fv K w p pa pn Fa Fn kd d R A q){w':World}{wR:List Nat}{A':NS}(hn:K.at_ w' pn wR A')(hu:aa Fn w w')(hf:∀x,x∈wR->x∈Fn\/w.heap.size<=x)(hl:A'.cs.length=A.cs.length){R':AR}(ha:qM w' pa Fa R')(hl2:R'.sl.length=R.sl.length)
  (hk:∀x:Nat,R'.v x=bS A' (x:Int)):Fv K w' p pa pn Fa wR kd d R' A' q:=
 ⟨h.head.upd hu h.s2,ha,hn,h.s1,fun e=>by rcases hf _ e with e|e;exact h.s2 e;have:=h.head.lt;omega,fun x hx e=>by rcases hf _ e with e|e;exact h.s3 x hx e;have:=h.ar.lt x hx;omega,by rw[hl2,hl];exact h.len,hk⟩
theorem Hr(A:NS)(x:Int):bS (aR A) x=bS A x:=by unfold aR;split<;>rfl
theorem Cm(A:NS):(aR A).cs.length=A.cs.length:=by unfold aR;split<;>rfl
theorem Ei(h:gP K w p F kd d R A q) :
  Calls Tryz.prog 65 #[.pointer (some ⟨p,0,none⟩)] w fun e w'=>e=.returned (.tuple #[.int .i64 (dm A),.int .i64 (if dm A=0 then 32 else 0)])/\Goes F w w' (fun F'=>gP K w' p F' kd d R (aR A) q):=by
 obtain⟨pa,pn,Fa,Fn,rfl,h⟩:=h;have c3:=h.c3;obtain⟨f,fv,hen,rU⟩:=K.make h.nest;unfold Enters at hen;have hm:=(rU w (aa.refl _ _)).1;have hc:=(rU w (aa.refl _ _)).2
 have HK:=χ (show ∀w' wR,K.at_ w' pn wR (aR A)->aa Fn w w'->(∀x,x∈wR->x∈Fn\/w.heap.size<=x)->Goes (p::(Fa++Fn)) w w' (fun F'=>gP K w' p F' kd d R (aR A) q)from fun w' wR hn hu hf=>by
  refine⟨p::(Fa++wR),⟨pa,pn,Fa,wR,rfl,h.RN hn hu hf (Cm A) (h.ar.upd hu (fun x hx hm=>h.s3 x hm hx)) rfl (fun x=>by rw[Hr];exact h.link x)⟩,hu.mono (fun x hx=>by simp[hx]),fun x hx=>?_⟩;simp only[ρ,τ]at hx⊢;rcases hx with hx|hx|hx
  ·exact Or.inl (Or.inl hx)
  ·exact Or.inl (Or.inr (Or.inl hx))
  ·rcases hf x hx with hx|hx
   ·exact Or.inl (Or.inr (Or.inr hx))
   ·exact Or.inr hx)
 clear h rU;generalize dm A=mv at *
 by_cases hz:mv=0
 ·subst hz
  go_enter Tryz.func65,Tryz.ntmps65
  go_wp2_with (first
   | ((with_reducible refine(hc).mono ?_);rintro e w1 ⟨rfl,wR,hn,hu,hf⟩)
   | fail)
  go_ret2;exact⟨rfl,HK.out _ _ hn hu hf⟩
 ·have hzb:(mv == 0)=false:=by simpa using hz
  rw[if_neg hz];clear hz
  go_enter Tryz.func65,Tryz.ntmps65
  go_wp2_with (first
   | ((with_reducible refine(hc).mono ?_);rintro e w1 ⟨rfl,wR,hn,hu,hf⟩)
   | fail)
  go_ret2;exact⟨rfl,HK.out _ _ hn hu hf⟩
end
section
variable {K:gW}{w:World}{p pa pn:Nat}{Fa Fn F:List Nat}{kd d:Int}{R:AR}{A:NS}{q:Nat}
theorem Q3{A:NS}{hh x k s:Int}(hB:oG A hh x=true)(y:Nat):bS (aK A hh x k s) (y:Int)=(bS A (y:Int) || decide ((y:Int)=x)):=by
 obtain⟨b1,b2,b3⟩:=(fB _ _ _).1 hB;have b4:=(aV _ _).1 b1;have b5:=(gU _ _).1 b2;unfold aK;rw[if_pos hB];have e1:bS (jc A x.toNat ⟨hh,k,s⟩) (y:Int)=true↔(bS A (y:Int) || decide ((y:Int)=x))=true:=by
  rw[ah,fI,kH,Bool.or_eq_true,ah,decide_eq_true_eq]
  by_cases e:y=x.toNat
  ·rw[if_pos ⟨e,ω⟩];constructor
   ·intro _;right;omega
   ·intro _;exact⟨ω,by show 0<hh;omega⟩
  ·rw[if_neg (fun h=>e h.1)];constructor
   ·intro h;exact Or.inl h
   ·rintro(h|h)
    ·exact h
    ·omega
 cases h1:bS (jc A x.toNat ⟨hh,k,s⟩) (y:Int)<;>cases h2:(bS A (y:Int) || decide ((y:Int)=x))<;>simp_all
theorem Gx(A:NS)(h x k s:Int):(aK A h x k s).cs.length=A.cs.length:=by unfold aK;split;exact fI _ _ _;rfl
theorem Ak{R R':AR}{x:Nat}(h:R.Ok)(hp:vz R=some (x,R'))(y:Nat):R'.v y=(R.v y || decide ((y:Int)=(x:Int))):=by
 obtain⟨_,h1,h2,_,h3,_⟩:=xz h hp;have e:R'.v y=(R.put x (R.g x+1,true)).v y:=by unfold AR.v AR.put;rw[h3]
 rw[e,AR.zK]
 by_cases e2:y=x
 ·rw[if_pos ⟨e2,h1⟩,e2];simp
 ·rw[if_neg (fun h=>e2 h.1),decide_eq_false ω];simp
theorem Gc(h:gP K w p F kd d R A q)(hh k:Int)(hB:bJ A hh=true)(hk:-9223372036854775808<=k/\k<=9223372036854775807)(hq:q+1<=18446744073709551615){x:Nat}{R':AR}(hT:vz R=some (x,R')) :
  Calls Tryz.prog 40 #[.pointer (some ⟨p,0,none⟩),.int .i64 hh,.int .i64 k] w fun e w'=>e=.returned (.tuple #[.agg #[.int .i64 (x:Int),.int .u32 ((R.g x:Int)+1)],.int .i64 0])/\
   Goes F w w' (fun F'=>gP K w' p F' kd d R' (aK A hh (x:Int) k ((q:Int)+1)) (q+1)):=by
 obtain⟨hh,rfl⟩:∃n:Nat,hh=n:=⟨hh.toNat,by have:=(aV _ _).1 hB;omega⟩;obtain⟨pa,pn,Fa,Fn,rfl,h⟩:=h;have hok:=K.ok h.nest;have Oc:=xz h.ar.ok hT;have FX:=h.link;have hBp:oG A (hh:Int) (x:Int)=true:=by
  rw[fB];refine⟨hB,(gU _ _).2 ⟨ω,by have:=h.len;omega⟩,?_⟩;rw[←h.link];exact Oc.2.2.1
 have hb4:=(aV _ _).1 hB;have lT:=hok.h1;have hsn:=hok.c1;have hxl:=Oc.2.1;have hlen:=h.len;have hac:-9223372036854775808<=k/\k<=9223372036854775807/\0<=(q:Int)+1/\(q:Int)+1<=18446744073709551615:=ω;have c2:=h.c2;have c3':=h.c3;have Yy:=h.c4;have f4':=h.head.free 4;have hpl:=h.head.lt;have hFa:=h.ar.lt;have hFn:=K.lt h.nest;have hs1:=h.s1;have hs2:=h.s2;have hs3:=h.s3;have hu0:aa [] w (w.alloc (.cells #[.int .i64 0,.int .u32 0] 85)):=(aa.refl [] w).alloc _;have hN:=K.upd h.nest hu0 σ;have kt:=fun W (hW:aa [] w W)=>IW (h.ar.upd hW σ) hT;obtain⟨f,fv,hen,rU⟩:=K.has hh hN;unfold Enters at hen
 have hm:=(rU _ (aa.refl _ _)).1;have hc:=(rU _ (aa.refl _ _)).2;rw[hB]at hc;have hwq:IntKind.u64.wrap ((q:Int)+1)=(q:Int)+1:=IntWalk.u64_in _ ω;have xw:w.heap.size∉Fa:=fun e=>by have:=hFa _ e;omega
 have HH:=χ (ψ h (ψ hN (ψ hac (ψ hFa (ψ hFn (ψ hs3 (ψ FX Oc)))))));have HBp:=χ hBp;clear h rU hN hac hFa hFn hs3 FX Oc hok hB hBp
 go_enter Tryz.func40,Tryz.ntmps40
 go_upto_region 7 with(first
  | ((with_reducible refine(hc).mono ?_);rintro e w1 ⟨rfl,rfl⟩)
  | ((go_at_call 66;(with_reducible refine(kt _ β).mono ?_));rintro e w2 ⟨rfl,Mi,hA2,huA,hfA⟩;(have c3:w2.cell? ⟨p,3,none⟩=some (.iface K.ty (.pointer (some ⟨pn,0,none⟩))):=huA.kept (hu0.was c3') hs1);(have c4:w2.cell? ⟨p,4,none⟩=some (.int .u64 (q:Int)):=huA.kept (hu0.was Yy) hs1);(have f4:w2.frozen? ⟨p,4,none⟩=false:=huA.aS (hu0.was Yy) hs1 (hu0.aS Yy σ f4'));(have q0:w2.cell? ⟨w.heap.size,0,none⟩=some (.int .i64 0):=huA.kept γ xw);(have q1:w2.cell? ⟨w.heap.size,1,none⟩=some (.int .u32 0):=huA.kept γ xw);(have f0:w2.frozen? ⟨w.heap.size,0,none⟩=false:=huA.aS (v:=.int .i64 0) γ xw γ);(have f1:w2.frozen? ⟨w.heap.size,1,none⟩=false:=huA.aS (v:=.int .u32 0) γ xw γ);(have hp2:=World.block_lt_of_cell? w2 _ c3);(have hr2:=World.block_lt_of_cell? w2 _ q0))
  | fail)
 obtain⟨h,hN0,hac,hFa,hFn,hs3,FX,Oc⟩:=HH.out;have hd2:aL w2 p 124 5 (pqC K pa pn kd d q):=(h.head.upd hu0 σ).upd huA hs1;have Te:K.at_ w2 pn Fn A:=K.upd hN0 huA hs3;have Xq:aa [p] w2 ((w2.setCell ⟨p,4,none⟩ (.int .u64 ((q:Int)+1))).alloc (.cells #[.int .i64 (x:Int),.int .u32 ((R.g x:Int)+1)] 85)):=((aa.refl _ _).setCell (Or.inl σ) _).alloc _;have Qq:p∉Mi:=fun e=>by rcases hfA _ e with e|e;exact hs1 e;simp at e;omega
 have Qm:∀z,z∈Mi->z<w2.heap.size:=hA2.lt
 refine jk (fun W=>aL W p 124 5 (pqC K pa pn kd d (q+1))/\qM W pa Mi R'/\K.at_ W pn Fn A/\W.cell? ⟨w2.heap.size,0,none⟩=some (.int .i64 (x:Int))/\W.cell? ⟨w2.heap.size,1,none⟩=some (.int .u32 ((R.g x:Int)+1))/\
  W.cell? ⟨w.heap.size,0,none⟩=some (.int .i64 0)/\W.cell? ⟨w.heap.size,1,none⟩=some (.int .u32 0)/\W.frozen? ⟨w.heap.size,0,none⟩=false/\W.frozen? ⟨w.heap.size,1,none⟩=false/\aa [p] w2 W)
  ⟨((hd2.set 4 _).ext (fun j hj=>?_)).alloc _,hA2.upd Xq (fun z hz=>by simp at hz;rw[hz];exact Qq),K.upd Te Xq (fun z hz=>by simp at hz;rw[hz];exact hs2),γ,γ,Xq.kept q0 ζ,Xq.kept q1 ζ,Xq.aS q0 ζ f0,Xq.aS q1 ζ f1,Xq⟩ ?_
 ·rcases(ω:j=0\/j=1\/j=2\/j=3\/j=4)with rfl|rfl|rfl|rfl|rfl<;>simp[pqC]
 rintro W ⟨hd,hA,hN,x0,x1,r0,r1,UF,PZ,QU⟩;have z3:W.cell? ⟨p,3,none⟩=some (.iface K.ty (.pointer (some ⟨pn,0,none⟩))):=hd.cellAt 3 ω rfl;have z4:W.cell? ⟨p,4,none⟩=some (.int .u64 ((q:Int)+1)):=hd.cellAt 4 ω (by simp[pqC]);obtain⟨f2,fv2,R5,z8⟩:=K.insert hh x k ((q:Int)+1) hac HBp.out hN;unfold Enters at R5;have hm2:=(z8 W.drew ((aa.refl _ _).drew)).1;have hc2:=(z8 W.drew ((aa.refl _ _).drew)).2;have hszW:=QU.size;have hrw:w.heap.size<W.heap.size:=ω;have hxw:w2.heap.size<W.heap.size:=World.block_lt_of_cell? W _ x0;have QP:w2.heap.size∉Fn:=fun e=>by have:=hFn _ e;omega
 have p9:w.heap.size∉Fn:=fun e=>by have:=hFn _ e;omega
 have TY:∀z,z∈Mi->z∈Fn->False:=fun z h1 h2=>by
  rcases hfA z h1 with e|e
  ·exact hs3 z e h2
  ·have:=hFn z h2;simp at e;omega
 have XM:∀z,z∈Mi->z<W.heap.size:=hA.lt;have hUw2:aa (p::(Fa++Fn)) w w2:=aa.trans ((aa.refl _ _).alloc _) (huA.mono (fun z hz=>by simp[hz]));have HFIN:Hid (∀w5 F5,K.at_ w5 pn F5 (aK A hh (x:Int) k ((q:Int)+1))->aa Fn W.drew w5->(∀z,z∈F5->z∈Fn\/W.drew.heap.size<=z)->∀v0 v1,Goes (p::(Fa++Fn)) w ((w5.setCell ⟨w.heap.size,0,none⟩ v0).setCell ⟨w.heap.size,1,none⟩ v1) (fun F'=>gP K ((w5.setCell ⟨w.heap.size,0,none⟩ v0).setCell ⟨w.heap.size,1,none⟩ v1) p F' kd d R' (aK A hh (x:Int) k ((q:Int)+1)) (q+1))):=by
  intro w5 F5 hA5 qV Ws v0 v1;have bW:aa Fn W w5:=((aa.refl Fn W).drew).trans qV;have hr:aa [w.heap.size] w5 ((w5.setCell ⟨w.heap.size,0,none⟩ v0).setCell ⟨w.heap.size,1,none⟩ v1):=((aa.refl _ _).setCell (Or.inl σ) _).setCell (Or.inl σ) _;have hrF5:w.heap.size∉F5:=fun e=>by rcases Ws _ e with e|e;exact p9 e;have e':W.heap.size<=w.heap.size:=e;omega
  have aa7:w.heap.size∉Mi:=fun e=>by rcases hfA _ e with e|e;have:=hFa _ e;omega;simp at e;omega
  refine⟨p::(Mi++F5),⟨pa,pn,Mi,F5,rfl,⟨(hd.upd bW hs2).upd hr ζ,(hA.upd bW (fun z h1 h2=>TY z h2 h1)).upd hr (fun z hz=>by simp at hz;rw[hz];exact aa7),K.upd hA5 hr (fun z hz=>by simp at hz;rw[hz];exact hrF5),Qq,fun e=>?_,fun z h1 h2=>?_,?_,fun y=>?_⟩⟩,?_,fun z hz=>?_⟩
  ·rcases Ws _ e with e|e
   ·exact hs2 e
   ·have e':W.heap.size<=p:=e;omega
  ·rcases Ws _ h2 with e|e
   ·exact TY z h1 e
   ·have e':W.heap.size<=z:=e;have:=XM z h1;omega
  ·rw[Gx,←hlen,Oc.2.2.2.2.1];simp
  ·rw[Ak h.ar.ok hT,Q3 HBp.out,FX]
  ·have h1:=(hUw2.trans (QU.mono σ)).trans (bW.mono (fun z hz=>by simp[hz]));exact(h1.setCell (Or.inr (Nat.le_refl _)) _).setCell (Or.inr (Nat.le_refl _)) _
  ·simp only[ρ,τ]at hz⊢;rcases hz with hz|hz|hz
   ·exact Or.inl (Or.inl hz)
   ·rcases hfA z hz with e|e
    ·exact Or.inl (Or.inr (Or.inl e))
    ·simp at e;exact Or.inr ω
   ·rcases Ws z hz with e|e
    ·exact Or.inl (Or.inr (Or.inr e))
    ·have e':W.heap.size<=z:=e;exact Or.inr ω
 clear h hN0 hac hFa hFn FX Oc hd2 Te hd hA hN QU z8 q0 q1 f0 f1 c3 c4 f4 c2 c3' Yy f4' hc hm hen kt hA2 Xq huA hfA Qq TY XM hUw2
 go_region_law
  (first
   | (go_simp;(with_reducible refine(hc2).mono ?_);rintro e w5 ⟨rfl,F5,hA5,bW,Ws⟩;(have y0:=bW.kept x0 QP);(have y1:=bW.kept x1 QP);(have t0:=bW.kept r0 p9);(have t1:=bW.kept r1 p9);(have tf0:=bW.aS r0 p9 UF);(have tf1:=bW.aS r1 p9 PZ)))
 all_goals
  go_wp2;exact bodyPost_ret (v:=.tuple #[.agg #[.int .i64 (x:Int),.int .u32 ((R.g x:Int)+1)],.int .i64 0]) (by simp[results,Tryz.results40,go_sem,t0,t1]) rfl ⟨rfl,HFIN.out _ _ hA5 bW Ws _ _⟩
end
section
variable {K:gW}{w:World}{p pa pn:Nat}{Fa Fn F:List Nat}{kd d:Int}{R:AR}{A:NS}{q:Nat}
theorem AZ(h:gP K w p F kd d R A q)(x:Nat)(hv:R.v x=true) :
  Calls Tryz.prog 69 #[.pointer (some ⟨p,0,none⟩),.agg #[.int .i64 (x:Int),.int .u32 (R.g x:Int)]] w fun e w'=>e=.returned (.tuple #[.agg #[.int .i64 (A.c x).k,.int .u64 (A.c x).s],.int .i64 0])/\aa [] w w':=by
 obtain⟨pa,pn,Fa,Fn,rfl,h⟩:=h;have hin:bS A (x:Int)=true:=by rw[←h.link];exact hv
 have hx:=AR.Oo hv;have hgm:=h.ar.ok.gm x;have hmo:=h.ar.ok.Wv;have hlv:CK R (x:Int) (R.g x:Int)=true:=by
  unfold CK;rw[show((x:Nat):Int).toNat=x by omega,hv,decide_eq_true (ω:(0:Int)<=x),decide_eq_true (ω:(x:Int)<R.sl.length)];simp
 have kl:=fun W (hW:aa [] w W)=>Ap (h.ar.upd hW σ) (x:Int) (R.g x:Int) ω;rw[hlv]at kl;have c2':=h.c2;have c3':=h.c3;have HH:=χ h;clear h hlv hv;generalize R.g x=gx at *
 go_enter Tryz.func69,Tryz.ntmps69
 go_upto_region 1 with(fail)
 refine jk (fun W=>W.cell? ⟨w.heap.size,0,none⟩=some (.int .i64 (x:Int))/\W.cell? ⟨w.heap.size,1,none⟩=some (.int .u32 (gx:Int))/\W.cell? ⟨w.heap.size+1,0,none⟩=some (.int .i64 0)/\W.cell? ⟨w.heap.size+1,1,none⟩=some (.int .u64 0)/\W.frozen? ⟨w.heap.size+1,0,none⟩=false/\W.frozen? ⟨w.heap.size+1,1,none⟩=false/\aa [] w W) ⟨σ,σ,σ,σ,σ,σ,β⟩ ?_;rintro W ⟨x0,x1,r0,r1,UF,PZ,hu⟩;have Xo:=fun X (hX:aa [] W X)=>kl X (hu.trans hX);have e0:∀X,aa [] W X->X.cell? ⟨w.heap.size,0,none⟩=some (.int .i64 (x:Int)):=fun X h=>h.was x0
 have e1:∀X,aa [] W X->X.cell? ⟨w.heap.size,1,none⟩=some (.int .u32 (gx:Int)):=fun X h=>h.was x1;have e2:∀X,aa [] W X->X.cell? ⟨p,2,none⟩=some (.pointer (some ⟨pa,0,none⟩)):=fun X h=>h.was (hu.was c2');have HU:=χ (ψ hu (ψ x0 (ψ r0 (ψ r1 (ψ UF PZ)))));clear hu x0 x1 r0 r1 UF PZ kl c2'
 go_region_held3 (aa [] W) (exact ν)
  (first
   | ((go_at_call 83;(with_reducible refine(Xo _ ν).mono ?_));rintro e w1 ⟨rfl,hu1⟩;(have hv1:aa [] W w1:=aa.trans ν hu1)))
 go_upto_region 3 with(fail)
 obtain⟨hu,x0,r0,r1,UF,PZ⟩:=HU.out;refine jk (fun X=>aa [] W X) β ?_;intro X hX;have y0:=hX.was x0;have z3:=hX.was (hu.was c3');have t0:=hX.was r0;have t1:=hX.was r1;have Zw:=hX.aS r0 σ UF;have YQ:=hX.aS r1 σ PZ;have hN:=K.upd HH.out.nest (hu.trans hX) σ;obtain⟨f,fv,hen,rU⟩:=K.entry (x:Int) hN;unfold Enters at hen;have hm:=(rU X.drew ((aa.refl _ _).drew)).1;have hc:=(rU X.drew ((aa.refl _ _).drew)).2;have huB:aa [] X (X.alloc (.cells #[.int .i64 0,.int .u64 0] 129)).drew:=((aa.refl _ _).alloc _).drew;have tB0:=huB.was t0;have tB1:=huB.was t1;have tfB0:=huB.aS t0 σ Zw;have tfB1:=huB.aS t1 σ YQ
 have nB0:(X.alloc (.cells #[.int .i64 0,.int .u64 0] 129)).drew.cell? ⟨X.heap.size,0,none⟩=some (.int .i64 0):=σ;have nB1:(X.alloc (.cells #[.int .i64 0,.int .u64 0] 129)).drew.cell? ⟨X.heap.size,1,none⟩=some (.int .u64 0):=σ;have nfB0:(X.alloc (.cells #[.int .i64 0,.int .u64 0] 129)).drew.frozen? ⟨X.heap.size,0,none⟩=false:=σ;have nfB1:(X.alloc (.cells #[.int .i64 0,.int .u64 0] 129)).drew.frozen? ⟨X.heap.size,1,none⟩=false:=σ;have HB:=χ (ψ tB0 (ψ tB1 (ψ tfB0 (ψ tfB1 (ψ nB0 (ψ nB1 (ψ nfB0 nfB1)))))));clear tB0 tB1 tfB0 tfB1 nB0 nB1 nfB0 nfB1;have hmB:=(rU _ huB).1;have hcB:=(rU _ huB).2
 rw[hin,show((x:Nat):Int).toNat=x by omega]at hc hcB;simp only[if_true]at hc hcB;have hrl:=World.block_lt_of_cell? X _ t0;have hxl:=World.block_lt_of_cell? X _ y0;have hpl:=World.block_lt_of_cell? X _ z3;dsimp only at hrl hxl hpl;have HU2:=χ (hu.trans hX);clear hu x0 r0 r1 UF PZ hX hN rU huB Xo e0 e1 e2 c3';generalize hkk:(A.c x).k=kk at *;generalize hss:(A.c x).s=ss at *;have HKS:=χ (ψ hkk hss);clear hkk hss
 go_region_law
  (first
   | (go_simp;(with_reducible refine(hc).mono ?_);rintro e w5 ⟨rfl,bW⟩;(have s0:w5.cell? ⟨w.heap.size+1,0,none⟩=some (.int .i64 0):=bW.was t0);(have s1:w5.cell? ⟨w.heap.size+1,1,none⟩=some (.int .u64 0):=bW.was t1);(have fs0:=bW.aS (v:=.int .i64 0) t0 σ Zw);(have fs1:=bW.aS (v:=.int .u64 0) t1 σ YQ);(have hsl:=World.block_lt_of_cell? w5 _ s0))
   | (go_simp;(with_reducible refine(hcB).mono ?_);rintro e w5 ⟨rfl,bW⟩;(have s0:=bW.was HB.out.1);(have s1:=bW.was HB.out.2.1);(have fs0:=bW.aS HB.out.1 σ HB.out.2.2.1);(have fs1:=bW.aS HB.out.2.1 σ HB.out.2.2.2.1);(have hsl:=World.block_lt_of_cell? w5 _ s0);(have b0:=bW.was HB.out.2.2.2.2.1);(have b1:=bW.was HB.out.2.2.2.2.2.1);(have fb0:=bW.aS HB.out.2.2.2.2.1 σ HB.out.2.2.2.2.2.2.1);(have fb1:=bW.aS HB.out.2.2.2.2.2.1 σ HB.out.2.2.2.2.2.2.2)))
 all_goals
  go_wp2;have h5:aa [] w w5:=HU2.out.trans (aa.trans β bW);have h6:=h5.size;exact bodyPost_ret (v:=.tuple #[.agg #[.int .i64 kk,.int .u64 ss],.int .i64 0]) (by simp[results,Tryz.results69,go_sem, *]) rfl ⟨by rw[HKS.out.1,HKS.out.2],β⟩
end
end Go.Proofs.YtklibcncmbofpaaGreat
