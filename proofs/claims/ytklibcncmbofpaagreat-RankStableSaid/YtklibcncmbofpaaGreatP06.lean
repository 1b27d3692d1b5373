/-
  Lemmas for RankSorts: ArP, Ar, Ar2. Conditions: those of each lemma.
-/
import Derived.Deep.RegionLaw
import Derived.Deep.DeepCutAuto
import Derived.Test.YtklibcncmbofpaaGreatP05
set_option maxHeartbeats 8000000
set_option maxRecDepth 10000
set_option linter.unusedVariables false
set_option linter.unusedSimpArgs false
namespace Go.Proofs.YtklibcncmbofpaaGreat
open Go Go.RowKit
structure AR where
 sl:List (Nat×Bool)
 wait:List Nat
 next:Nat
 most:Nat
def AR.g (R:AR) (x:Nat):Nat:=(R.sl.getD x (0,false)).1
def AR.v (R:AR) (x:Nat):Bool:=(R.sl.getD x (0,false)).2
def Ad (l:List (Nat×Bool)):Nat:=(l.filter (fun p=>p.2)).length
def AR.cnt (R:AR):Nat:=Ad R.sl
structure AR.Ok (R:AR):Prop where
 n:R.sl.length≤65536
 nx:R.next≤R.sl.length
 NJ:1≤R.most∧R.most≤4294967295
 wt:∀x,x∈R.wait→x<R.next∧R.v x=false∧R.g x<R.most
 nd:R.wait.Nodup
 fresh:∀x,R.next≤x→R.g x=0∧R.v x=false
 lv:∀x,R.v x=true→1≤R.g x
 gm:∀x,R.g x≤R.most
def AR.new (n most:Nat):AR:=⟨List.replicate n (0,false),[],0,most⟩
def AR.put (R:AR) (x:Nat) (p:Nat×Bool):AR:={ R with sl:=R.sl.set x p }
def mW (R:AR):Option (Nat×AR):=
 match R.wait.getLast? with
 | some x=>some (x,{ R with wait:=R.wait.dropLast })
 | none=>if R.next=R.sl.length then none else some (R.next,{ R with next:=R.next+1 })
def jk (R:AR):Option (Nat×AR):=(mW R).map fun p=>(p.1,p.2.put p.1 (R.g p.1+1,true))
def yY (R:AR) (x g:Int):Bool:=decide (0≤x) && decide (x<R.sl.length) && decide ((R.g x.toNat:Int)=g) && R.v x.toNat
def fU (R:AR) (x:Nat):AR:={ R.put x (R.g x,false) with wait:=if R.g x<R.most then R.wait++[x] else R.wait }
section
variable {R:AR}
theorem AR.qQ (x:Nat) (p:Nat×Bool) (y:Nat):(R.put x p).g y=if y=x∧x<R.sl.length then p.1 else R.g y:=by
 unfold AR.put AR.g;simp only [φ,List.getElem?_set]
 by_cases h:x=y
 ·subst h
  by_cases hl:x<R.sl.length
  ·simp [hl]
  ·simp [hl]
 ·rw [if_neg h,if_neg (fun e=>h e.1.symm)]
theorem AR.wU (x:Nat) (p:Nat×Bool) (y:Nat):(R.put x p).v y=if y=x∧x<R.sl.length then p.2 else R.v y:=by
 unfold AR.put AR.v;simp only [φ,List.getElem?_set]
 by_cases h:x=y
 ·subst h
  by_cases hl:x<R.sl.length
  ·simp [hl]
  ·simp [hl]
 ·rw [if_neg h,if_neg (fun e=>h e.1.symm)]
theorem AR.far {x:Nat} (hx:R.sl.length≤x):R.g x=0∧R.v x=false:=by
 unfold AR.g AR.v;rw [φ,List.getElem?_eq_none hx];exact ⟨rfl,rfl⟩
theorem AR.iH (x:Nat) (p:Nat×Bool):(R.put x p).sl.length=R.sl.length:=by unfold AR.put;simp
theorem AR.Gx {x:Nat} (h:R.v x=true):x<R.sl.length:=by
 rcases Nat.lt_or_ge x R.sl.length with h'|h'
 ·exact h'
 ·rw [(AR.far h').2] at h;cases h
theorem nE (q:Nat×Bool) (r:List (Nat×Bool)):Ad (q::r)=Ad r+if q.2 then 1 else 0:=by
 unfold Ad;rw [List.filter_cons];cases h:q.2<;>simp
theorem Bj:∀ (l:List (Nat×Bool)) (x:Nat) (p:Nat×Bool),x<l.length→Ad (l.set x p)+(if (l.getD x (0,false)).2 then 1 else 0)=Ad l+(if p.2 then 1 else 0)
 | [],x,p,h=>by simp at h
 | q::r,0,p,h=>by
  rw [List.set_cons_zero,nE,nE]
  show _+_+(if q.2 then 1 else 0)=_
  omega
 | q::r,x+1,p,h=>by
  have ih:=Bj r x p (by simpa using h)
  rw [List.set_cons_succ,nE,nE,List.getD_cons_succ];omega
theorem Gf (l:List (Nat×Bool)):Ad l≤l.length:=List.length_filter_le _ _
theorem AR.vP (x:Nat) (p:Nat×Bool) (hx:x<R.sl.length):(R.put x p).cnt+(if R.v x then 1 else 0)=R.cnt+(if p.2 then 1 else 0):=Bj R.sl x p hx
theorem AR.FU (h:R.Ok):R.wait.length≤R.next:=by
 have key:∀ (n:Nat) (l:List Nat),l.Nodup→(∀x,x∈l→x<n)→l.length≤n:=by
  intro n
  induction n with
  | zero=>
   intro l _ h;cases l with
   | nil=>simp
   | cons x r=>have:=h x σ;omega
  | succ n ih=>
   intro l hn h
   have h1:=ih (l.erase n) (hn.erase _) (fun x hx=>by
    have h2:=(List.Nodup.mem_erase_iff hn).1 hx;have:=h x h2.2
    omega)
   have h2:=List.length_erase_le (a:=n) (l:=l);have h3:l.length≤(l.erase n).length+1:=by
    by_cases hm:n∈l
    ·rw [List.length_erase_of_mem hm];omega
    ·rw [List.erase_of_not_mem hm];omega
   omega
 exact key _ _ h.nd (fun x hx=>(h.wt x hx).1)
theorem AR.pM {n most:Nat} (hn:n≤65536) (hm:1≤most∧most≤4294967295):(AR.new n most).Ok:=by
 have e:∀x,(AR.new n most).g x=0∧(AR.new n most).v x=false:=fun x=>by
  unfold AR.new AR.g AR.v;simp only [φ,List.getElem?_replicate]
  split<;>exact ⟨rfl,rfl⟩
 refine ⟨by simp [AR.new];exact hn,by simp [AR.new],hm,fun x hx=>by simp [AR.new] at hx,by simp [AR.new],fun x _=>e x,fun x hx=>?_,fun x=>?_⟩
 ·rw [(e x).2] at hx;cases hx
 ·rw [(e x).1];exact Nat.zero_le _
theorem AR.FD (n most:Nat):(AR.new n most).cnt=0:=by
 unfold AR.cnt Ad AR.new;simp
theorem uH {x:Nat} {R':AR} (h:R.Ok) (hp:mW R=some (x,R')):x<R.sl.length∧R.v x=false∧R.g x<R.most∧R'.sl=R.sl∧R'.most=R.most∧R'.next≤R.sl.length∧x<R'.next∧R.next≤R'.next∧
  (∀y,y∈R'.wait→y∈R.wait∧y≠x)∧R'.wait.Nodup:=by
 unfold mW at hp;cases hl:R.wait.getLast? with
 | some y=>
  rw [hl] at hp;simp only [Option.some.injEq,Prod.mk.injEq] at hp;obtain ⟨rfl,rfl⟩:=hp;have hm:y∈R.wait:=List.mem_of_getLast? hl;obtain ⟨h1,h2,h3⟩:=h.wt y hm;have hn:=h.nd;have happ:R.wait=R.wait.dropLast++[y]:=by
   obtain ⟨l,hl'⟩:=List.getLast?_eq_some_iff.1 hl;rw [hl'];simp
  rw [happ,List.nodup_append] at hn;refine ⟨Nat.lt_of_lt_of_le h1 h.nx,h2,h3,rfl,rfl,h.nx,h1,Nat.le_refl _,fun z hz=>⟨List.dropLast_subset _ hz,fun e=>?_⟩,hn.1⟩
  exact hn.2.2 z hz y σ e
 | none=>
  rw [hl] at hp;have hw:R.wait=[]:=List.getLast?_eq_none_iff.1 hl;dsimp only at hp
  split at hp
  ·cases hp
  ·rename_i hne
   simp only [Option.some.injEq,Prod.mk.injEq] at hp;obtain ⟨rfl,rfl⟩:=hp;have h1:=h.nx;have h2:=h.fresh R.next (Nat.le_refl _);refine ⟨ω,h2.2,by rw [h2.1];exact h.NJ.1,rfl,rfl,by show R.next+1≤_;omega,by show R.next<R.next+1;omega,by show R.next≤R.next+1;omega,fun y hy=>?_,h.nd⟩
   rw [show ({ R with next:=R.next+1 }:AR).wait=R.wait from rfl,hw] at hy;cases hy
theorem sO {x:Nat} {R':AR} (h:R.Ok) (hp:jk R=some (x,R')):R'.Ok∧x<R.sl.length∧R.v x=false∧R.g x<R.most∧R'.sl=R.sl.set x (R.g x+1,true)∧R'.most=R.most∧R'.cnt=R.cnt+1:=by
 unfold jk at hp;cases hq:mW R with
 | none=>rw [hq] at hp;cases hp
 | some q=>
  obtain ⟨y,R1⟩:=q;rw [hq] at hp;simp only [Option.map_some,Option.some.injEq,Prod.mk.injEq] at hp;obtain ⟨rfl,rfl⟩:=hp;obtain ⟨h1,h2,h3,h4,h5,h6,h7,h8,h9,h10⟩:=uH h hq;have eg:∀z,R1.g z=R.g z:=fun z=>by unfold AR.g;rw [h4]
  have ev:∀z,R1.v z=R.v z:=fun z=>by unfold AR.v;rw [h4]
  have hl:y<R1.sl.length:=by rw [h4];exact h1
  refine ⟨⟨by rw [AR.iH,h4];exact h.n,by rw [AR.iH,h4];exact h6,by show 1≤R1.most∧R1.most≤4294967295;rw [h5];exact h.NJ,fun z hz=>?_,h10,fun z hz=>?_,fun z hz=>?_,fun z=>?_⟩,h1,h2,h3,by show R1.sl.set _ _=_;rw [h4],h5,?_⟩
  ·obtain ⟨a1,a2⟩:=h9 z hz;obtain ⟨b1,b2,b3⟩:=h.wt z a1;rw [AR.wU,AR.qQ,if_neg (fun e=>a2 e.1),if_neg (fun e=>a2 e.1),ev,eg]
   refine ⟨Nat.lt_of_lt_of_le b1 h8,b2,?_⟩
   show R.g z<R1.most
   rw [h5];exact b3
  ·have hz':R1.next≤z:=hz;rw [AR.wU,AR.qQ,if_neg ω,if_neg ω,ev,eg];exact h.fresh z ω
  ·rw [AR.wU] at hz;rw [AR.qQ]
   by_cases e:z=y∧y<R1.sl.length
   ·rw [if_pos e];show 1≤R.g y+1;omega
   ·rw [if_neg e] at hz ⊢;rw [ev] at hz;rw [eg];exact h.lv z hz
  ·rw [AR.qQ]
   show _≤R1.most
   rw [h5]
   split
   ·show R.g y+1≤_;omega
   ·rw [eg];exact h.gm z
  ·have hc:=AR.vP (R:=R1) y (R.g y+1,true) hl;rw [ev,h2] at hc;simp at hc;rw [hc];unfold AR.cnt;rw [h4]
theorem vK {x:Nat} (h:R.Ok) (hv:R.v x=true):(fU R x).Ok∧(fU R x).cnt+1=R.cnt:=by
 have hx:=AR.Gx hv;have eg:∀z,(fU R x).g z=R.g z:=fun z=>by
  show (R.put x (R.g x,false)).g z=_
  rw [AR.qQ]
  split
  ·rename_i e;rw [e.1]
  ·rfl
 have ev:∀z,(fU R x).v z=if z=x then false else R.v z:=fun z=>by
  show (R.put x (R.g x,false)).v z=_
  rw [AR.wU]
  by_cases e:z=x
  ·rw [if_pos ⟨e,hx⟩,if_pos e]
  ·rw [if_neg (fun h=>e h.1),if_neg e]
 have hxn:x<R.next:=by
  rcases Nat.lt_or_ge x R.next with h'|h'
  ·exact h'
  ·rw [(h.fresh x h').2] at hv;cases hv
 refine ⟨⟨by show (R.put x _).sl.length≤_;rw [AR.iH];exact h.n,by show R.next≤(R.put x _).sl.length;rw [AR.iH];exact h.nx,h.NJ,fun z hz=>?_,?_,fun z hz=>?_,fun z hz=>?_,fun z=>by rw [eg];exact h.gm z⟩,?_⟩
 ·have hz':z∈(if R.g x<R.most then R.wait++[x] else R.wait):=hz
  rw [ev,eg];have hw:z∈R.wait→z<R.next∧(if z=x then false else R.v z)=false∧R.g z<R.most:=fun hm=>by
   obtain ⟨b1,b2,b3⟩:=h.wt z hm;refine ⟨b1,?_,b3⟩
   split
   ·rfl
   ·exact b2
  split at hz'
  ·rename_i hlt
   rcases List.mem_append.1 hz' with hm|hm
   ·exact hw hm
   ·simp at hm;subst hm;exact ⟨hxn,by rw [if_pos rfl],hlt⟩
  ·exact hw hz'
 ·show (if R.g x<R.most then R.wait++[x] else R.wait).Nodup
  split
  ·rw [List.nodup_append];refine ⟨h.nd,σ,fun a ha b hb e=>?_⟩
   simp at hb;subst hb;subst e;have:=(h.wt _ ha).2.1;rw [hv] at this;cases this
  ·exact h.nd
 ·rw [ev,eg];have hz':R.next≤z:=hz;have:=h.fresh z hz';exact ⟨this.1,by split;rfl;exact this.2⟩
 ·rw [ev] at hz
  split at hz
  ·cases hz
  ·rw [eg];exact h.lv z hz
 ·have hc:=AR.vP (R:=R) x (R.g x,false) hx;rw [hv] at hc;simp at hc;exact hc
end
theorem gB {c:Code} {K:Exit→Act→World→Prop} {a:Act} {W:World} (R:World→Prop) (h:R W) (k:∀W',R W'→Code.wp Tryz.prog c K a W'):Code.wp Tryz.prog c K a W:=k W h
def I9 (R:AR) (j:Nat):Value:=if j % 2=0 then .int .u32 (R.g (j / 2):Int) else .bool (R.v (j / 2))
def Oo (ga:Nat) (v:Value) (R:AR) (j:Nat):Value:=[Value.slice (some ⟨ga,0,none⟩) R.sl.length R.sl.length,v,.int .i64 (R.next:Int),.int .i64 (R.cnt:Int),.int .u32 (R.most:Int)].getD j undef
structure p9 (w:World) (pa ga:Nat) (v:Value) (R:AR):Prop where
 head:aI w pa 158 5 (Oo ga v R)
 row:aI w ga 155 (R.sl.length*2) (I9 R)
 wait:w.ownsRow 0 3 1 v R.wait.length (aH (bz R.wait))
 ne:pa≠ga
 nw:∀k,v.ownBlock=some k→k≠pa∧k≠ga
 ok:R.Ok
def nI (w:World) (pa:Nat) (F:List Nat) (R:AR):Prop:=∃ga v,F=pa::ga::v.ownBlock.toList∧p9 w pa ga v R
section
variable {w:World} {pa ga:Nat} {v:Value} {R:AR} {F:List Nat}
theorem p9.c0 (h:p9 w pa ga v R):w.cell? ⟨pa,0,none⟩=some (.slice (some ⟨ga,0,none⟩) R.sl.length R.sl.length):=h.head.cellAt 0 ω rfl
theorem p9.c1 (h:p9 w pa ga v R):w.cell? ⟨pa,1,none⟩=some v:=h.head.cellAt 1 ω rfl
theorem p9.c2 (h:p9 w pa ga v R):w.cell? ⟨pa,2,none⟩=some (.int .i64 (R.next:Int)):=h.head.cellAt 2 ω rfl
theorem p9.c3 (h:p9 w pa ga v R):w.cell? ⟨pa,3,none⟩=some (.int .i64 (R.cnt:Int)):=h.head.cellAt 3 ω rfl
theorem p9.c4 (h:p9 w pa ga v R):w.cell? ⟨pa,4,none⟩=some (.int .u32 (R.most:Int)):=h.head.cellAt 4 ω rfl
theorem p9.s0 (h:p9 w pa ga v R) {x:Nat} (hx:x<R.sl.length):w.cell? ⟨ga,x*2,none⟩=some (.int .u32 (R.g x:Int)):=h.row.cellAt (x*2) ω (by unfold I9;rw [if_pos ω,show x*2 / 2=x by omega])
theorem p9.s1 (h:p9 w pa ga v R) {x:Nat} (hx:x<R.sl.length):w.cell? ⟨ga,x*2+1,none⟩=some (.bool (R.v x)):=h.row.cellAt (x*2+1) ω (by unfold I9;rw [if_neg ω,show (x*2+1) / 2=x by omega])
theorem Ht (l:List Nat):(bz l).length=l.length:=by unfold bz;simp
theorem p9.upd {w':World} {S:List Nat} (h:p9 w pa ga v R) (hu:aa S w w') (hS:∀x,x∈S→x∉pa::ga::v.ownBlock.toList):p9 w' pa ga v R:=
 ⟨h.head.upd hu (fun e=>hS _ e σ),h.row.upd hu (fun e=>hS _ e σ),ay h.wait hu (fun k hk e=>hS _ e (by simp [hk])),h.ne,h.nw,h.ok⟩
theorem nI.upd {w':World} {S:List Nat} (h:nI w pa F R) (hu:aa S w w') (hS:∀x,x∈S→x∉F):nI w' pa F R:=by
 obtain ⟨ga,v,rfl,h⟩:=h;exact ⟨ga,v,rfl,h.upd hu hS⟩
theorem nI.lt (h:nI w pa F R):∀x,x∈F→x<w.heap.size:=by
 obtain ⟨ga,v,rfl,h⟩:=h;intro x hx;simp at hx;rcases hx with rfl|rfl|hx
 ·exact h.head.lt
 ·exact h.row.lt
 ·exact (h.wait.lt x hx).2
theorem nI.ok (h:nI w pa F R):R.Ok:=by obtain ⟨ga,v,rfl,h⟩:=h;exact h.ok
theorem KV:(Tryz.prog.info? 155).map (fun i=>(i.zero,i.size,i.bytes))=some (some (.agg #[.int .u32 0,.bool false]),2,8):=by kernel_rfl
theorem Hm (n m:Nat) (w:World) (h:n≤65536) (hm:1≤m∧m≤4294967295) :
  Calls Tryz.prog 80 #[.int .i64 (n:Int),.int .u32 (m:Int)] w fun e w'=>∃pa F,e=.returned (.tuple #[.pointer (some ⟨pa,0,none⟩),.int .i64 0])∧nI w' pa F (AR.new n m)∧aa [] w w'∧∀x,x∈F→w.heap.size≤x:=by
 have hm0:((m:Int) == 0)=false:=ζ
 go_enter Tryz.func80,Tryz.ntmps80
 go_wp2_with (first
  | (at_make;refine wpList_make_row rfl _ 156 rfl 155 (.agg #[.int .u32 0,.bool false]) 2 8 Tryz.underlying156 KV n rfl ω μ ?_;intro w2 hr2 hu2))
 go_ret2;have hh:=dm w2 [.slice (some ⟨w.heap.size,0,none⟩) n n,.slice none 0 0,.int .i64 0,.int .i64 0,.int .u32 (m:Int)] 158;have l1:=hr2.lt;have e:∀x,(AR.new n m).g x=0∧(AR.new n m).v x=false:=fun x=>by
  unfold AR.new AR.g AR.v;simp only [φ,List.getElem?_replicate]
  split<;>exact ⟨rfl,rfl⟩
 refine ⟨w2.heap.size,w2.heap.size::w.heap.size::[],rfl,⟨w.heap.size,.slice none 0 0,rfl,⟨?_,?_,⟨by simp [AR.new,bz,aH],Or.inl ⟨rfl,by simp [AR.new]⟩⟩,ω,fun k hk=>(by cases hk),AR.pM h hm⟩⟩,hu2.trans ((aa.refl _ _).alloc _),fun x hx=>by simp at hx;omega⟩
 ·refine hh.ext (fun j hj=>?_)
  unfold Oo;rw [AR.FD];simp [AR.new]
 ·have hl:(AR.new n m).sl.length=n:=by simp [AR.new]
  rw [hl];refine (hr2.alloc _).ext (fun j hj=>?_)
  unfold I9;rw [(e _).1,(e _).2]
  show (madeCells #[Value.int .u32 0,.bool false] (n*2)).toList.getD j undef=_
  rw [φ,List.getElem?_eq_getElem (by simp [size_madeCells];omega)]
  simp only [Option.getD_some,madeCells,Array.getElem_toList,Array.getElem_map,Array.getElem_range];rcases (ω:j % 2=0∨j % 2=1) with e|e<;>simp [e]
theorem xI (h:nI w pa F R) (x g:Int) (hg:0≤g∧g≤4294967295) :
  Calls Tryz.prog 83 #[.pointer (some ⟨pa,0,none⟩),.agg #[.int .i64 x,.int .u32 g]] w fun e w'=>e=.returned (.bool (yY R x g))∧aa [] w w':=by
 obtain ⟨ga,v,rfl,h⟩:=h;have c0':=h.c0;have hl:=h.ok.n;have H:=χ h;unfold yY
 by_cases b1:x≥0
 ·by_cases b2:x<(R.sl.length:Int)
  ·have d0':=h.s0 (x:=x.toNat) ω;have d1':=h.s1 (x:=x.toNat) ω;rw [show ((x.toNat * 2:Nat))=x.toNat * 2 from rfl] at d0'
   rw [decide_eq_true (show 0≤x from b1),decide_eq_true b2]
   generalize R.g x.toNat=gi at *
   generalize R.v x.toNat=vi at *
   generalize R.sl.length=n at *
   clear h
   go_enter Tryz.func83,Tryz.ntmps83
   (go_upto_region 1 with (fail);refine gB (fun W=>W.cell? ⟨w.heap.size,0,none⟩=some (.int .i64 x)∧W.cell? ⟨w.heap.size,1,none⟩=some (.int .u32 g)∧aa [] w W) ⟨σ,σ,β⟩ ?_;rintro W ⟨q0,q1,hu⟩)
   have c0:=hu.was c0';have d0:=hu.was d0';have d1:=hu.was d1';have HU:=χ hu;clear hu c0' d0' d1'
   by_cases e:(gi:Int)=g
   ·subst e;cases vi
    all_goals
     go_quiet (fail)
     go_wp2;go_ret;exact ⟨aV σ,by have:=HU.out;(repeat (first|assumption|exact aa.refl _ _|refine aa.alloc ?_ _|refine aa.drew ?_|refine aa.drewN ?_ _|refine aa.setCell ?_ ?_ _|focus (left;simp;done)|focus (right;simp;done)|focus (right;simp;omega)))⟩
   ·cases vi
    all_goals
     go_quiet (fail)
     go_wp2;go_ret;exact ⟨aV (by simp [e]),by have:=HU.out;(repeat (first|assumption|exact aa.refl _ _|refine aa.alloc ?_ _|refine aa.drew ?_|refine aa.drewN ?_ _|refine aa.setCell ?_ ?_ _|focus (left;simp;done)|focus (right;simp;done)|focus (right;simp;omega)))⟩
  ·have b2b:decide (x<(R.sl.length:Int))=false:=by simpa using b2
   rw [b2b];generalize R.sl.length=n at *
   clear h
   go_enter Tryz.func83,Tryz.ntmps83
   (go_upto_region 1 with (fail);refine gB (fun W=>W.cell? ⟨w.heap.size,0,none⟩=some (.int .i64 x)∧W.cell? ⟨w.heap.size,1,none⟩=some (.int .u32 g)∧aa [] w W) ⟨σ,σ,β⟩ ?_;rintro W ⟨q0,q1,hu⟩)
   have c0:=hu.was c0';have HU:=χ hu;clear hu c0'
   go_quiet (fail)
   go_wp2;go_ret;exact ⟨aV σ,by have:=HU.out;(repeat (first|assumption|exact aa.refl _ _|refine aa.alloc ?_ _|refine aa.drew ?_|refine aa.drewN ?_ _|refine aa.setCell ?_ ?_ _|focus (left;simp;done)|focus (right;simp;done)|focus (right;simp;omega)))⟩
 ·have b1b:decide (x≥0)=false:=by simpa using b1
  rw [decide_eq_false (show ¬0≤x from b1)]
  clear h
  go_enter Tryz.func83,Tryz.ntmps83
  (go_upto_region 1 with (fail);refine gB (fun W=>W.cell? ⟨w.heap.size,0,none⟩=some (.int .i64 x)∧W.cell? ⟨w.heap.size,1,none⟩=some (.int .u32 g)∧aa [] w W) ⟨σ,σ,β⟩ ?_;rintro W ⟨q0,q1,hu⟩)
  have HU:=χ hu;clear hu
  go_quiet (fail)
  go_wp2;go_ret;exact ⟨aV σ,by have:=HU.out;(repeat (first|assumption|exact aa.refl _ _|refine aa.alloc ?_ _|refine aa.drew ?_|refine aa.drewN ?_ _|refine aa.setCell ?_ ?_ _|focus (left;simp;done)|focus (right;simp;done)|focus (right;simp;omega)))⟩
end
theorem xK {w:World} {base g n cap k:Nat} {e:TypeId} {xs:List Value} (h:w.ownsRow base e 1 (.slice (some ⟨g,0,none⟩) n cap) n xs) (hk:k≤n):w.ownsRow base e 1 (.slice (some ⟨g,0,none⟩) k cap) k (xs.take k):=by
 rcases h.2 with ⟨h1,_⟩|⟨g',cap',cur,h1,hb,hg,hn,hc,hs,ht⟩
 ·cases h1
 ·cases h1;have h0:=h.1;exact ⟨by rw [List.length_take];omega,Or.inr ⟨g,cap,cur,rfl,hb,hg,ω,hc,hs,by rw [←ht,List.take_take];congr 1;omega⟩⟩
theorem MZ {R R':AR} {x:Nat} (h:R.Ok) (hp:mW R=some (x,R')):R'.Ok:=by
 obtain ⟨h1,h2,h3,h4,h5,h6,h7,h8,h9,h10⟩:=uH h hp;have eg:∀z,R'.g z=R.g z:=fun z=>by unfold AR.g;rw [h4]
 have ev:∀z,R'.v z=R.v z:=fun z=>by unfold AR.v;rw [h4]
 refine ⟨by rw [h4];exact h.n,by rw [h4];exact h6,by rw [h5];exact h.NJ,fun z hz=>?_,h10,fun z hz=>?_,fun z hz=>by rw [ev] at hz;rw [eg];exact h.lv z hz,fun z=>by rw [eg,h5];exact h.gm z⟩
 ·obtain ⟨a1,_⟩:=h9 z hz;obtain ⟨b1,b2,b3⟩:=h.wt z a1;rw [ev,eg,h5];exact ⟨ω,b2,b3⟩
 ·rw [ev,eg];exact h.fresh z ω
section
variable {w:World} {pa ga:Nat} {v:Value} {R:AR} {F:List Nat}
theorem Jp (h:nI w pa F R) (x:Nat) (hx:R.v x=true) :
  Calls Tryz.prog 84 #[.pointer (some ⟨pa,0,none⟩),.int .i64 (x:Int)] w fun e w'=>e=.returned (.tuple #[.agg #[.int .i64 (x:Int),.int .u32 (R.g x:Int)],.bool true])∧aa [] w w':=by
 obtain ⟨ga,v,rfl,h⟩:=h;have hl:=AR.Gx hx;have hn:=h.ok.n;have c0:=h.c0;have d0:=h.s0 hl;have d1:=h.s1 hl;rw [hx] at d1;have hxI:(x:Int)<(R.sl.length:Int):=ω;have hx2:¬R.sl.length≤x:=ω;generalize R.g x=gx at *
 generalize R.sl.length=n at *
 have l1:=World.block_lt_of_cell? w _ c0;have l2:=World.block_lt_of_cell? w _ d0;clear h hx
 go_enter Tryz.func84,Tryz.ntmps84
 go_wp2;exact bodyPost_ret (v:=.tuple #[.agg #[.int .i64 (x:Int),.int .u32 (gx:Int)],.bool true]) (by simp [results,Tryz.results84,go_sem]) rfl ⟨rfl,β⟩
theorem Iy {l:List Nat} {j x:Nat} (h:l[j]?=some x):(bz l).getD j 0=(x:Int):=by unfold bz;simp [φ,h]
theorem rG (l:List Int) (k:Nat):(aH l).take k=aH (l.take k):=by unfold aH;rw [List.map_take]
theorem xV (l:List Nat) (k:Nat):(bz l).take k=bz (l.take k):=by unfold bz;rw [List.map_take]
theorem p9.PZ (h:p9 w pa ga v R) {R':AR} {v':Value} (ok:R'.Ok) (e1:R'.sl=R.sl) (e2:R'.next=R.next) (e3:R'.most=R.most) (hw:w.ownsRow 0 3 1 v' R'.wait.length (aH (bz R'.wait))) (hb:∀k,v'.ownBlock=some k→k≠pa∧k≠ga) :
  p9 (w.setCell ⟨pa,1,none⟩ v') pa ga v' R':=by
 have hu:aa [pa] w (w.setCell ⟨pa,1,none⟩ v'):=(aa.refl _ _).setCell (Or.inl σ) _;refine ⟨(h.head.set 1 v').ext (fun j hj=>?_),?_,ay hw hu (fun k hk e=>(hb k hk).1 (by simpa using e)),h.ne,hb,ok⟩
 ·rcases (ω:j=0∨j=1∨j=2∨j=3∨j=4) with rfl|rfl|rfl|rfl|rfl<;>simp [Oo,AR.cnt,e1,e2,e3]
 ·rw [e1];exact (h.row.upd hu (by simp;exact fun e=>h.ne e.symm)).ext (fun j hj=>by unfold I9 AR.g AR.v;rw [e1])
theorem p9.PR (h:p9 w pa ga v R) {R':AR} (ok:R'.Ok) (e1:R'.sl=R.sl) (e2:R'.wait=R.wait) (e3:R'.most=R.most):p9 (w.setCell ⟨pa,2,none⟩ (.int .i64 (R'.next:Int))) pa ga v R':=by
 have hu:aa [pa] w (w.setCell ⟨pa,2,none⟩ (.int .i64 (R'.next:Int))):=(aa.refl _ _).setCell (Or.inl σ) _;refine ⟨(h.head.set 2 _).ext (fun j hj=>?_),?_,by rw [e2];exact ay h.wait hu (fun k hk e=>(h.nw k hk).1 (by simpa using e)),h.ne,h.nw,ok⟩
 ·rcases (ω:j=0∨j=1∨j=2∨j=3∨j=4) with rfl|rfl|rfl|rfl|rfl<;>simp [Oo,AR.cnt,e1,e3]
 ·rw [e1];exact (h.row.upd hu (by simp;exact fun e=>h.ne e.symm)).ext (fun j hj=>by unfold I9 AR.g AR.v;rw [e1])
theorem Ce (h:p9 w pa ga v R) {x:Nat} {R':AR} (hp:mW R=some (x,R')) :
  Calls Tryz.prog 82 #[.pointer (some ⟨pa,0,none⟩)] w fun e w'=>e=.returned (.tuple #[.int .i64 (x:Int),.bool true])∧∃v',v'.ownBlock=v.ownBlock∧p9 w' pa ga v' R'∧aa [pa] w w':=by
 have ok':=MZ h.ok hp;have hwl:=AR.FU h.ok;have hn:=h.ok.n;have hnx:=h.ok.nx;unfold mW at hp;cases hl:R.wait.getLast? with
 | some y=>
  rw [hl] at hp;simp only [Option.some.injEq,Prod.mk.injEq] at hp;obtain ⟨rfl,rfl⟩:=hp;have hne:R.wait≠[]:=fun e=>by rw [e] at hl;cases hl
  have hpos:0<R.wait.length:=List.length_pos_iff.2 hne;have c1:=h.c1;have f1:=h.head.free 1;obtain ⟨gw,cap,rfl,_,hgl,hnc,hcm,hcell,_⟩:=bY h.wait hpos;have hat:R.wait[R.wait.length-1]?=some y:=by rw [←List.getLast?_eq_getElem?];exact hl
  have d0:=hcell (R.wait.length-1) (.int .i64 (y:Int)) (by rw [kS (by rw [Ht];omega),Iy hat])
  have hdl:R.wait.dropLast=R.wait.take (R.wait.length-1):=List.dropLast_eq_take;have hw2:=xK h.wait (k:=R.wait.length-1) ω;rw [rG,xV,←hdl] at hw2;have hll:R.wait.dropLast.length=R.wait.length-1:=σ;have HF:=χ (show p9 (w.setCell ⟨pa,1,none⟩ (.slice (some ⟨gw,0,none⟩) (R.wait.length-1) cap)) pa ga (.slice (some ⟨gw,0,none⟩) (R.wait.length-1) cap) { R with wait:=R.wait.dropLast } from h.PZ ok' rfl rfl rfl (by show w.ownsRow 0 _ 1 _ R.wait.dropLast.length _;rw [hll];exact hw2) h.nw)
  have hgp:=World.block_lt_of_cell? w _ c1;clear h ok' hcell hat hdl hw2 hll hl hne;generalize hwn:R.wait.length=wn at *
  obtain ⟨m,rfl⟩:∃m,wn=m+1:=⟨wn-1,ω⟩
  simp only [Nat.add_sub_cancel] at d0 HF;clear hwn;have hmi:((m+1:Nat):Int)-1=(m:Int):=ω;have hwr:IntKind.i64.wrap (((m+1:Nat):Int)-1)=(m:Int):=by rw [hmi];exact IntWalk.i64_in _ ω
  have hgt:((m+1:Nat):Int) > 0:=ω;have hlt:(m:Int)<((m+1:Nat):Int):=ω;have hcapI:(m:Int)≤(cap:Int):=ω
  go_enter Tryz.func82,Tryz.ntmps82
  go_wp2;go_ret2;exact ⟨rfl,.slice (some ⟨gw,0,none⟩) m cap,rfl,HF.out,β⟩
 | none=>
  rw [hl] at hp;have hw:R.wait=[]:=List.getLast?_eq_none_iff.1 hl;dsimp only at hp
  split at hp
  ·cases hp
  ·rename_i hne
   simp only [Option.some.injEq,Prod.mk.injEq] at hp;obtain ⟨rfl,rfl⟩:=hp;have c0:=h.c0;have c1:=h.c1;have c2:=h.c2;have f2:=h.head.free 2;have hv:=h.wait;rw [hw] at hv;obtain ⟨a,c,rfl,hc⟩:=aR hv;simp only [List.length_nil] at c1;have hnn:((R.next:Int) == (R.sl.length:Int))=false:=ζ;have hwr:IntKind.i64.wrap ((R.next:Int)+1)=(R.next:Int)+1:=IntWalk.i64_in _ ω;have hwr2:IntKind.i64.wrap ((R.next:Int)+1-1)=(R.next:Int):=by rw [show (R.next:Int)+1-1=(R.next:Int) by omega];exact IntWalk.i64_in _ ω
   have hgp:=World.block_lt_of_cell? w _ c0;have HF:=χ (fun W (hW:aa [] w W)=>(h.upd hW σ).PR (R':={ R with next:=R.next+1 }) ok' rfl rfl rfl)
   have HC:=χ (show ((({ R with next:=R.next+1 }:AR).next:Nat):Int)=(R.next:Int)+1 from by show ((R.next+1:Nat):Int)=_;omega)
   clear h ok' hv hw hl;generalize hq:({ R with next:=R.next+1 }:AR)=R2 at *
   clear hq;generalize R.next=nx at *
   generalize R.sl.length=n at *
   go_enter Tryz.func82,Tryz.ntmps82
   go_wp2
   go_quiet (fail)
   go_wp2;go_ret2;refine ⟨rfl,_,rfl,?_,β⟩;have:=HF.out _ (((aa.refl [] w).drewN nq));rw [HC.out] at this;exact this
theorem Ny {R:AR} {x:Nat} (hx:x<R.sl.length) (p:Nat×Bool) (j:Nat):I9 (R.put x p) j=if j=x*2+1 then .bool p.2 else if j=x*2 then .int .u32 (p.1:Int) else I9 R j:=by
 unfold I9;rw [AR.qQ,AR.wU]
 by_cases e3:j % 2=0
 ·rw [if_neg (show ¬j=x*2+1 by omega)]
  simp only [if_pos e3]
  by_cases e2:j=x*2
  ·rw [if_pos e2,if_pos ⟨ω,hx⟩]
  ·rw [if_neg e2,if_neg ω]
 ·simp only [if_neg e3];rw [if_neg (show ¬j=x*2 by omega)]
  by_cases e2:j=x*2+1
  ·rw [if_pos e2,if_pos ⟨ω,hx⟩]
  ·rw [if_neg e2,if_neg ω]
theorem p9.put (h:p9 w pa ga v R) {x:Nat} (hx:x<R.sl.length) (p:Nat×Bool) (ok:(R.put x p).Ok) {w':World} (hrow:aI w' ga 155 (R.sl.length*2) (fun i=>if i=x*2+1 then .bool p.2 else if i=x*2 then .int .u32 (p.1:Int) else I9 R i)) (hu:aa [ga] w w') :
  p9 (w'.setCell ⟨pa,3,none⟩ (.int .i64 ((R.put x p).cnt:Int))) pa ga v (R.put x p):=by
 have hu2:aa [pa,ga] w (w'.setCell ⟨pa,3,none⟩ (.int .i64 ((R.put x p).cnt:Int))):=(hu.mono σ).setCell (Or.inl σ) _;refine ⟨((h.head.upd hu (by simpa using h.ne)).set 3 _).ext (fun j hj=>?_),?_,ay h.wait hu2 (fun k hk e=>?_),h.ne,h.nw,ok⟩
 ·rcases (ω:j=0∨j=1∨j=2∨j=3∨j=4) with rfl|rfl|rfl|rfl|rfl<;>simp [Oo,AR.iH]
  all_goals rfl
 ·rw [AR.iH];exact (hrow.far _ _ (by simpa using h.ne.symm)).ext (fun j hj=>(Ny hx p j).symm)
 ·have:=h.nw k hk;simp at e;omega
theorem CR (h:nI w pa F R) {x:Nat} {R':AR} (hp:jk R=some (x,R')) :
  Calls Tryz.prog 66 #[.pointer (some ⟨pa,0,none⟩)] w fun e w'=>e=.returned (.tuple #[.agg #[.int .i64 (x:Int),.int .u32 ((R.g x:Int)+1)],.int .i64 0])∧Goes F w w' (fun F'=>nI w' pa F' R'):=by
 have hTk:=sO h.ok hp;obtain ⟨ga,v,rfl,h⟩:=h;unfold jk at hp;cases hq:mW R with
 | none=>rw [hq] at hp;cases hp
 | some q=>
  obtain ⟨y,R1⟩:=q;rw [hq] at hp;simp only [Option.map_some,Option.some.injEq,Prod.mk.injEq] at hp;obtain ⟨rfl,rfl⟩:=hp;obtain ⟨hTok,hx,hv0,hgm,hsl,hmst,hcnt⟩:=hTk;obtain ⟨_,_,_,h4,_⟩:=uH h.ok hq;have hmo:=h.ok.NJ;have hlp:=h.head.lt;have hlg:=h.row.lt;have hvl:=fun k hk=>(h.wait.lt k hk).2
  have k:=fun W (hW:aa [] w W)=>Ce (h.upd hW σ) hq
  have hx1:y<R1.sl.length:=by rw [h4];exact hx
  have hg1:R1.g y=R.g y:=by unfold AR.g;rw [h4]
  have hcn:R1.cnt≤65536:=by
   have h1:=Gf R1.sl;have h2:=h.ok.n;unfold AR.cnt;rw [h4] at h1 ⊢;omega
  have hv1:R1.v y=false:=by unfold AR.v at hv0 ⊢;rw [h4];exact hv0
  have hc2:(R1.put y (R.g y+1,true)).cnt=R1.cnt+1:=by
   have:=AR.vP (R:=R1) y (R.g y+1,true) hx1;rw [hv1] at this;simpa using this
  have hn1:R1.sl.length≤65536:=by rw [h4];exact h.ok.n
  have hwg:IntKind.u32.wrap ((R.g y:Int)+1)=(R.g y:Int)+1:=IntWalk.u32_in _ ω;have hwc:IntKind.i64.wrap ((R1.cnt:Int)+1)=(R1.cnt:Int)+1:=IntWalk.i64_in _ ω;have hne:=h.ne;have hnw:=h.nw;have HT:=χ (ψ hTok hc2);clear h hq hTok hc2 hcnt hsl hmst hv0 h4
  go_enter Tryz.func66,Tryz.ntmps66
  go_upto_region 4 with (first
   | ((go_at_call 82;(with_reducible refine (k _ β).mono ?_));rintro e w1 ⟨rfl,v1,hob,hM,hu1⟩;(have q0:w1.cell? ⟨w.heap.size,0,none⟩=some (.int .i64 0):=hu1.kept γ ζ);(have q1:w1.cell? ⟨w.heap.size,1,none⟩=some (.int .u32 0):=hu1.kept γ ζ);(have f0:w1.frozen? ⟨w.heap.size,0,none⟩=false:=hu1.aO (v:=.int .i64 0) γ ζ γ);(have f1:w1.frozen? ⟨w.heap.size,1,none⟩=false:=hu1.aO (v:=.int .u32 0) γ ζ γ))
   | fail)
  have b0:=hM.c0;have b1:=hM.s0 hx1;have b2:=hM.s1 hx1;have b3:=hM.c3;have g1:=hM.row.free (y*2);have g2:=hM.row.free (y*2+1);have g3:=hM.head.free 3;have hyI:(y:Int)<(R1.sl.length:Int):=ω;rw [hg1] at b1;have hsz1:=hu1.size;have hgl:=hM.row.lt;have hnr1:¬ga=w.heap.size:=ω;have hnr2:¬pa=w.heap.size:=ω;have hnr3:¬w.heap.size=ga:=ω;have hnr4:¬w.heap.size=pa:=ω;have hnp:¬ga=pa:=fun e=>hne e.symm
  have hrow:=(hM.row.set (y*2) (.int .u32 ((R.g y:Int)+1))).set (y*2+1) (.bool true);have HM:=χ (ψ hM (ψ hrow (ψ hu1 (ψ hob (ψ hnw hvl)))));clear hM hrow hu1 k hob hnw hvl;generalize hgy:R.g y=gy at *
  generalize R1.cnt=cn at *
  generalize hnn:R1.sl.length=n at *
  have HG:=χ (ψ hgy hnn);clear hgy hnn;go_wp2;obtain ⟨hM,hrow,hu1,hob,hnw,hvl⟩:=HM.out;have e1:(((gy+1:Nat)):Int)=(gy:Int)+1:=ω;have hU:aa [ga] w1 ((w1.setCell ⟨ga,y*2,none⟩ (.int .u32 ((gy:Int)+1))).setCell ⟨ga,y*2+1,none⟩ (.bool true)):=((aa.refl _ _).setCell (Or.inl σ) _).setCell (Or.inl σ) _;have hok:=HT.out.1;have hct:=HT.out.2
  have hP:=hM.put (by rw [HG.out.2];exact hx1) (gy+1,true) hok (w':=(w1.setCell ⟨ga,y*2,none⟩ (.int .u32 ((gy:Int)+1))).setCell ⟨ga,y*2+1,none⟩ (.bool true)) (by
   rw [HG.out.2]
   exact hrow.ext (fun j hj=>by dsimp only;rw [e1])) hU
  rw [hct,show ((cn+1:Nat):Int)=(cn:Int)+1 by omega] at hP
  have hF:∀x,x∈pa::ga::v1.ownBlock.toList→x∈pa::ga::v.ownBlock.toList:=fun x hx=>by rw [hob] at hx;exact hx
  have hU1:aa (pa::ga::v.ownBlock.toList) w w1:=aa.trans ((aa.refl _ _).alloc _) (hu1.mono σ);refine bodyPost_ret (v:=.tuple #[.agg #[.int .i64 (y:Int),.int .u32 ((gy:Int)+1)],.int .i64 0]) (by simp [results,Tryz.results66,go_sem,q0,q1,hnr1,hnr2,hnr3,hnr4]) rfl ⟨by rw [HG.out.1],pa::ga::v1.ownBlock.toList,⟨ga,v1,rfl,?_⟩,?_,fun x hx=>Or.inl (hF x hx)⟩
  ·rw [HG.out.1];refine hP.upd (S:=[w.heap.size]) (((aa.refl _ _).setCell (Or.inl σ) _).setCell (Or.inl σ) _) (fun x hx hm=>?_)
   simp at hx;subst hx;have hm2:=hF _ hm;simp at hm2;rcases hm2 with e|e|e
   ·exact hnr4 e
   ·exact hnr3 e
   ·have:=hvl _ e;omega
  ·exact ((((hU1.setCell (Or.inl σ) _).setCell (Or.inl σ) _).setCell (Or.inl σ) _).setCell (Or.inr (Nat.le_refl _)) _).setCell (Or.inr (Nat.le_refl _)) _
end
end Go.Proofs.YtklibcncmbofpaaGreat
