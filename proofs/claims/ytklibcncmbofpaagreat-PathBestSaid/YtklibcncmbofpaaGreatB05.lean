/-
  Lemmas for PathBest: ArP, Ar, Ar2, Ar3, Pq. Conditions: those of each lemma.
-/
import Derived.Deep.RegionLaw
import Derived.Deep.DeepCutAuto
import Derived.Test.YtklibcncmbofpaaGreatB03
set_option linter.all false
set_option maxHeartbeats 8000000
set_option maxRecDepth 10000
namespace Go.Proofs.YtklibcncmbofpaaGreat
open Go Go.RowKit
structure AR where
 sl:List (Nat×Bool)
 wait:List Nat
 next:Nat
 most:Nat
def AR.g (R:AR) (x:Nat):Nat:=(R.sl.getD x (0,false)).1
def AR.v (R:AR) (x:Nat):Bool:=(R.sl.getD x (0,false)).2
def Gv (l:List (Nat×Bool)):Nat:=(l.filter (fun p=>p.2)).length
def AR.cnt (R:AR):Nat:=Gv R.sl
structure AR.Ok (R:AR):Prop where
 n:R.sl.length<=65536
 nx:R.next<=R.sl.length
 Wl:1<=R.most/\R.most<=4294967295
 wt:∀x,x∈R.wait->x<R.next/\R.v x=false/\R.g x<R.most
 nd:R.wait.Nodup
 fresh:∀x,R.next<=x->R.g x=0/\R.v x=false
 lv:∀x,R.v x=true->1<=R.g x
 gm:∀x,R.g x<=R.most
def AR.new (n most:Nat):AR:=⟨List.replicate n (0,false),[],0,most⟩
def AR.put (R:AR) (x:Nat) (p:Nat×Bool):AR:={ R with sl:=R.sl.set x p }
def uU (R:AR):Option (Nat×AR):=
 match R.wait.getLast? with
 | some x=>some (x,{ R with wait:=R.wait.dropLast })
 | none=>if R.next=R.sl.length then none else some (R.next,{ R with next:=R.next+1 })
def uO (R:AR):Option (Nat×AR):=(uU R).map fun p=>(p.1,p.2.put p.1 (R.g p.1+1,true))
def C9 (R:AR) (x g:Int):Bool:=decide (0<=x) && decide (x<R.sl.length) && decide ((R.g x.toNat:Int)=g) && R.v x.toNat
def lu (R:AR) (x:Nat):AR:={ R.put x (R.g x,false) with wait:=if R.g x<R.most then R.wait++[x] else R.wait }
section
variable {R:AR}
theorem AR.yl (x:Nat) (p:Nat×Bool) (y:Nat):(R.put x p).g y=if y=x/\x<R.sl.length then p.1 else R.g y:=by
 unfold AR.put AR.g;simp only [φ,List.getElem?_set]
 by_cases h:x=y
 ·subst h
  by_cases hl:x<R.sl.length
  ·simp [hl]
  ·simp [hl]
 ·rw [if_neg h,if_neg (fun e=>h e.1.symm)]
theorem AR.Ay (x:Nat) (p:Nat×Bool) (y:Nat):(R.put x p).v y=if y=x/\x<R.sl.length then p.2 else R.v y:=by
 unfold AR.put AR.v;simp only [φ,List.getElem?_set]
 by_cases h:x=y
 ·subst h
  by_cases hl:x<R.sl.length
  ·simp [hl]
  ·simp [hl]
 ·rw [if_neg h,if_neg (fun e=>h e.1.symm)]
theorem AR.far {x:Nat} (hx:R.sl.length<=x):R.g x=0/\R.v x=false:=by
 unfold AR.g AR.v;rw [φ,List.getElem?_eq_none hx];exact ⟨rfl,rfl⟩
theorem AR.kg (x:Nat) (p:Nat×Bool):(R.put x p).sl.length=R.sl.length:=by unfold AR.put;simp
theorem AR.Nw {x:Nat} (h:R.v x=true):x<R.sl.length:=by
 rcases Nat.lt_or_ge x R.sl.length with h'|h'
 ·exact h'
 ·rw [(AR.far h').2] at h;cases h
theorem uz (q:Nat×Bool) (r:List (Nat×Bool)):Gv (q::r)=Gv r+if q.2 then 1 else 0:=by
 unfold Gv;rw [List.filter_cons];cases h:q.2<;>simp
theorem Fx:∀ (l:List (Nat×Bool)) (x:Nat) (p:Nat×Bool),x<l.length->Gv (l.set x p)+(if (l.getD x (0,false)).2 then 1 else 0)=Gv l+(if p.2 then 1 else 0)
 | [],x,p,h=>by simp at h
 | q::r,0,p,h=>by
  rw [List.set_cons_zero,uz,uz]
  show _+_+(if q.2 then 1 else 0)=_
  omega
 | q::r,x+1,p,h=>by
  have ih:=Fx r x p (by simpa using h);rw [List.set_cons_succ,uz,uz,List.getD_cons_succ];omega
theorem Mc (l:List (Nat×Bool)):Gv l<=l.length:=List.length_filter_le _ _
theorem AR.yS (x:Nat) (p:Nat×Bool) (hx:x<R.sl.length):(R.put x p).cnt+(if R.v x then 1 else 0)=R.cnt+(if p.2 then 1 else 0):=Fx R.sl x p hx
theorem AR.Ld (h:R.Ok):R.wait.length<=R.next:=by
 have key:∀ (n:Nat) (l:List Nat),l.Nodup->(∀x,x∈l->x<n)->l.length<=n:=by
  intro n
  induction n with
  | zero=>
   intro l _ h;cases l with
   | nil=>simp
   | cons x r=>have:=h x σ;omega
  | succ n ih=>
   intro l hn h
   have h1:=ih (l.erase n) (hn.erase _) (fun x hx=>by
    have h2:=(List.Nodup.mem_erase_iff hn).1 hx;have:=h x h2.2
    omega)
   have h2:=List.length_erase_le (a:=n) (l:=l);have h3:l.length<=(l.erase n).length+1:=by
    by_cases hm:n∈l
    ·rw [List.length_erase_of_mem hm];omega
    ·rw [List.erase_of_not_mem hm];omega
   omega
 exact key _ _ h.nd (fun x hx=>(h.wt x hx).1)
theorem AR.zX {n most:Nat} (hn:n<=65536) (hm:1<=most/\most<=4294967295):(AR.new n most).Ok:=by
 have e:∀x,(AR.new n most).g x=0/\(AR.new n most).v x=false:=fun x=>by
  unfold AR.new AR.g AR.v;simp only [φ,List.getElem?_replicate]
  split<;>exact ⟨rfl,rfl⟩
 refine ⟨by simp [AR.new];exact hn,by simp [AR.new],hm,fun x hx=>by simp [AR.new] at hx,by simp [AR.new],fun x _=>e x,fun x hx=>?_,fun x=>?_⟩
 ·rw [(e x).2] at hx;cases hx
 ·rw [(e x).1];exact Nat.zero_le _
theorem AR.U9 (n most:Nat):(AR.new n most).cnt=0:=by
 unfold AR.cnt Gv AR.new;simp
theorem xu {x:Nat} {R':AR} (h:R.Ok) (hp:uU R=some (x,R')):x<R.sl.length/\R.v x=false/\R.g x<R.most/\R'.sl=R.sl/\R'.most=R.most/\R'.next<=R.sl.length/\x<R'.next/\R.next<=R'.next/\
  (∀y,y∈R'.wait->y∈R.wait/\y≠x)/\R'.wait.Nodup:=by
 unfold uU at hp;cases hl:R.wait.getLast? with
 | some y=>
  rw [hl] at hp;simp only [Option.some.injEq,Prod.mk.injEq] at hp;obtain ⟨rfl,rfl⟩:=hp;have hm:y∈R.wait:=List.mem_of_getLast? hl;obtain ⟨h1,h2,h3⟩:=h.wt y hm;have hn:=h.nd;have happ:R.wait=R.wait.dropLast++[y]:=by
   obtain ⟨l,hl'⟩:=List.getLast?_eq_some_iff.1 hl;rw [hl'];simp
  rw [happ,θ] at hn;refine ⟨Nat.lt_of_lt_of_le h1 h.nx,h2,h3,rfl,rfl,h.nx,h1,Nat.le_refl _,fun z hz=>⟨List.dropLast_subset _ hz,fun e=>?_⟩,hn.1⟩;exact hn.2.2 z hz y σ e
 | none=>
  rw [hl] at hp;have hw:R.wait=[]:=List.getLast?_eq_none_iff.1 hl;dsimp only at hp
  split at hp
  ·cases hp
  ·rename_i hne
   simp only [Option.some.injEq,Prod.mk.injEq] at hp;obtain ⟨rfl,rfl⟩:=hp;have h1:=h.nx;have h2:=h.fresh R.next (Nat.le_refl _);refine ⟨ω,h2.2,by rw [h2.1];exact h.Wl.1,rfl,rfl,by show R.next+1<=_;omega,by show R.next<R.next+1;omega,by show R.next<=R.next+1;omega,fun y hy=>?_,h.nd⟩;rw [show ({ R with next:=R.next+1 }:AR).wait=R.wait from rfl,hw] at hy;cases hy
theorem wS {x:Nat} {R':AR} (h:R.Ok) (hp:uO R=some (x,R')):R'.Ok/\x<R.sl.length/\R.v x=false/\R.g x<R.most/\R'.sl=R.sl.set x (R.g x+1,true)/\R'.most=R.most/\R'.cnt=R.cnt+1:=by
 unfold uO at hp;cases hq:uU R with
 | none=>rw [hq] at hp;cases hp
 | some q=>
  obtain ⟨y,R1⟩:=q;rw [hq] at hp;simp only [Option.map_some,Option.some.injEq,Prod.mk.injEq] at hp;obtain ⟨rfl,rfl⟩:=hp;obtain ⟨h1,h2,h3,h4,h5,h6,h7,h8,h9,h10⟩:=xu h hq;have eg:∀z,R1.g z=R.g z:=fun z=>by unfold AR.g;rw [h4]
  have ev:∀z,R1.v z=R.v z:=fun z=>by unfold AR.v;rw [h4]
  have hl:y<R1.sl.length:=by rw [h4];exact h1
  refine ⟨⟨by rw [AR.kg,h4];exact h.n,by rw [AR.kg,h4];exact h6,by show 1<=R1.most/\R1.most<=4294967295;rw [h5];exact h.Wl,fun z hz=>?_,h10,fun z hz=>?_,fun z hz=>?_,fun z=>?_⟩,h1,h2,h3,by show R1.sl.set _ _=_;rw [h4],h5,?_⟩
  ·obtain ⟨a1,a2⟩:=h9 z hz;obtain ⟨b1,b2,b3⟩:=h.wt z a1;rw [AR.Ay,AR.yl,if_neg (fun e=>a2 e.1),if_neg (fun e=>a2 e.1),ev,eg];refine ⟨Nat.lt_of_lt_of_le b1 h8,b2,?_⟩
   show R.g z<R1.most
   rw [h5];exact b3
  ·have hz':R1.next<=z:=hz;rw [AR.Ay,AR.yl,if_neg ω,if_neg ω,ev,eg];exact h.fresh z ω
  ·rw [AR.Ay] at hz;rw [AR.yl]
   by_cases e:z=y/\y<R1.sl.length
   ·rw [if_pos e];show 1<=R.g y+1;omega
   ·rw [if_neg e] at hz ⊢;rw [ev] at hz;rw [eg];exact h.lv z hz
  ·rw [AR.yl]
   show _<=R1.most
   rw [h5]
   split
   ·show R.g y+1<=_;omega
   ·rw [eg];exact h.gm z
  ·have hc:=AR.yS (R:=R1) y (R.g y+1,true) hl;rw [ev,h2] at hc;simp at hc;rw [hc];unfold AR.cnt;rw [h4]
theorem EG {x:Nat} (h:R.Ok) (hv:R.v x=true):(lu R x).Ok/\(lu R x).cnt+1=R.cnt:=by
 have hx:=AR.Nw hv;have eg:∀z,(lu R x).g z=R.g z:=fun z=>by
  show (R.put x (R.g x,false)).g z=_
  rw [AR.yl]
  split
  ·rename_i e;rw [e.1]
  ·rfl
 have ev:∀z,(lu R x).v z=if z=x then false else R.v z:=fun z=>by
  show (R.put x (R.g x,false)).v z=_
  rw [AR.Ay]
  by_cases e:z=x
  ·rw [if_pos ⟨e,hx⟩,if_pos e]
  ·rw [if_neg (fun h=>e h.1),if_neg e]
 have rO:x<R.next:=by
  rcases Nat.lt_or_ge x R.next with h'|h'
  ·exact h'
  ·rw [(h.fresh x h').2] at hv;cases hv
 refine ⟨⟨by show (R.put x _).sl.length<=_;rw [AR.kg];exact h.n,by show R.next<=(R.put x _).sl.length;rw [AR.kg];exact h.nx,h.Wl,fun z hz=>?_,?_,fun z hz=>?_,fun z hz=>?_,fun z=>by rw [eg];exact h.gm z⟩,?_⟩
 ·have hz':z∈(if R.g x<R.most then R.wait++[x] else R.wait):=hz;rw [ev,eg];have hw:z∈R.wait->z<R.next/\(if z=x then false else R.v z)=false/\R.g z<R.most:=fun hm=>by
   obtain ⟨b1,b2,b3⟩:=h.wt z hm;refine ⟨b1,?_,b3⟩
   split
   ·rfl
   ·exact b2
  split at hz'
  ·rename_i hlt
   rcases τ.1 hz' with hm|hm
   ·exact hw hm
   ·simp at hm;subst hm;exact ⟨rO,by rw [if_pos rfl],hlt⟩
  ·exact hw hz'
 ·show (if R.g x<R.most then R.wait++[x] else R.wait).Nodup
  split
  ·rw [θ];refine ⟨h.nd,σ,fun a ha b hb e=>?_⟩;simp at hb;subst hb;subst e;have:=(h.wt _ ha).2.1;rw [hv] at this;cases this
  ·exact h.nd
 ·rw [ev,eg];have hz':R.next<=z:=hz;have:=h.fresh z hz';exact ⟨this.1,by split;rfl;exact this.2⟩
 ·rw [ev] at hz
  split at hz
  ·cases hz
  ·rw [eg];exact h.lv z hz
 ·have hc:=AR.yS (R:=R) x (R.g x,false) hx;rw [hv] at hc;simp at hc;exact hc
end
theorem jA {c:Code} {K:Exit->Act->World->Prop} {a:Act} {W:World} (R:World->Prop) (h:R W) (k:∀W',R W'->Code.wp Tryz.prog c K a W'):Code.wp Tryz.prog c K a W:=k W h
def OJ (R:AR) (j:Nat):Value:=if j % 2=0 then .int .u32 (R.g (j / 2):Int) else .bool (R.v (j / 2))
def XL (ga:Nat) (v:Value) (R:AR) (j:Nat):Value:=[Value.slice (some ⟨ga,0,none⟩) R.sl.length R.sl.length,v,.int .i64 (R.next:Int),.int .i64 (R.cnt:Int),.int .u32 (R.most:Int)].getD j undef
structure tT (w:World) (pa ga:Nat) (v:Value) (R:AR):Prop where
 head:aO w pa 158 5 (XL ga v R)
 row:aO w ga 155 (R.sl.length*2) (OJ R)
 wait:w.ownsRow 0 3 1 v R.wait.length (aU (bJ R.wait))
 ne:pa≠ga
 nw:∀k,v.ownBlock=some k->k≠pa/\k≠ga
 ok:R.Ok
def qW (w:World) (pa:Nat) (F:List Nat) (R:AR):Prop:=∃ga v,F=pa::ga::v.ownBlock.toList/\tT w pa ga v R
section
variable {w:World} {pa ga:Nat} {v:Value} {R:AR} {F:List Nat}
theorem tT.c0 (h:tT w pa ga v R):w.cell? ⟨pa,0,none⟩=some (.slice (some ⟨ga,0,none⟩) R.sl.length R.sl.length):=h.head.cellAt 0 ω rfl
theorem tT.c1 (h:tT w pa ga v R):w.cell? ⟨pa,1,none⟩=some v:=h.head.cellAt 1 ω rfl
theorem tT.c2 (h:tT w pa ga v R):w.cell? ⟨pa,2,none⟩=some (.int .i64 (R.next:Int)):=h.head.cellAt 2 ω rfl
theorem tT.c3 (h:tT w pa ga v R):w.cell? ⟨pa,3,none⟩=some (.int .i64 (R.cnt:Int)):=h.head.cellAt 3 ω rfl
theorem tT.c4 (h:tT w pa ga v R):w.cell? ⟨pa,4,none⟩=some (.int .u32 (R.most:Int)):=h.head.cellAt 4 ω rfl
theorem tT.s0 (h:tT w pa ga v R) {x:Nat} (hx:x<R.sl.length):w.cell? ⟨ga,x*2,none⟩=some (.int .u32 (R.g x:Int)):=h.row.cellAt (x*2) ω (by unfold OJ;rw [if_pos ω,show x*2 / 2=x by omega])
theorem tT.s1 (h:tT w pa ga v R) {x:Nat} (hx:x<R.sl.length):w.cell? ⟨ga,x*2+1,none⟩=some (.bool (R.v x)):=h.row.cellAt (x*2+1) ω (by unfold OJ;rw [if_neg ω,show (x*2+1) / 2=x by omega])
theorem NB (l:List Nat):(bJ l).length=l.length:=by unfold bJ;simp
theorem tT.upd {w':World} {S:List Nat} (h:tT w pa ga v R) (hu:aa S w w') (hS:∀x,x∈S->x∉pa::ga::v.ownBlock.toList):tT w' pa ga v R:=
 ⟨h.head.upd hu (fun e=>hS _ e σ),h.row.upd hu (fun e=>hS _ e σ),aF h.wait hu (fun k hk e=>hS _ e (by simp [hk])),h.ne,h.nw,h.ok⟩
theorem qW.upd {w':World} {S:List Nat} (h:qW w pa F R) (hu:aa S w w') (hS:∀x,x∈S->x∉F):qW w' pa F R:=by
 obtain ⟨ga,v,rfl,h⟩:=h;exact ⟨ga,v,rfl,h.upd hu hS⟩
theorem qW.lt (h:qW w pa F R):∀x,x∈F->x<w.heap.size:=by
 obtain ⟨ga,v,rfl,h⟩:=h;intro x hx;simp at hx;rcases hx with rfl|rfl|hx
 ·exact h.head.lt
 ·exact h.row.lt
 ·exact (h.wait.lt x hx).2
theorem qW.ok (h:qW w pa F R):R.Ok:=by obtain ⟨ga,v,rfl,h⟩:=h;exact h.ok
theorem Qs:(Tryz.prog.info? 155).map (fun i=>(i.zero,i.size,i.bytes))=some (some (.agg #[.int .u32 0,.bool false]),2,8):=by kernel_rfl
theorem NK (n m:Nat) (w:World) (h:n<=65536) (hm:1<=m/\m<=4294967295) :
  Calls Tryz.prog 80 #[.int .i64 (n:Int),.int .u32 (m:Int)] w fun e w'=>∃pa F,e=.returned (.tuple #[.pointer (some ⟨pa,0,none⟩),.int .i64 0])/\qW w' pa F (AR.new n m)/\aa [] w w'/\∀x,x∈F->w.heap.size<=x:=by
 have hm0:((m:Int) == 0)=false:=ζ
 go_enter Tryz.func80,Tryz.ntmps80
 go_wp2_with (first
  | (at_make;refine wpList_make_row rfl _ 156 rfl 155 (.agg #[.int .u32 0,.bool false]) 2 8 Tryz.underlying156 Qs n rfl ω μ ?_;intro w2 hr2 hu2))
 go_ret2;have hh:=eH w2 [.slice (some ⟨w.heap.size,0,none⟩) n n,.slice none 0 0,.int .i64 0,.int .i64 0,.int .u32 (m:Int)] 158;have l1:=hr2.lt;have e:∀x,(AR.new n m).g x=0/\(AR.new n m).v x=false:=fun x=>by
  unfold AR.new AR.g AR.v;simp only [φ,List.getElem?_replicate]
  split<;>exact ⟨rfl,rfl⟩
 refine ⟨w2.heap.size,w2.heap.size::w.heap.size::[],rfl,⟨w.heap.size,.slice none 0 0,rfl,⟨?_,?_,⟨by simp [AR.new,bJ,aU],Or.inl ⟨rfl,by simp [AR.new]⟩⟩,ω,fun k hk=>(by cases hk),AR.zX h hm⟩⟩,hu2.trans ((aa.refl _ _).alloc _),fun x hx=>by simp at hx;omega⟩
 ·refine hh.ext (fun j hj=>?_);unfold XL;rw [AR.U9];simp [AR.new]
 ·have hl:(AR.new n m).sl.length=n:=by simp [AR.new]
  rw [hl];refine (hr2.alloc _).ext (fun j hj=>?_);unfold OJ;rw [(e _).1,(e _).2]
  show (madeCells #[Value.int .u32 0,.bool false] (n*2)).toList.getD j undef=_
  rw [φ,ε (by simp [size_madeCells];omega)];simp only [Option.getD_some,madeCells,Array.getElem_toList,Array.getElem_map,Array.getElem_range];rcases (ω:j % 2=0\/j % 2=1) with e|e<;>simp [e]
theorem A9 (h:qW w pa F R) (x g:Int) (hg:0<=g/\g<=4294967295) :
  Calls Tryz.prog 83 #[.pointer (some ⟨pa,0,none⟩),.agg #[.int .i64 x,.int .u32 g]] w fun e w'=>e=.returned (.bool (C9 R x g))/\aa [] w w':=by
 obtain ⟨ga,v,rfl,h⟩:=h;have c0':=h.c0;have hl:=h.ok.n;have H:=χ h;unfold C9
 by_cases b1:x≥0
 ·by_cases b2:x<(R.sl.length:Int)
  ·have d0':=h.s0 (x:=x.toNat) ω;have d1':=h.s1 (x:=x.toNat) ω;rw [show ((x.toNat * 2:Nat))=x.toNat * 2 from rfl] at d0';rw [decide_eq_true (show 0<=x from b1),decide_eq_true b2];generalize R.g x.toNat=gi at *;generalize R.v x.toNat=vi at *;generalize R.sl.length=n at *;clear h
   go_enter Tryz.func83,Tryz.ntmps83
   (go_upto_region 1 with (fail);refine jA (fun W=>W.cell? ⟨w.heap.size,0,none⟩=some (.int .i64 x)/\W.cell? ⟨w.heap.size,1,none⟩=some (.int .u32 g)/\aa [] w W) ⟨σ,σ,β⟩ ?_;rintro W ⟨q0,q1,hu⟩)
   have c0:=hu.was c0';have d0:=hu.was d0';have d1:=hu.was d1';have HU:=χ hu;clear hu c0' d0' d1'
   by_cases e:(gi:Int)=g
   ·subst e;cases vi
    all_goals
     go_quiet (fail)
     go_wp2;go_ret;exact ⟨bf σ,by have:=HU.out;exact β⟩
   ·cases vi
    all_goals
     go_quiet (fail)
     go_wp2;go_ret;exact ⟨bf (by simp [e]),by have:=HU.out;exact β⟩
  ·have b2b:decide (x<(R.sl.length:Int))=false:=by simpa using b2
   rw [b2b];generalize R.sl.length=n at *;clear h
   go_enter Tryz.func83,Tryz.ntmps83
   (go_upto_region 1 with (fail);refine jA (fun W=>W.cell? ⟨w.heap.size,0,none⟩=some (.int .i64 x)/\W.cell? ⟨w.heap.size,1,none⟩=some (.int .u32 g)/\aa [] w W) ⟨σ,σ,β⟩ ?_;rintro W ⟨q0,q1,hu⟩)
   have c0:=hu.was c0';have HU:=χ hu;clear hu c0'
   go_quiet (fail)
   go_wp2;go_ret;exact ⟨bf σ,by have:=HU.out;exact β⟩
 ·have b1b:decide (x≥0)=false:=by simpa using b1
  rw [decide_eq_false (show ¬0<=x from b1)];clear h
  go_enter Tryz.func83,Tryz.ntmps83
  (go_upto_region 1 with (fail);refine jA (fun W=>W.cell? ⟨w.heap.size,0,none⟩=some (.int .i64 x)/\W.cell? ⟨w.heap.size,1,none⟩=some (.int .u32 g)/\aa [] w W) ⟨σ,σ,β⟩ ?_;rintro W ⟨q0,q1,hu⟩)
  have HU:=χ hu;clear hu
  go_quiet (fail)
  go_wp2;go_ret;exact ⟨bf σ,by have:=HU.out;exact β⟩
end
theorem GJ {w:World} {base g n cap k:Nat} {e:TypeId} {xs:List Value} (h:w.ownsRow base e 1 (.slice (some ⟨g,0,none⟩) n cap) n xs) (hk:k<=n):w.ownsRow base e 1 (.slice (some ⟨g,0,none⟩) k cap) k (xs.take k):=by
 rcases h.2 with ⟨h1,_⟩|⟨g',cap',cur,h1,hb,hg,hn,hc,hs,ht⟩
 ·cases h1
 ·cases h1;have h0:=h.1;exact ⟨by rw [List.length_take];omega,Or.inr ⟨g,cap,cur,rfl,hb,hg,ω,hc,hs,by rw [←ht,List.take_take];congr 1;omega⟩⟩
theorem UL {R R':AR} {x:Nat} (h:R.Ok) (hp:uU R=some (x,R')):R'.Ok:=by
 obtain ⟨h1,h2,h3,h4,h5,h6,h7,h8,h9,h10⟩:=xu h hp;have eg:∀z,R'.g z=R.g z:=fun z=>by unfold AR.g;rw [h4]
 have ev:∀z,R'.v z=R.v z:=fun z=>by unfold AR.v;rw [h4]
 refine ⟨by rw [h4];exact h.n,by rw [h4];exact h6,by rw [h5];exact h.Wl,fun z hz=>?_,h10,fun z hz=>?_,fun z hz=>by rw [ev] at hz;rw [eg];exact h.lv z hz,fun z=>by rw [eg,h5];exact h.gm z⟩
 ·obtain ⟨a1,_⟩:=h9 z hz;obtain ⟨b1,b2,b3⟩:=h.wt z a1;rw [ev,eg,h5];exact ⟨ω,b2,b3⟩
 ·rw [ev,eg];exact h.fresh z ω
section
variable {w:World} {pa ga:Nat} {v:Value} {R:AR} {F:List Nat}
theorem TM (h:qW w pa F R) (x:Nat) (hx:R.v x=true) :
  Calls Tryz.prog 84 #[.pointer (some ⟨pa,0,none⟩),.int .i64 (x:Int)] w fun e w'=>e=.returned (.tuple #[.agg #[.int .i64 (x:Int),.int .u32 (R.g x:Int)],.bool true])/\aa [] w w':=by
 obtain ⟨ga,v,rfl,h⟩:=h;have hl:=AR.Nw hx;have hn:=h.ok.n;have c0:=h.c0;have d0:=h.s0 hl;have d1:=h.s1 hl;rw [hx] at d1;have CR:(x:Int)<(R.sl.length:Int):=ω;have hx2:¬R.sl.length<=x:=ω;generalize R.g x=gx at *;generalize R.sl.length=n at *;have l1:=World.block_lt_of_cell? w _ c0;have l2:=World.block_lt_of_cell? w _ d0;clear h hx
 go_enter Tryz.func84,Tryz.ntmps84
 go_wp2;exact bodyPost_ret (v:=.tuple #[.agg #[.int .i64 (x:Int),.int .u32 (gx:Int)],.bool true]) (by simp [results,Tryz.results84,go_sem]) rfl ⟨rfl,β⟩
theorem MZ {l:List Nat} {j x:Nat} (h:l[j]?=some x):(bJ l).getD j 0=(x:Int):=by unfold bJ;simp [φ,h]
theorem AA (l:List Int) (k:Nat):(aU l).take k=aU (l.take k):=by unfold aU;rw [List.map_take]
theorem Ab (l:List Nat) (k:Nat):(bJ l).take k=bJ (l.take k):=by unfold bJ;rw [List.map_take]
theorem tT.setv (h:tT w pa ga v R) {R':AR} {v':Value} (ok:R'.Ok) (e1:R'.sl=R.sl) (e2:R'.next=R.next) (e3:R'.most=R.most) (hw:w.ownsRow 0 3 1 v' R'.wait.length (aU (bJ R'.wait))) (hb:∀k,v'.ownBlock=some k->k≠pa/\k≠ga) :
  tT (w.setCell ⟨pa,1,none⟩ v') pa ga v' R':=by
 have hu:aa [pa] w (w.setCell ⟨pa,1,none⟩ v'):=(aa.refl _ _).setCell (Or.inl σ) _;refine ⟨(h.head.set 1 v').ext (fun j hj=>?_),?_,aF hw hu (fun k hk e=>(hb k hk).1 (by simpa using e)),h.ne,hb,ok⟩
 ·rcases (ω:j=0\/j=1\/j=2\/j=3\/j=4) with rfl|rfl|rfl|rfl|rfl<;>simp [XL,AR.cnt,e1,e2,e3]
 ·rw [e1];exact (h.row.upd hu (by simp;exact fun e=>h.ne e.symm)).ext (fun j hj=>by unfold OJ AR.g AR.v;rw [e1])
theorem tT.setn (h:tT w pa ga v R) {R':AR} (ok:R'.Ok) (e1:R'.sl=R.sl) (e2:R'.wait=R.wait) (e3:R'.most=R.most):tT (w.setCell ⟨pa,2,none⟩ (.int .i64 (R'.next:Int))) pa ga v R':=by
 have hu:aa [pa] w (w.setCell ⟨pa,2,none⟩ (.int .i64 (R'.next:Int))):=(aa.refl _ _).setCell (Or.inl σ) _;refine ⟨(h.head.set 2 _).ext (fun j hj=>?_),?_,by rw [e2];exact aF h.wait hu (fun k hk e=>(h.nw k hk).1 (by simpa using e)),h.ne,h.nw,ok⟩
 ·rcases (ω:j=0\/j=1\/j=2\/j=3\/j=4) with rfl|rfl|rfl|rfl|rfl<;>simp [XL,AR.cnt,e1,e3]
 ·rw [e1];exact (h.row.upd hu (by simp;exact fun e=>h.ne e.symm)).ext (fun j hj=>by unfold OJ AR.g AR.v;rw [e1])
theorem GR (h:tT w pa ga v R) {x:Nat} {R':AR} (hp:uU R=some (x,R')) :
  Calls Tryz.prog 82 #[.pointer (some ⟨pa,0,none⟩)] w fun e w'=>e=.returned (.tuple #[.int .i64 (x:Int),.bool true])/\∃v',v'.ownBlock=v.ownBlock/\tT w' pa ga v' R'/\aa [pa] w w':=by
 have ok':=UL h.ok hp;have hwl:=AR.Ld h.ok;have hn:=h.ok.n;have hnx:=h.ok.nx;unfold uU at hp;cases hl:R.wait.getLast? with
 | some y=>
  rw [hl] at hp;simp only [Option.some.injEq,Prod.mk.injEq] at hp;obtain ⟨rfl,rfl⟩:=hp;have hne:R.wait≠[]:=fun e=>by rw [e] at hl;cases hl
  have hpos:0<R.wait.length:=List.length_pos_iff.2 hne;have c1:=h.c1;have f1:=h.head.free 1;obtain ⟨gw,cap,rfl,_,hgl,hnc,hcm,hcell,_⟩:=gM h.wait hpos;have hat:R.wait[R.wait.length-1]?=some y:=by rw [←List.getLast?_eq_getElem?];exact hl
  have d0:=hcell (R.wait.length-1) (.int .i64 (y:Int)) (by rw [nO (by rw [NB];omega),MZ hat]);have hdl:R.wait.dropLast=R.wait.take (R.wait.length-1):=List.dropLast_eq_take;have hw2:=GJ h.wait (k:=R.wait.length-1) ω;rw [AA,Ab,←hdl] at hw2;have hll:R.wait.dropLast.length=R.wait.length-1:=σ;have HF:=χ (show tT (w.setCell ⟨pa,1,none⟩ (.slice (some ⟨gw,0,none⟩) (R.wait.length-1) cap)) pa ga (.slice (some ⟨gw,0,none⟩) (R.wait.length-1) cap) { R with wait:=R.wait.dropLast } from h.setv ok' rfl rfl rfl (by show w.ownsRow 0 _ 1 _ R.wait.dropLast.length _;rw [hll];exact hw2) h.nw)
  have Pp:=World.block_lt_of_cell? w _ c1;clear h ok' hcell hat hdl hw2 hll hl hne;generalize hwn:R.wait.length=wn at *;obtain ⟨m,rfl⟩:∃m,wn=m+1:=⟨wn-1,ω⟩;simp only [Nat.add_sub_cancel] at d0 HF;clear hwn;have hmi:((m+1:Nat):Int)-1=(m:Int):=ω;have hwr:IntKind.i64.wrap (((m+1:Nat):Int)-1)=(m:Int):=by rw [hmi];exact IntWalk.i64_in _ ω
  have hgt:((m+1:Nat):Int) > 0:=ω;have hlt:(m:Int)<((m+1:Nat):Int):=ω;have hcapI:(m:Int)<=(cap:Int):=ω
  go_enter Tryz.func82,Tryz.ntmps82
  go_wp2;go_ret2;exact ⟨rfl,.slice (some ⟨gw,0,none⟩) m cap,rfl,HF.out,β⟩
 | none=>
  rw [hl] at hp;have hw:R.wait=[]:=List.getLast?_eq_none_iff.1 hl;dsimp only at hp
  split at hp
  ·cases hp
  ·rename_i hne
   simp only [Option.some.injEq,Prod.mk.injEq] at hp;obtain ⟨rfl,rfl⟩:=hp;have c0:=h.c0;have c1:=h.c1;have c2:=h.c2;have f2:=h.head.free 2;have hv:=h.wait;rw [hw] at hv;obtain ⟨a,c,rfl,hc⟩:=bu hv;simp only [List.length_nil] at c1;have hnn:((R.next:Int) == (R.sl.length:Int))=false:=ζ;have hwr:IntKind.i64.wrap ((R.next:Int)+1)=(R.next:Int)+1:=IntWalk.i64_in _ ω;have hwr2:IntKind.i64.wrap ((R.next:Int)+1-1)=(R.next:Int):=by rw [show (R.next:Int)+1-1=(R.next:Int) by omega];exact IntWalk.i64_in _ ω
   have Pp:=World.block_lt_of_cell? w _ c0;have HF:=χ (fun W (hW:aa [] w W)=>(h.upd hW σ).setn (R':={ R with next:=R.next+1 }) ok' rfl rfl rfl);have HC:=χ (show ((({ R with next:=R.next+1 }:AR).next:Nat):Int)=(R.next:Int)+1 from by show ((R.next+1:Nat):Int)=_;omega);clear h ok' hv hw hl;generalize hq:({ R with next:=R.next+1 }:AR)=R2 at *;clear hq;generalize R.next=nx at *;generalize R.sl.length=n at *
   go_enter Tryz.func82,Tryz.ntmps82
   go_wp2
   go_quiet (fail)
   go_wp2;go_ret2;refine ⟨rfl,_,rfl,?_,β⟩;have:=HF.out _ (((aa.refl [] w).drewN nq));rw [HC.out] at this;exact this
theorem V3 {R:AR} {x:Nat} (hx:x<R.sl.length) (p:Nat×Bool) (j:Nat):OJ (R.put x p) j=if j=x*2+1 then .bool p.2 else if j=x*2 then .int .u32 (p.1:Int) else OJ R j:=by
 unfold OJ;rw [AR.yl,AR.Ay]
 by_cases e3:j % 2=0
 ·rw [if_neg (show ¬j=x*2+1 by omega)];simp only [if_pos e3]
  by_cases e2:j=x*2
  ·rw [if_pos e2,if_pos ⟨ω,hx⟩]
  ·rw [if_neg e2,if_neg ω]
 ·simp only [if_neg e3];rw [if_neg (show ¬j=x*2 by omega)]
  by_cases e2:j=x*2+1
  ·rw [if_pos e2,if_pos ⟨ω,hx⟩]
  ·rw [if_neg e2,if_neg ω]
theorem tT.put (h:tT w pa ga v R) {x:Nat} (hx:x<R.sl.length) (p:Nat×Bool) (ok:(R.put x p).Ok) {w':World} (hrow:aO w' ga 155 (R.sl.length*2) (fun i=>if i=x*2+1 then .bool p.2 else if i=x*2 then .int .u32 (p.1:Int) else OJ R i)) (hu:aa [ga] w w') :
  tT (w'.setCell ⟨pa,3,none⟩ (.int .i64 ((R.put x p).cnt:Int))) pa ga v (R.put x p):=by
 have hu2:aa [pa,ga] w (w'.setCell ⟨pa,3,none⟩ (.int .i64 ((R.put x p).cnt:Int))):=(hu.mono σ).setCell (Or.inl σ) _;refine ⟨((h.head.upd hu (by simpa using h.ne)).set 3 _).ext (fun j hj=>?_),?_,aF h.wait hu2 (fun k hk e=>?_),h.ne,h.nw,ok⟩
 ·rcases (ω:j=0\/j=1\/j=2\/j=3\/j=4) with rfl|rfl|rfl|rfl|rfl<;>simp [XL,AR.kg]
  all_goals rfl
 ·rw [AR.kg];exact (hrow.far _ _ (by simpa using h.ne.symm)).ext (fun j hj=>(V3 hx p j).symm)
 ·have:=h.nw k hk;simp at e;omega
theorem GX (h:qW w pa F R) {x:Nat} {R':AR} (hp:uO R=some (x,R')) :
  Calls Tryz.prog 66 #[.pointer (some ⟨pa,0,none⟩)] w fun e w'=>e=.returned (.tuple #[.agg #[.int .i64 (x:Int),.int .u32 ((R.g x:Int)+1)],.int .i64 0])/\Goes F w w' (fun F'=>qW w' pa F' R'):=by
 have O6:=wS h.ok hp;obtain ⟨ga,v,rfl,h⟩:=h;unfold uO at hp;cases hq:uU R with
 | none=>rw [hq] at hp;cases hp
 | some q=>
  obtain ⟨y,R1⟩:=q;rw [hq] at hp;simp only [Option.map_some,Option.some.injEq,Prod.mk.injEq] at hp;obtain ⟨rfl,rfl⟩:=hp;obtain ⟨hTok,hx,hv0,hgm,hsl,hmst,hcnt⟩:=O6;obtain ⟨_,_,_,h4,_⟩:=xu h.ok hq;have hmo:=h.ok.Wl;have hlp:=h.head.lt;have hlg:=h.row.lt;have hvl:=fun k hk=>(h.wait.lt k hk).2;have k:=fun W (hW:aa [] w W)=>GR (h.upd hW σ) hq;have hx1:y<R1.sl.length:=by rw [h4];exact hx
  have hg1:R1.g y=R.g y:=by unfold AR.g;rw [h4]
  have hcn:R1.cnt<=65536:=by
   have h1:=Mc R1.sl;have h2:=h.ok.n;unfold AR.cnt;rw [h4] at h1 ⊢;omega
  have hv1:R1.v y=false:=by unfold AR.v at hv0 ⊢;rw [h4];exact hv0
  have hc2:(R1.put y (R.g y+1,true)).cnt=R1.cnt+1:=by
   have:=AR.yS (R:=R1) y (R.g y+1,true) hx1;rw [hv1] at this;simpa using this
  have hn1:R1.sl.length<=65536:=by rw [h4];exact h.ok.n
  have hwg:IntKind.u32.wrap ((R.g y:Int)+1)=(R.g y:Int)+1:=IntWalk.u32_in _ ω;have hwc:IntKind.i64.wrap ((R1.cnt:Int)+1)=(R1.cnt:Int)+1:=IntWalk.i64_in _ ω;have hne:=h.ne;have hnw:=h.nw;have HT:=χ (ψ hTok hc2);clear h hq hTok hc2 hcnt hsl hmst hv0 h4
  go_enter Tryz.func66,Tryz.ntmps66
  go_upto_region 4 with (first
   | ((go_at_call 82;(with_reducible refine (k _ β).mono ?_));rintro e w1 ⟨rfl,v1,zo,hM,hu1⟩;(have q0:w1.cell? ⟨w.heap.size,0,none⟩=some (.int .i64 0):=hu1.kept γ ζ);(have q1:w1.cell? ⟨w.heap.size,1,none⟩=some (.int .u32 0):=hu1.kept γ ζ);(have f0:w1.frozen? ⟨w.heap.size,0,none⟩=false:=hu1.aR (v:=.int .i64 0) γ ζ γ);(have f1:w1.frozen? ⟨w.heap.size,1,none⟩=false:=hu1.aR (v:=.int .u32 0) γ ζ γ))
   | fail)
  have b0:=hM.c0;have b1:=hM.s0 hx1;have b2:=hM.s1 hx1;have b3:=hM.c3;have g1:=hM.row.free (y*2);have g2:=hM.row.free (y*2+1);have g3:=hM.head.free 3;have ZM:(y:Int)<(R1.sl.length:Int):=ω;rw [hg1] at b1;have hsz1:=hu1.size;have hgl:=hM.row.lt;have hnr1:¬ga=w.heap.size:=ω;have hnr2:¬pa=w.heap.size:=ω;have ZO:¬w.heap.size=ga:=ω;have Yc:¬w.heap.size=pa:=ω;have YH:¬ga=pa:=fun e=>hne e.symm;have hrow:=(hM.row.set (y*2) (.int .u32 ((R.g y:Int)+1))).set (y*2+1) (.bool true);have HM:=χ (ψ hM (ψ hrow (ψ hu1 (ψ zo (ψ hnw hvl)))));clear hM hrow hu1 k zo hnw hvl;generalize hgy:R.g y=gy at *
  generalize R1.cnt=cn at *;generalize hnn:R1.sl.length=n at *;have HG:=χ (ψ hgy hnn);clear hgy hnn;go_wp2;obtain ⟨hM,hrow,hu1,zo,hnw,hvl⟩:=HM.out;have e1:(((gy+1:Nat)):Int)=(gy:Int)+1:=ω;have hU:aa [ga] w1 ((w1.setCell ⟨ga,y*2,none⟩ (.int .u32 ((gy:Int)+1))).setCell ⟨ga,y*2+1,none⟩ (.bool true)):=((aa.refl _ _).setCell (Or.inl σ) _).setCell (Or.inl σ) _;have hok:=HT.out.1;have hct:=HT.out.2
  have hP:=hM.put (by rw [HG.out.2];exact hx1) (gy+1,true) hok (w':=(w1.setCell ⟨ga,y*2,none⟩ (.int .u32 ((gy:Int)+1))).setCell ⟨ga,y*2+1,none⟩ (.bool true)) (by
   rw [HG.out.2]
   exact hrow.ext (fun j hj=>by dsimp only;rw [e1])) hU
  rw [hct,show ((cn+1:Nat):Int)=(cn:Int)+1 by omega] at hP;have hF:∀x,x∈pa::ga::v1.ownBlock.toList->x∈pa::ga::v.ownBlock.toList:=fun x hx=>by rw [zo] at hx;exact hx
  have hU1:aa (pa::ga::v.ownBlock.toList) w w1:=aa.trans ((aa.refl _ _).alloc _) (hu1.mono σ);refine bodyPost_ret (v:=.tuple #[.agg #[.int .i64 (y:Int),.int .u32 ((gy:Int)+1)],.int .i64 0]) (by simp [results,Tryz.results66,go_sem,q0,q1,hnr1,hnr2,ZO,Yc]) rfl ⟨by rw [HG.out.1],pa::ga::v1.ownBlock.toList,⟨ga,v1,rfl,?_⟩,?_,fun x hx=>Or.inl (hF x hx)⟩
  ·rw [HG.out.1];refine hP.upd (S:=[w.heap.size]) (((aa.refl _ _).setCell (Or.inl σ) _).setCell (Or.inl σ) _) (fun x hx hm=>?_);simp at hx;subst hx;have hm2:=hF _ hm;simp at hm2;rcases hm2 with e|e|e
   ·exact Yc e
   ·exact ZO e
   ·have:=hvl _ e;omega
  ·exact ((((hU1.setCell (Or.inl σ) _).setCell (Or.inl σ) _).setCell (Or.inl σ) _).setCell (Or.inr (Nat.le_refl _)) _).setCell (Or.inr (Nat.le_refl _)) _
end
theorem Yr {R:AR} {x:Nat} (h:R.Ok) (hv:R.v x=true):(R.put x (R.g x,false)).Ok:=by
 have k:=(EG h hv).1;refine ⟨k.n,k.nx,k.Wl,fun z hz=>k.wt z ?_,h.nd,k.fresh,k.lv,k.gm⟩
 show z∈(if R.g x<R.most then R.wait++[x] else R.wait)
 split
 ·exact τ.2 (Or.inl hz)
 ·exact hz
section
variable {w:World} {pa ga:Nat} {v:Value} {R:AR} {F:List Nat}
theorem tT.ab5 {w2:World} (hh:aO w2 pa 158 5 (XL ga v R)) (hr:aO w2 ga 155 (R.sl.length*2) (OJ R)) (hne:pa≠ga) {R':AR} {v':Value} (ok:R'.Ok) (e1:R'.sl=R.sl) (e2:R'.next=R.next) (e3:R'.most=R.most) (hw:w2.ownsRow 0 3 1 v' R'.wait.length (aU (bJ R'.wait))) (hb:∀k,v'.ownBlock=some k->k≠pa/\k≠ga) :
  tT (w2.setCell ⟨pa,1,none⟩ v') pa ga v' R':=by
 have hu:aa [pa] w2 (w2.setCell ⟨pa,1,none⟩ v'):=(aa.refl _ _).setCell (Or.inl σ) _;refine ⟨(hh.set 1 v').ext (fun j hj=>?_),?_,aF hw hu (fun k hk e=>(hb k hk).1 (by simpa using e)),hne,hb,ok⟩
 ·rcases (ω:j=0\/j=1\/j=2\/j=3\/j=4) with rfl|rfl|rfl|rfl|rfl<;>simp [XL,AR.cnt,e1,e2,e3]
 ·rw [e1];exact (hr.upd hu (by simp;exact fun e=>hne e.symm)).ext (fun j hj=>by unfold OJ AR.g AR.v;rw [e1])
theorem Kj (h:qW w pa F R) (x:Nat) (hv:R.v x=true) :
    Calls Tryz.prog 67 #[.pointer (some ⟨pa,0,none⟩),.agg #[.int .i64 (x:Int),.int .u32 (R.g x:Int)]] w fun e w'=>e=.returned (.int .i64 0)/\Goes F w w' (fun F'=>qW w' pa F' (lu R x)):=by
  have hx:=AR.Nw hv;have hok:=h.ok;have hgm:=hok.gm x;have hmo:=hok.Wl;have kl:=fun W (hW:aa [] w W)=>A9 (h.upd hW σ) (x:Int) (R.g x:Int) ω;have hlv:C9 R (x:Int) (R.g x:Int)=true:=by
    unfold C9;rw [show ((x:Nat):Int).toNat=x by omega,hv,decide_eq_true (ω:(0:Int)<=x),decide_eq_true (ω:(x:Int)<R.sl.length)];simp
  rw [hlv] at kl;obtain ⟨ga,v,rfl,h⟩:=h;obtain ⟨av,cv,rfl,hcv⟩:=bu h.wait;have CX:=EG hok hv;have hoff:=Yr hok hv;have hcn:R.cnt<=65536:=by have h1:=Mc R.sl;have h2:=hok.n;unfold AR.cnt;omega
  have hc1:(R.put x (R.g x,false)).cnt+1=R.cnt:=by
    have:=AR.yS (R:=R) x (R.g x,false) hx;rw [hv] at this;simpa using this
  have hwc:IntKind.i64.wrap ((R.cnt:Int)-1)=(R.cnt:Int)-1:=IntWalk.i64_in _ ω;have hlp:=h.head.lt;have hlg:=h.row.lt;have hne:=h.ne;have hwl:=AR.Ld hok;have hnn:=hok.n;have hnx:=hok.nx;have H:=χ (ψ h (ψ hoff (ψ CX hc1)));have hvl:=fun k hk=>(h.wait.lt k hk).2;have HVL:=χ (ψ hvl h.nw);have b0':=h.c0;have b3':=h.c3;have b4':=h.c4;have b1':=h.c1;have s1':=h.s1 hx;have g2':=h.row.free (x*2+1);have g3':=h.head.free 3;have g1':=h.head.free 1;have CR:(x:Int)<(R.sl.length:Int):=ω;clear h hok CX hoff hlv hvl hv;have hnr1:¬ga=w.heap.size:=ω;have hnr2:¬pa=w.heap.size:=ω;have ZO:¬w.heap.size=ga:=ω
  have Yc:¬w.heap.size=pa:=ω;have YH:¬ga=pa:=fun e=>hne e.symm
  go_enter Tryz.func67,Tryz.ntmps67
  go_wp2_with (first
    | ((go_at_call 83;(with_reducible refine (kl _ β).mono ?_));rintro e w1 ⟨rfl,hu1⟩;(have q0:w1.cell? ⟨w.heap.size,0,none⟩=some (.int .i64 (x:Int)):=hu1.was γ);(have q1:w1.cell? ⟨w.heap.size,1,none⟩=some (.int .u32 (R.g x:Int)):=hu1.was γ);(have hu:aa [] w w1:=aa.trans β hu1);(have b0:=hu.was b0');(have b1:=hu.was b1');(have b3:=hu.was b3');(have b4:=hu.was b4');(have s1:=hu.was s1');(have g1:=hu.aR b1' σ g1');(have g2:=hu.aR s1' σ g2');(have g3:=hu.aR b3' σ g3'))
    | fail)
  have HU:=χ hu;have hsz1:=hu.size;have hszA:=hu1.size;rw [World.size_alloc] at hszA;clear hu hu1 kl b0' b1' b3' b4' s1' g1' g2' g3'
  go_region
  go_upto_region 5 with (fail)
  obtain ⟨hM,hoff,CX,hc1⟩:=H.out;have hM1:=hM.upd HU.out σ
  have hP:=fun W (hW:aa [] w1 W)=>(hM1.upd hW σ).put hx (R.g x,false) hoff (w':=W.setCell ⟨ga,x*2+1,none⟩ (.bool false)) (((hM1.upd hW σ).row.set (x*2+1) (.bool false)).ext (fun j hj=>by
    dsimp only
    by_cases e1:j=x*2+1
    · rw [if_pos e1,if_pos e1]
    · rw [if_neg e1,if_neg e1]
      by_cases e2:j=x*2
      · rw [if_pos e2,e2];unfold OJ;rw [if_pos ω,show x*2 / 2=x by omega]
      · rw [if_neg e2])) ((aa.refl _ _).setCell (Or.inl σ) _)
  rw [show (((R.put x (R.g x,false)).cnt:Nat):Int)=(R.cnt:Int)-1 by omega] at hP;refine jA (fun W=>W.cell? ⟨w.heap.size,0,none⟩=some (.int .i64 (x:Int))/\W.cell? ⟨w.heap.size,1,none⟩=some (.int .u32 (R.g x:Int))/\tT W pa ga (.slice av R.wait.length cv) (R.put x (R.g x,false))/\aa [pa,ga] w W) ⟨γ,γ,(hP w1 (aa.refl _ _)).upd (S:=[]) ((aa.refl _ _).drew) σ,?_⟩ ?_
  · have:=HU.out.mono (T:=[pa,ga]) σ
    (repeat (first|assumption|exact aa.refl _ _|refine aa.alloc ?_ _|refine aa.drew ?_|refine aa.drewN ?_ _|refine aa.setCell ?_ ?_ _|focus (left;simp;done)|focus (right;simp;done)|focus (right;simp;omega)))
  rintro W ⟨q2,q3,mE,SY⟩;clear hM1 hP hM b0 b1 b3 b4 s1 g1 g2 g3 q0 q1;have c1:=mE.c1;have c4:=mE.c4;have f1:=mE.head.free 1;have hw:=mE.wait;have hszW:=SY.size;have hlW:w.heap.size<W.heap.size:=World.block_lt_of_cell? W _ q2;have HMW:=χ (ψ mE (ψ CX SY));clear mE SY CX hc1 hoff;rw [show (R.put x (R.g x,false)).most=R.most from rfl] at c4;rw [show (R.put x (R.g x,false)).wait=R.wait from rfl] at hw
  by_cases hlt:R.g x<R.most
  · have hltb:decide ((R.g x:Int)<(R.most:Int))=true:=by simp;exact hlt
    go_wp2
    go_quiet (fail)
    go_wp2;refine jA (fun W6=>aa [] W W6) β ?_;intro W6 iB;have p1:=iB.was c1;have p2:=iB.was q2;have pf1:=iB.aR c1 σ f1;have DD:=aF (S:=[]) hw iB σ;have hsz6:=iB.size;have s0:aa [] W6 (W6.drew.alloc (.cells #[.int .i64 (x:Int)] 3)):=((aa.refl _ _).drew).alloc _;have rr:∀S X,aa S W6 X->pa∉S->X.frozen? ⟨pa,1,none⟩=false:=fun S X h hn=>h.aR p1 hn pf1;have rc:∀S X,aa S W6 X->pa∉S->(X.cell? ⟨pa,1,none⟩).isSome=true:=fun S X h hn=>by rw [h.kept p1 hn];rfl
    have hpa6:pa<W6.heap.size:=World.block_lt_of_cell? W6 _ p1;have hrs6:w.heap.size<W6.heap.size:=World.block_lt_of_cell? W6 _ p2;clear c1 c4 f1 q2 q3 hltb hw
    go_region_law
      (first
        | (refine kE rfl _ _ 26 rfl 0 3 (.int .i64 0) 1 8 Tryz.underlying26 fK rfl δ (.slice av R.wait.length cv) R.wait.length (aU (bJ R.wait)) rfl (DD.drew.alloc _) W6.heap.size [.int .i64 (x:Int)] rfl rfl (fun j u hj=>mJ W6 [.int .i64 (x:Int)] 3 j u hj) (by simp [Value.oneCell']) μ ω σ ?_
           intro v2 w2 ho2 hu2 hv2;have hS2:aa (Value.slice av R.wait.length cv).ownBlock.toList W6 w2:=(s0.mono σ).trans hu2;have NR:pa∉(Value.slice av R.wait.length cv).ownBlock.toList:=fun e=>by have:=HVL.out.2 pa (by simpa using e);omega
           have z1:=hS2.kept p1 NR;have zf1:=hS2.aR p1 NR pf1
           obtain ⟨a2,cap2,rfl,hcap2⟩:=bu ho2))
    all_goals
      go_wp2;go_ret;obtain ⟨mE,CX,SY⟩:=HMW.out;have uB:=mE.upd iB σ;have hgw:ga∉(Value.slice av R.wait.length cv).ownBlock.toList:=fun e=>by have:=HVL.out.2 ga (by simpa using e);omega
      have eR:lu R x={ R.put x (R.g x,false) with wait:=R.wait++[x] }:=by unfold lu;rw [if_pos hlt]
      have zo:∀k,(Value.slice a2 (R.wait.length+1) cap2).ownBlock=some k->(Value.slice av R.wait.length cv).ownBlock=some k\/W6.heap.size<=k:=fun k hk=>by
        rcases hv2 with h|h
        · rw [h] at hk;exact Or.inl hk
        · rw [h] at hk;simp at hk;exact Or.inr ω
      have hfin:=tT.ab5 (uB.head.upd hS2 NR) (uB.row.upd hS2 hgw) hne (R':=lu R x) (v':=.slice a2 (R.wait.length+1) cap2) CX.1 (by rw [eR]) (by rw [eR]) (by rw [eR]) (by
        have e2:(lu R x).wait=R.wait++[x]:=by rw [eR]
        rw [e2,υ,show bJ (R.wait++[x])=bJ R.wait++[(x:Int)] from by unfold bJ;simp,bN];exact ho2) (fun k hk=>by
        rcases zo k hk with h|h
        · exact HVL.out.2 k h
        · omega)
      refine ⟨rfl,pa::ga::(Value.slice a2 (R.wait.length+1) cap2).ownBlock.toList,⟨ga,_,rfl,hfin⟩,?_,fun k hk=>?_⟩
      · have h1:aa (pa::ga::(Value.slice av R.wait.length cv).ownBlock.toList) w W6:=(SY.mono (fun z hz=>by simp at hz ⊢;omega)).trans (iB.mono σ)
        exact (h1.trans (hS2.mono (fun z hz=>by simp [hz]))).setCell (Or.inl σ) _
      · simp only [ρ] at hk ⊢
        rcases hk with h|h|h
        · exact Or.inl (Or.inl h)
        · exact Or.inl (Or.inr (Or.inl h))
        · rcases zo k (by simpa using h) with h'|h'
          · exact Or.inl (Or.inr (Or.inr (by simpa using h')))
          · exact Or.inr ω
  · have hltb:decide ((R.g x:Int)<(R.most:Int))=false:=ζ
    go_wp2
    go_quiet (fail)
    go_wp2;go_ret;obtain ⟨mE,CX,SY⟩:=HMW.out;have eR:lu R x=R.put x (R.g x,false):=by unfold lu;rw [if_neg hlt];rfl
    rw [eR];refine ⟨rfl,_,⟨ga,_,rfl,mE.upd (S:=[]) β σ⟩,?_,fun k hk=>Or.inl hk⟩;have h1:aa (pa::ga::(Value.slice av R.wait.length cv).ownBlock.toList) w W:=SY.mono (fun z hz=>by simp at hz ⊢;omega);exact h1.trans β
end
def pqC (K:gV) (pa pn:Nat) (kd d:Int) (q:Nat) (j:Nat):Value:=[Value.int .i64 kd,.int .i64 d,.pointer (some ⟨pa,0,none⟩),.iface K.ty (.pointer (some ⟨pn,0,none⟩)),.int .u64 (q:Int)].getD j undef
structure ES (K:gV) (w:World) (p pa pn:Nat) (Fa Fn:List Nat) (kd d:Int) (R:AR) (A:NS) (q:Nat):Prop where
 head:aO w p 124 5 (pqC K pa pn kd d q)
 ar:qW w pa Fa R
 nest:K.at_ w pn Fn A
 s1:p∉Fa
 s2:p∉Fn
 s3:∀x,x∈Fa->x∉Fn
 len:R.sl.length=A.cs.length
 link:∀x:Nat,R.v x=bX A (x:Int)
def gU (K:gV) (w:World) (p:Nat) (F:List Nat) (kd d:Int) (R:AR) (A:NS) (q:Nat):Prop:=∃pa pn Fa Fn,F=p::(Fa++Fn)/\ES K w p pa pn Fa Fn kd d R A q
section
variable {K:gV} {w:World} {p pa pn:Nat} {Fa Fn F:List Nat} {kd d:Int} {R:AR} {A:NS} {q:Nat}
theorem ES.c2 (h:ES K w p pa pn Fa Fn kd d R A q):w.cell? ⟨p,2,none⟩=some (.pointer (some ⟨pa,0,none⟩)):=h.head.cellAt 2 ω rfl
theorem ES.c3 (h:ES K w p pa pn Fa Fn kd d R A q):w.cell? ⟨p,3,none⟩=some (.iface K.ty (.pointer (some ⟨pn,0,none⟩))):=h.head.cellAt 3 ω rfl
theorem ES.c4 (h:ES K w p pa pn Fa Fn kd d R A q):w.cell? ⟨p,4,none⟩=some (.int .u64 (q:Int)):=h.head.cellAt 4 ω rfl
theorem ES.upd {w':World} {S:List Nat} (h:ES K w p pa pn Fa Fn kd d R A q) (hu:aa S w w') (hS:∀x,x∈S->x∉p::(Fa++Fn)):ES K w' p pa pn Fa Fn kd d R A q:=
 ⟨h.head.upd hu (fun e=>hS _ e σ),h.ar.upd hu (fun x hx hm=>hS x hx (by simp [hm])),K.upd h.nest hu (fun x hx hm=>hS x hx (by simp [hm])),h.s1,h.s2,h.s3,h.len,h.link⟩
theorem gU.upd {w':World} {S:List Nat} (h:gU K w p F kd d R A q) (hu:aa S w w') (hS:∀x,x∈S->x∉F):gU K w' p F kd d R A q:=by
 obtain ⟨pa,pn,Fa,Fn,rfl,h⟩:=h;exact ⟨pa,pn,Fa,Fn,rfl,h.upd hu hS⟩
theorem gU.aA {w':World} (h:gU K w p F kd d R A q) (hu:aa [] w w'):gU K w' p F kd d R A q:=h.upd hu σ
theorem ES.lt (h:ES K w p pa pn Fa Fn kd d R A q):∀x,x∈p::(Fa++Fn)->x<w.heap.size:=fun x hx=>by
 simp only [ρ,τ] at hx;rcases hx with rfl|hx|hx
 ·exact h.head.lt
 ·exact h.ar.lt x hx
 ·exact K.lt h.nest x hx
theorem gU.lt (h:gU K w p F kd d R A q):∀x,x∈F->x<w.heap.size:=by
 obtain ⟨pa,pn,Fa,Fn,rfl,h⟩:=h;exact h.lt
theorem gU.ok (h:gU K w p F kd d R A q):A.Ok/\R.Ok/\R.sl.length=A.cs.length/\∀x:Nat,R.v x=bX A (x:Int):=by
 obtain ⟨pa,pn,Fa,Fn,rfl,h⟩:=h;exact ⟨K.ok h.nest,h.ar.ok,h.len,h.link⟩
theorem ES.Sw (h:ES K w p pa pn Fa Fn kd d R A q) {w':World} {wm:List Nat} {A':NS} (hn:K.at_ w' pn wm A') (hu:aa Fn w w') (hf:∀x,x∈wm->x∈Fn\/w.heap.size<=x) (hl:A'.cs.length=A.cs.length) {R':AR} (ha:qW w' pa Fa R') (hl2:R'.sl.length=R.sl.length)
  (hk:∀x:Nat,R'.v x=bX A' (x:Int)):ES K w' p pa pn Fa wm kd d R' A' q:=
 ⟨h.head.upd hu h.s2,ha,hn,h.s1,fun e=>by rcases hf _ e with e|e;exact h.s2 e;have:=h.head.lt;omega,fun x hx e=>by rcases hf _ e with e|e;exact h.s3 x hx e;have:=h.ar.lt x hx;omega,by rw [hl2,hl];exact h.len,hk⟩
theorem Gg (A:NS) (x:Int):bX (aQ A) x=bX A x:=by unfold aQ;split<;>rfl
theorem Cu (A:NS):(aQ A).cs.length=A.cs.length:=by unfold aQ;split<;>rfl
theorem Ei (h:gU K w p F kd d R A q) :
  Calls Tryz.prog 65 #[.pointer (some ⟨p,0,none⟩)] w fun e w'=>e=.returned (.tuple #[.int .i64 (dF A),.int .i64 (if dF A=0 then 32 else 0)])/\Goes F w w' (fun F'=>gU K w' p F' kd d R (aQ A) q):=by
 obtain ⟨pa,pn,Fa,Fn,rfl,h⟩:=h;have c3:=h.c3;obtain ⟨f,fv,hen,rR⟩:=K.make h.nest;unfold Enters at hen;have hm:=(rR w (aa.refl _ _)).1;have hc:=(rR w (aa.refl _ _)).2
 have HK:=χ (show ∀w' wm,K.at_ w' pn wm (aQ A)->aa Fn w w'->(∀x,x∈wm->x∈Fn\/w.heap.size<=x)->Goes (p::(Fa++Fn)) w w' (fun F'=>gU K w' p F' kd d R (aQ A) q) from fun w' wm hn hu hf=>by
  refine ⟨p::(Fa++wm),⟨pa,pn,Fa,wm,rfl,h.Sw hn hu hf (Cu A) (h.ar.upd hu (fun x hx hm=>h.s3 x hm hx)) rfl (fun x=>by rw [Gg];exact h.link x)⟩,hu.mono (fun x hx=>by simp [hx]),fun x hx=>?_⟩;simp only [ρ,τ] at hx ⊢;rcases hx with hx|hx|hx
  ·exact Or.inl (Or.inl hx)
  ·exact Or.inl (Or.inr (Or.inl hx))
  ·rcases hf x hx with hx|hx
   ·exact Or.inl (Or.inr (Or.inr hx))
   ·exact Or.inr hx)
 clear h rR;generalize dF A=mv at *
 by_cases hz:mv=0
 ·subst hz
  go_enter Tryz.func65,Tryz.ntmps65
  go_wp2_with (first
   | ((with_reducible refine (hc).mono ?_);rintro e w1 ⟨rfl,wm,hn,hu,hf⟩)
   | fail)
  go_ret2;exact ⟨rfl,HK.out _ _ hn hu hf⟩
 ·have hzb:(mv == 0)=false:=by simpa using hz
  rw [if_neg hz];clear hz
  go_enter Tryz.func65,Tryz.ntmps65
  go_wp2_with (first
   | ((with_reducible refine (hc).mono ?_);rintro e w1 ⟨rfl,wm,hn,hu,hf⟩)
   | fail)
  go_ret2;exact ⟨rfl,HK.out _ _ hn hu hf⟩
end
end Go.Proofs.YtklibcncmbofpaaGreat
