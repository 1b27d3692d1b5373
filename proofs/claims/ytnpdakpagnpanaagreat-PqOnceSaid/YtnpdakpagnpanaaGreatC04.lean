/-
  Lemmas for PqAlike: ArP, Ar, Ar2, Ar3, Pq, Chk, PqO, Pq2, Pq3, Pq4, Pq5, PqN, Pq6, Pq7, Pq8, PqR, PqS, PqT, PqE. Conditions: those of each lemma.
-/
import Derived.Test.YtnpdakpagnpanaaGreatC03
set_option linter.all false
set_option maxHeartbeats 8000000
set_option maxRecDepth 10000
namespace Go.Proofs.YtnpdakpagnpanaaGreat
open Tryz
open Go Go.RowKit
structure AR where
 sl:List (Nat×Bool)
 wait:List Nat
 next:Nat
 most:Nat
def AR.g(R:AR)(x:Nat):Nat:=(R.sl.getD x (0,false)).1
def AR.v(R:AR)(x:Nat):Bool:=(R.sl.getD x (0,false)).2
def IM(l:List (Nat×Bool)):Nat:=(l.filter (λp=>p.2)).length
def AR.cnt(R:AR):Nat:=IM R.sl
structure AR.Ok(R:AR):Prop where
 n:R.sl.length<=65536
 nx:R.next<=R.sl.length
 QQ:1<=R.most/\R.most<=4294967295
 wt:∀x,x∈R.wait->x<R.next/\R.v x=false/\R.g x<R.most
 nd:R.wait.Nodup
 fresh:∀x,R.next<=x->R.g x=0/\R.v x=false
 lv:∀x,R.v x=true->1<=R.g x
 gm:∀x,R.g x<=R.most
def AR.new(n most:Nat):AR:=⟨List.replicate n (0,false),[],0,most⟩
def AR.put(R:AR)(x:Nat)(p:Nat×Bool):AR:={ R with sl:=R.sl.set x p }
def sD(R:AR):Option (Nat×AR):=
 match R.wait.getLast? with
 |some x=>some (x,{ R with wait:=R.wait.dropLast })
 |none=>if R.next=R.sl.length then none else some (R.next,{ R with next:=R.next+1 })
def kZ(R:AR):Option (Nat×AR):=(sD R).map λp=>(p.1,p.2.put p.1 (R.g p.1+1,true))
def iO(R:AR)(x g:Int):Bool:=decide (0<=x) && decide (x<R.sl.length) && decide ((R.g x.toNat:Int)=g) && R.v x.toNat
def gY(R:AR)(x:Nat):AR:={ R.put x (R.g x,false) with wait:=if R.g x<R.most then R.wait++[x] else R.wait }
section
variable{R:AR}
theorem AR.zo(x:Nat)(p:Nat×Bool)(y:Nat):(R.put x p).g y=if y=x/\x<R.sl.length then p.1 else R.g y:=by
 unfold AR.put AR.g;simp only[φ,ύ]
 by_cases h:x=y
 ·subst h
  by_cases hl:x<R.sl.length
  ·simp[hl]
  ·simp[hl]
 ·rw[Γ h,Γ (λe=>h e.1.symm)]
theorem AR.Bw(x:Nat)(p:Nat×Bool)(y:Nat):(R.put x p).v y=if y=x/\x<R.sl.length then p.2 else R.v y:=by
 unfold AR.put AR.v;simp only[φ,ύ]
 by_cases h:x=y
 ·subst h
  by_cases hl:x<R.sl.length
  ·simp[hl]
  ·simp[hl]
 ·rw[Γ h,Γ (λe=>h e.1.symm)]
theorem AR.far{x:Nat}(hx:R.sl.length<=x):R.g x=0/\R.v x=false:=by
 unfold AR.g AR.v;rw[φ,List.getElem?_eq_none hx];exact⟨rfl,rfl⟩
theorem AR.jP(x:Nat)(p:Nat×Bool):(R.put x p).sl.length=R.sl.length:=by unfold AR.put;simp
theorem AR.Pk{x:Nat}(h:R.v x=true):x<R.sl.length:=by
 rcases ϖ x R.sl.length with h'|h'
 ·exact h'
 ·rw[(AR.far h').2] at h;cases h
theorem uR(q:Nat×Bool)(r:List (Nat×Bool)):IM (q::r)=IM r+if q.2 then 1 else 0:=by
 unfold IM;rw[List.filter_cons];cases h:q.2<;>simp
theorem He:∀(l:List (Nat×Bool)) (x:Nat) (p:Nat×Bool),x<l.length->IM (l.set x p)+(if(l.getD x (0,false)).2 then 1 else 0)=IM l+(if p.2 then 1 else 0)
 | [],x,p,h=>by simp at h
 |q::r,0,p,h=>by
  rw[List.set_cons_zero,uR,uR]
  show _+_+(if q.2 then 1 else 0)=_
  omega
 |q::r,x+1,p,h=>by
  have ih:=He r x p (by simpa using h);rw[List.set_cons_succ,uR,uR,List.getD_cons_succ];omega
theorem MQ(l:List (Nat×Bool)):IM l<=l.length:=List.length_filter_le _ _
theorem AR.zS(x:Nat)(p:Nat×Bool)(hx:x<R.sl.length):(R.put x p).cnt+(if R.v x then 1 else 0)=R.cnt+(if p.2 then 1 else 0):=He R.sl x p hx
theorem AR.Nb(h:R.Ok):R.wait.length<=R.next:=by
 have key:∀(n:Nat) (l:List Nat),l.Nodup->(∀x,x∈l->x<n)->l.length<=n:=by
  intro n
  induction n with
  |zero=>
   intro l _ h;cases l with
   |nil=>simp
   |cons x r=>have:=h x σ;omega
  |succ n ih=>
   intro l hn h
   have h1:=ih (l.erase n) (hn.erase _) (λx hx=>by
    have h2:=(List.Nodup.mem_erase_iff hn).1 hx;have:=h x h2.2
    omega)
   have h2:=List.length_erase_le (a:=n) (l:=l);have h3:l.length<=(l.erase n).length+1:=by
    by_cases hm:n∈l
    ·rw[List.length_erase_of_mem hm];omega
    ·rw[List.erase_of_not_mem hm];omega
   omega
 exact key _ _ h.nd (λx hx=>(h.wt x hx).1)
theorem AR.Mq{n most:Nat}(hn:n<=65536)(hm:1<=most/\most<=4294967295):(AR.new n most).Ok:=by
 have e:∀x,(AR.new n most).g x=0/\(AR.new n most).v x=false:=λx=>by
  unfold AR.new AR.g AR.v;simp only[φ,List.getElem?_replicate]
  split<;>exact⟨rfl,rfl⟩
 refine⟨by simp[AR.new];exact hn,by simp[AR.new],hm,λx hx=>by simp[AR.new] at hx,by simp[AR.new],λx _=>e x,λx hx=>?_,λx=>?_⟩
 ·rw[(e x).2] at hx;cases hx
 ·rw[(e x).1];exact Nat.zero_le _
theorem AR.E8(n most:Nat):(AR.new n most).cnt=0:=by
 unfold AR.cnt IM AR.new;simp
theorem yY{x:Nat}{R':AR}(h:R.Ok)(hp:sD R=some (x,R')):x<R.sl.length/\R.v x=false/\R.g x<R.most/\R'.sl=R.sl/\R'.most=R.most/\R'.next<=R.sl.length/\x<R'.next/\R.next<=R'.next/\
  (∀y,y∈R'.wait->y∈R.wait/\y≠x)/\R'.wait.Nodup:=by
 unfold sD at hp;cases hl:R.wait.getLast? with
 |some y=>
  rw[hl] at hp;simp only[ϗ,Prod.mk.injEq] at hp;obtain⟨rfl,rfl⟩:=hp;have hm:y∈R.wait:=List.mem_of_getLast? hl;obtain⟨h1,h2,h3⟩:=h.wt y hm;have hn:=h.nd;have happ:R.wait=R.wait.dropLast++[y]:=by
   obtain⟨l,hl'⟩:=List.getLast?_eq_some_iff.1 hl;rw[hl'];simp
  rw[happ,θ] at hn;refine⟨Ψ h1 h.nx,h2,h3,rfl,rfl,h.nx,h1,Θ _,λz hz=>⟨List.dropLast_subset _ hz,λe=>?_⟩,hn.1⟩;exact hn.2.2 z hz y σ e
 |none=>
  rw[hl] at hp;have hw:R.wait=[]:=List.getLast?_eq_none_iff.1 hl;dsimp only at hp
  split at hp
  ·cases hp
  ·rename_i hne
   simp only[ϗ,Prod.mk.injEq] at hp;obtain⟨rfl,rfl⟩:=hp;have h1:=h.nx;have h2:=h.fresh R.next (Θ _);refine⟨ω,h2.2,by rw[h2.1];exact h.QQ.1,rfl,rfl,by show R.next+1<=_;omega,by show R.next<R.next+1;omega,by show R.next<=R.next+1;omega,λy hy=>?_,h.nd⟩;rw[show({ R with next:=R.next+1 }:AR).wait=R.wait from rfl,hw] at hy;cases hy
theorem uO{x:Nat}{R':AR}(h:R.Ok)(hp:kZ R=some (x,R')):R'.Ok/\x<R.sl.length/\R.v x=false/\R.g x<R.most/\R'.sl=R.sl.set x (R.g x+1,true)/\R'.most=R.most/\R'.cnt=R.cnt+1:=by
 unfold kZ at hp;cases hq:sD R with
 |none=>rw[hq] at hp;cases hp
 |some q=>
  obtain⟨y,R1⟩:=q;rw[hq] at hp;simp only[ϝ,ϗ,Prod.mk.injEq] at hp;obtain⟨rfl,rfl⟩:=hp;obtain⟨h1,h2,h3,h4,h5,h6,h7,h8,h9,h10⟩:=yY h hq;have eg:∀z,R1.g z=R.g z:=λz=>by unfold AR.g;rw[h4]
  have ev:∀z,R1.v z=R.v z:=λz=>by unfold AR.v;rw[h4]
  have hl:y<R1.sl.length:=by rw[h4];exact h1
  refine⟨⟨by rw[AR.jP,h4];exact h.n,by rw[AR.jP,h4];exact h6,by show 1<=R1.most/\R1.most<=4294967295;rw[h5];exact h.QQ,λz hz=>?_,h10,λz hz=>?_,λz hz=>?_,λz=>?_⟩,h1,h2,h3,by show R1.sl.set _ _=_;rw[h4],h5,?_⟩
  ·obtain⟨a1,a2⟩:=h9 z hz;obtain⟨b1,b2,b3⟩:=h.wt z a1;rw[AR.Bw,AR.zo,Γ (λe=>a2 e.1),Γ (λe=>a2 e.1),ev,eg];refine⟨Ψ b1 h8,b2,?_⟩
   show R.g z<R1.most
   rw[h5];exact b3
  ·have hz':R1.next<=z:=hz;rw[AR.Bw,AR.zo,Γ ω,Γ ω,ev,eg];exact h.fresh z ω
  ·rw[AR.Bw] at hz;rw[AR.zo]
   by_cases e:z=y/\y<R1.sl.length
   ·rw[Δ e];show 1<=R.g y+1;omega
   ·rw[Γ e] at hz ⊢;rw[ev] at hz;rw[eg];exact h.lv z hz
  ·rw[AR.zo]
   show _<=R1.most
   rw[h5]
   split
   ·show R.g y+1<=_;omega
   ·rw[eg];exact h.gm z
  ·have hc:=AR.zS (R:=R1) y (R.g y+1,true) hl;rw[ev,h2] at hc;simp at hc;rw[hc];unfold AR.cnt;rw[h4]
theorem EH{x:Nat}(h:R.Ok)(hv:R.v x=true):(gY R x).Ok/\(gY R x).cnt+1=R.cnt:=by
 have hx:=AR.Pk hv;have eg:∀z,(gY R x).g z=R.g z:=λz=>by
  show(R.put x (R.g x,false)).g z=_
  rw[AR.zo]
  split
  ·rename_i e;rw[e.1]
  ·rfl
 have ev:∀z,(gY R x).v z=if z=x then false else R.v z:=λz=>by
  show(R.put x (R.g x,false)).v z=_
  rw[AR.Bw]
  by_cases e:z=x
  ·rw[Δ ⟨e,hx⟩,Δ e]
  ·rw[Γ (λh=>e h.1),Γ e]
 have wM:x<R.next:=by
  rcases ϖ x R.next with h'|h'
  ·exact h'
  ·rw[(h.fresh x h').2] at hv;cases hv
 refine⟨⟨by show(R.put x _).sl.length<=_;rw[AR.jP];exact h.n,by show R.next<=(R.put x _).sl.length;rw[AR.jP];exact h.nx,h.QQ,λz hz=>?_,?_,λz hz=>?_,λz hz=>?_,λz=>by rw[eg];exact h.gm z⟩,?_⟩
 ·have hz':z∈(if R.g x<R.most then R.wait++[x] else R.wait):=hz;rw[ev,eg];have hw:z∈R.wait->z<R.next/\(if z=x then false else R.v z)=false/\R.g z<R.most:=λhm=>by
   obtain⟨b1,b2,b3⟩:=h.wt z hm;refine⟨b1,?_,b3⟩
   split
   ·rfl
   ·exact b2
  split at hz'
  ·rename_i hlt
   rcases τ.1 hz' with hm|hm
   ·exact hw hm
   ·simp at hm;subst hm;exact⟨wM,by rw[Δ rfl],hlt⟩
  ·exact hw hz'
 ·show(if R.g x<R.most then R.wait++[x] else R.wait).Nodup
  split
  ·rw[θ];refine⟨h.nd,σ,λa ha b hb e=>?_⟩;simp at hb;subst hb;subst e;have:=(h.wt _ ha).2.1;rw[hv] at this;cases this
  ·exact h.nd
 ·rw[ev,eg];have hz':R.next<=z:=hz;have:=h.fresh z hz';exact⟨this.1,by split;rfl;exact this.2⟩
 ·rw[ev] at hz
  split at hz
  ·cases hz
  ·rw[eg];exact h.lv z hz
 ·have hc:=AR.zS (R:=R) x (R.g x,false) hx;rw[hv] at hc;simp at hc;exact hc
end
theorem bG{c:Code}{K:Exit->Act->World->Prop}{a:Act}{W:World}(R:World->Prop)(h:R W)(k:∀W',R W'->Code.wp prog c K a W'):Code.wp prog c K a W:=k W h
def OD(R:AR)(j:Nat):Value:=if j % 2=0 then .int .u32 (R.g (j / 2):Int) else .bool (R.v (j / 2))
def arC(ga:Nat)(v:Value)(R:AR)(j:Nat):Value:=[Value.slice (some ⟨ga,0,none⟩) R.sl.length R.sl.length,v,.int .i64 (R.next:Int),.int .i64 (R.cnt:Int),.int .u32 (R.most:Int)].getD j undef
structure ui(w:World)(pa ga:Nat)(v:Value)(R:AR):Prop where
 head:aS w pa 120 5 (arC ga v R)
 row:aS w ga 152 (R.sl.length*2) (OD R)
 wait:w.ownsRow 0 3 1 v R.wait.length (bz (bZ R.wait))
 ne:pa≠ga
 nw:∀k,v.ownBlock=some k->k≠pa/\k≠ga
 ok:R.Ok
def oW(w:World)(pa:Nat)(F:List Nat)(R:AR):Prop:=∃ga v,F=pa::ga::v.ownBlock.toList/\ui w pa ga v R
section
variable{w:World}{pa ga:Nat}{v:Value}{R:AR}{F:List Nat}
theorem ui.c0(h:ui w pa ga v R):w.cell? ⟨pa,0,none⟩=some (.slice (some ⟨ga,0,none⟩) R.sl.length R.sl.length):=h.head.cellAt 0 ω rfl
theorem ui.c1(h:ui w pa ga v R):w.cell? ⟨pa,1,none⟩=some v:=h.head.cellAt 1 ω rfl
theorem ui.c2(h:ui w pa ga v R):w.cell? ⟨pa,2,none⟩=some (.int .i64 (R.next:Int)):=h.head.cellAt 2 ω rfl
theorem ui.c3(h:ui w pa ga v R):w.cell? ⟨pa,3,none⟩=some (.int .i64 (R.cnt:Int)):=h.head.cellAt 3 ω rfl
theorem ui.c4(h:ui w pa ga v R):w.cell? ⟨pa,4,none⟩=some (.int .u32 (R.most:Int)):=h.head.cellAt 4 ω rfl
theorem ui.s0(h:ui w pa ga v R){x:Nat}(hx:x<R.sl.length):w.cell? ⟨ga,x*2,none⟩=some (.int .u32 (R.g x:Int)):=h.row.cellAt (x*2) ω (by unfold OD;rw[Δ ω,show x*2 / 2=x by omega])
theorem ui.s1(h:ui w pa ga v R){x:Nat}(hx:x<R.sl.length):w.cell? ⟨ga,x*2+1,none⟩=some (.bool (R.v x)):=h.row.cellAt (x*2+1) ω (by unfold OD;rw[Γ ω,show(x*2+1) / 2=x by omega])
theorem OT(l:List Nat):(bZ l).length=l.length:=by unfold bZ;simp
theorem ui.upd{w':World}{S:List Nat}(h:ui w pa ga v R)(hu:ae S w w')(hS:∀x,x∈S->x∉pa::ga::v.ownBlock.toList):ui w' pa ga v R:=
 ⟨h.head.upd hu (λe=>hS _ e σ),h.row.upd hu (λe=>hS _ e σ),ak h.wait hu (λk hk e=>hS _ e (by simp[hk])),h.ne,h.nw,h.ok⟩
theorem oW.upd{w':World}{S:List Nat}(h:oW w pa F R)(hu:ae S w w')(hS:∀x,x∈S->x∉F):oW w' pa F R:=by
 obtain⟨ga,v,rfl,h⟩:=h;exact⟨ga,v,rfl,h.upd hu hS⟩
theorem oW.lt(h:oW w pa F R):∀x,x∈F->x<w.heap.size:=by
 obtain⟨ga,v,rfl,h⟩:=h;intro x hx;simp at hx;rcases hx with rfl|rfl|hx
 ·exact h.head.lt
 ·exact h.row.lt
 ·exact(h.wait.lt x hx).2
theorem oW.ok(h:oW w pa F R):R.Ok:=by obtain⟨ga,v,rfl,h⟩:=h;exact h.ok
theorem SF:(prog.info? 152).map (λi=>(i.zero,i.size,i.bytes))=some (some (.agg #[.int .u32 0,.bool false]),2,8):=by kernel_rfl
theorem QM(n m:Nat)(w:World)(h:n<=65536)(hm:1<=m/\m<=4294967295) :
  Calls prog 34 #[.int .i64 (n:Int),.int .u32 (m:Int)] w λe w'=>∃pa F,e=.returned (.tuple #[.pointer (some ⟨pa,0,none⟩),.int .i64 0])/\oW w' pa F (AR.new n m)/\ae [] w w'/\∀x,x∈F->w.heap.size<=x:=by
 have hm0:((m:Int) == 0)=false:=ζ
 go_enter func34,ntmps34
 go_wp2_with (first
  | (at_make;refine wpList_make_row rfl _ 118 rfl 152 (.agg #[.int .u32 0,.bool false]) 2 8 underlying118 SF n rfl ω μ ?_;intro w2 hr2 hu2))
 go_ret2;have hh:=eZ w2 [.slice (some ⟨w.heap.size,0,none⟩) n n,.slice none 0 0,.int .i64 0,.int .i64 0,.int .u32 (m:Int)] 120;have l1:=hr2.lt;have e:∀x,(AR.new n m).g x=0/\(AR.new n m).v x=false:=λx=>by
  unfold AR.new AR.g AR.v;simp only[φ,List.getElem?_replicate]
  split<;>exact⟨rfl,rfl⟩
 refine⟨w2.heap.size,w2.heap.size::w.heap.size::[],rfl,⟨w.heap.size,.slice none 0 0,rfl,⟨?_,?_,⟨by simp[AR.new,bZ,bz],Α ⟨rfl,by simp[AR.new]⟩⟩,ω,λk hk=>(by cases hk),AR.Mq h hm⟩⟩,hu2.trans ((ae.refl _ _).alloc _),λx hx=>by simp at hx;omega⟩
 ·refine hh.ext (λj hj=>?_);unfold arC;rw[AR.E8];simp[AR.new]
 ·have hl:(AR.new n m).sl.length=n:=by simp[AR.new]
  rw[hl];refine(hr2.alloc _).ext (λj hj=>?_);unfold OD;rw[(e _).1,(e _).2]
  show(madeCells #[Value.int .u32 0,.bool false] (n*2)).toList.getD j undef=_
  rw[φ,ε (by simp[size_madeCells];omega)];simp only[Option.getD_some,madeCells,Array.getElem_toList,Array.getElem_map,Array.getElem_range];rcases(ω:j % 2=0\/j % 2=1) with e|e<;>simp[e]
theorem oI(h:oW w pa F R)(x g:Int)(hg:0<=g/\g<=4294967295) :
  Calls prog 73 #[.pointer (some ⟨pa,0,none⟩),.agg #[.int .i64 x,.int .u32 g]] w λe w'=>e=.returned (.bool (iO R x g))/\ae [] w w':=by
 obtain⟨ga,v,rfl,h⟩:=h;have c0':=h.c0;unfold iO
 by_cases b1:x≥0
 ·by_cases b2:x<(R.sl.length:Int)
  ·have d0':=h.s0 (x:=x.toNat) ω;have d1':=h.s1 (x:=x.toNat) ω;rw[show((x.toNat * 2:Nat))=x.toNat * 2 from rfl] at d0';rw[Ν (show 0<=x from b1),Ν b2];generalize R.g x.toNat=gi at *;generalize R.v x.toNat=vi at *;generalize R.sl.length=n at *;clear h
   go_enter func73,ntmps73
   (go_upto_region 1 with(fail);refine bG (λW=>W.cell? ⟨w.heap.size,0,none⟩=some (.int .i64 x)/\W.cell? ⟨w.heap.size,1,none⟩=some (.int .u32 g)/\ae [] w W) ⟨σ,σ,β⟩ ?_;rintro W ⟨q0,q1,hu⟩)
   have c0:=hu.was c0';have d0:=hu.was d0';have d1:=hu.was d1';have HU:=χ hu;clear hu c0' d0' d1'
   by_cases e:(gi:Int)=g
   ·subst e;cases vi
    all_goals
     go_quiet (fail)
     go_wp2;go_ret;exact⟨cZ σ,by have:=HU.out;exact β⟩
   ·cases vi
    all_goals
     go_quiet (fail)
     go_wp2;go_ret;exact⟨cZ (by simp[e]),by have:=HU.out;exact β⟩
  ·have b2b:decide (x<(R.sl.length:Int))=false:=by simpa using b2
   rw[b2b];generalize R.sl.length=n at *;clear h
   go_enter func73,ntmps73
   (go_upto_region 1 with(fail);refine bG (λW=>W.cell? ⟨w.heap.size,0,none⟩=some (.int .i64 x)/\W.cell? ⟨w.heap.size,1,none⟩=some (.int .u32 g)/\ae [] w W) ⟨σ,σ,β⟩ ?_;rintro W ⟨q0,q1,hu⟩)
   have c0:=hu.was c0';have HU:=χ hu;clear hu c0'
   go_quiet (fail)
   go_wp2;go_ret;exact⟨cZ σ,by have:=HU.out;exact β⟩
 ·have b1b:decide (x≥0)=false:=by simpa using b1
  rw[Ξ (show ¬0<=x from b1)];clear h
  go_enter func73,ntmps73
  (go_upto_region 1 with(fail);refine bG (λW=>W.cell? ⟨w.heap.size,0,none⟩=some (.int .i64 x)/\W.cell? ⟨w.heap.size,1,none⟩=some (.int .u32 g)/\ae [] w W) ⟨σ,σ,β⟩ ?_;rintro W ⟨q0,q1,hu⟩)
  have HU:=χ hu;clear hu
  go_quiet (fail)
  go_wp2;go_ret;exact⟨cZ σ,by have:=HU.out;exact β⟩
end
theorem Hm{w:World}{base g n cap k:Nat}{e:TypeId}{xs:List Value}(h:w.ownsRow base e 1 (.slice (some ⟨g,0,none⟩) n cap) n xs)(hk:k<=n):w.ownsRow base e 1 (.slice (some ⟨g,0,none⟩) k cap) k (xs.take k):=by
 rcases h.2 with⟨h1,_⟩|⟨g',cap',cur,h1,hb,hg,hn,hc,hs,ht⟩
 ·cases h1
 ·cases h1;have h0:=h.1;exact⟨by rw[ϑ];omega,Β ⟨g,cap,cur,rfl,hb,hg,ω,hc,hs,by rw[←ht,List.take_take];congr 1;omega⟩⟩
theorem VG{R R':AR}{x:Nat}(h:R.Ok)(hp:sD R=some (x,R')):R'.Ok:=by
 obtain⟨h1,h2,h3,h4,h5,h6,h7,h8,h9,h10⟩:=yY h hp;have eg:∀z,R'.g z=R.g z:=λz=>by unfold AR.g;rw[h4]
 have ev:∀z,R'.v z=R.v z:=λz=>by unfold AR.v;rw[h4]
 refine⟨by rw[h4];exact h.n,by rw[h4];exact h6,by rw[h5];exact h.QQ,λz hz=>?_,h10,λz hz=>?_,λz hz=>by rw[ev] at hz;rw[eg];exact h.lv z hz,λz=>by rw[eg,h5];exact h.gm z⟩
 ·obtain⟨a1,_⟩:=h9 z hz;obtain⟨b1,b2,b3⟩:=h.wt z a1;rw[ev,eg,h5];exact⟨ω,b2,b3⟩
 ·rw[ev,eg];exact h.fresh z ω
section
variable{w:World}{pa ga:Nat}{v:Value}{R:AR}{F:List Nat}
theorem Tg(h:oW w pa F R)(x:Nat)(hx:R.v x=true) :
  Calls prog 72 #[.pointer (some ⟨pa,0,none⟩),.int .i64 (x:Int)] w λe w'=>e=.returned (.tuple #[.agg #[.int .i64 (x:Int),.int .u32 (R.g x:Int)],.bool true])/\ae [] w w':=by
 obtain⟨ga,v,rfl,h⟩:=h;have hl:=AR.Pk hx;have c0:=h.c0;have d0:=h.s0 hl;have d1:=h.s1 hl;rw[hx] at d1;have CE:(x:Int)<(R.sl.length:Int):=ω;have hx2:¬R.sl.length<=x:=ω;generalize R.g x=gx at *;generalize R.sl.length=n at *;have l1:=Ε w _ c0;have l2:=Ε w _ d0;clear h hx
 go_enter func72,ntmps72
 go_wp2;exact bodyPost_ret (v:=.tuple #[.agg #[.int .i64 (x:Int),.int .u32 (gx:Int)],.bool true]) (by simp[results,results72,go_sem]) rfl ⟨rfl,β⟩
theorem Iz(h:ui w pa ga v R)(hp:sD R=none) :
  Calls prog 71 #[.pointer (some ⟨pa,0,none⟩)] w λe w'=>e=.returned (.tuple #[.int .i64 0,.bool false])/\ae [] w w':=by
 have hw:R.wait=[]/\R.next=R.sl.length:=by
  unfold sD at hp;cases hl:R.wait.getLast? with
  |some y=>rw[hl] at hp;cases hp
  |none=>
   rw[hl] at hp;dsimp only at hp
   split at hp
   ·rename_i e;exact⟨List.getLast?_eq_none_iff.1 hl,e⟩
   ·cases hp
 have c0:=h.c0;have c1:=h.c1;have c2:=h.c2;have hv:=h.wait;rw[hw.1] at hv;obtain⟨a,c,rfl,hc⟩:=aV hv;rw[hw.2] at c2;generalize R.sl.length=n at *;simp only[List.length_nil] at c1;clear h hv hw hp
 go_enter func71,ntmps71
 go_wp2
 go_quiet (fail)
 go_wp2;go_ret2;exact⟨rfl,β⟩
theorem Ql{l:List Nat}{j x:Nat}(h:l[j]?=some x):(bZ l).getD j 0=(x:Int):=by unfold bZ;simp[φ,h]
theorem Be(l:List Int)(k:Nat):(bz l).take k=bz (l.take k):=by unfold bz;rw[List.map_take]
theorem Bv(l:List Nat)(k:Nat):(bZ l).take k=bZ (l.take k):=by unfold bZ;rw[List.map_take]
theorem ui.setv(h:ui w pa ga v R){R':AR}{v':Value}(ok:R'.Ok)(e1:R'.sl=R.sl)(e2:R'.next=R.next)(e3:R'.most=R.most)(hw:w.ownsRow 0 3 1 v' R'.wait.length (bz (bZ R'.wait)))(hb:∀k,v'.ownBlock=some k->k≠pa/\k≠ga) :
  ui (w.setCell ⟨pa,1,none⟩ v') pa ga v' R':=by
 have hu:ae [pa] w (w.setCell ⟨pa,1,none⟩ v'):=(ae.refl _ _).setCell (Α σ) _;refine⟨(h.head.set 1 v').ext (λj hj=>?_),?_,ak hw hu (λk hk e=>(hb k hk).1 (by simpa using e)),h.ne,hb,ok⟩
 ·rcases(ω:j=0\/j=1\/j=2\/j=3\/j=4) with rfl|rfl|rfl|rfl|rfl<;>simp[arC,AR.cnt,e1,e2,e3]
 ·rw[e1];exact(h.row.upd hu (by simp;exact λe=>h.ne e.symm)).ext (λj hj=>by unfold OD AR.g AR.v;rw[e1])
theorem ui.setn(h:ui w pa ga v R){R':AR}(ok:R'.Ok)(e1:R'.sl=R.sl)(e2:R'.wait=R.wait)(e3:R'.most=R.most):ui (w.setCell ⟨pa,2,none⟩ (.int .i64 (R'.next:Int))) pa ga v R':=by
 have hu:ae [pa] w (w.setCell ⟨pa,2,none⟩ (.int .i64 (R'.next:Int))):=(ae.refl _ _).setCell (Α σ) _;refine⟨(h.head.set 2 _).ext (λj hj=>?_),?_,by rw[e2];exact ak h.wait hu (λk hk e=>(h.nw k hk).1 (by simpa using e)),h.ne,h.nw,ok⟩
 ·rcases(ω:j=0\/j=1\/j=2\/j=3\/j=4) with rfl|rfl|rfl|rfl|rfl<;>simp[arC,AR.cnt,e1,e3]
 ·rw[e1];exact(h.row.upd hu (by simp;exact λe=>h.ne e.symm)).ext (λj hj=>by unfold OD AR.g AR.v;rw[e1])
theorem JM(h:ui w pa ga v R){x:Nat}{R':AR}(hp:sD R=some (x,R')) :
  Calls prog 71 #[.pointer (some ⟨pa,0,none⟩)] w λe w'=>e=.returned (.tuple #[.int .i64 (x:Int),.bool true])/\∃v',v'.ownBlock=v.ownBlock/\ui w' pa ga v' R'/\ae [pa] w w':=by
 have ok':=VG h.ok hp;have hwl:=AR.Nb h.ok;have hn:=h.ok.n;have hnx:=h.ok.nx;unfold sD at hp;cases hl:R.wait.getLast? with
 |some y=>
  rw[hl] at hp;simp only[ϗ,Prod.mk.injEq] at hp;obtain⟨rfl,rfl⟩:=hp;have hne:R.wait≠[]:=λe=>by rw[e] at hl;cases hl
  have hpos:0<R.wait.length:=List.length_pos_iff.2 hne;have c1:=h.c1;have f1:=h.head.free 1;obtain⟨gw,cap,rfl,_,hgl,hnc,hcm,hcell,_⟩:=fQ h.wait hpos;have hat:R.wait[R.wait.length-1]?=some y:=by rw[←List.getLast?_eq_getElem?];exact hl
  have d0:=hcell (R.wait.length-1) (.int .i64 (y:Int)) (by rw[lY (by rw[OT];omega),Ql hat]);have hdl:R.wait.dropLast=R.wait.take (R.wait.length-1):=List.dropLast_eq_take;have hw2:=Hm h.wait (k:=R.wait.length-1) ω;rw[Be,Bv,←hdl] at hw2;have hll:R.wait.dropLast.length=R.wait.length-1:=σ;have HF:=χ (show ui (w.setCell ⟨pa,1,none⟩ (.slice (some ⟨gw,0,none⟩) (R.wait.length-1) cap)) pa ga (.slice (some ⟨gw,0,none⟩) (R.wait.length-1) cap) { R with wait:=R.wait.dropLast } from h.setv ok' rfl rfl rfl (by show w.ownsRow 0 _ 1 _ R.wait.dropLast.length _;rw[hll];exact hw2) h.nw)
  clear h ok' hcell hat hdl hw2 hll hl hne;generalize hwn:R.wait.length=wn at *;obtain⟨m,rfl⟩:∃m,wn=m+1:=⟨wn-1,ω⟩;simp only[Nat.add_sub_cancel] at d0 HF;clear hwn;have hmi:((m+1:Nat):Int)-1=(m:Int):=ω;have hwr:IntKind.i64.wrap (((m+1:Nat):Int)-1)=(m:Int):=by rw[hmi];exact Μ _ ω
  have hcapI:(m:Int)<=(cap:Int):=ω
  go_enter func71,ntmps71
  go_wp2;go_ret2;exact⟨rfl,.slice (some ⟨gw,0,none⟩) m cap,rfl,HF.out,β⟩
 |none=>
  rw[hl] at hp;have hw:R.wait=[]:=List.getLast?_eq_none_iff.1 hl;dsimp only at hp
  split at hp
  ·cases hp
  ·rename_i hne
   simp only[ϗ,Prod.mk.injEq] at hp;obtain⟨rfl,rfl⟩:=hp;have c0:=h.c0;have c1:=h.c1;have c2:=h.c2;have f2:=h.head.free 2;have hv:=h.wait;rw[hw] at hv;obtain⟨a,c,rfl,hc⟩:=aV hv;simp only[List.length_nil] at c1;have hnn:((R.next:Int) == (R.sl.length:Int))=false:=ζ;have hwr:IntKind.i64.wrap ((R.next:Int)+1)=(R.next:Int)+1:=Μ _ ω;have hwr2:IntKind.i64.wrap ((R.next:Int)+1-1)=(R.next:Int):=by rw[show(R.next:Int)+1-1=(R.next:Int) by omega];exact Μ _ ω
   have HF:=χ (λW (hW:ae [] w W)=>(h.upd hW σ).setn (R':={ R with next:=R.next+1 }) ok' rfl rfl rfl);have HC:=χ (show((({ R with next:=R.next+1 }:AR).next:Nat):Int)=(R.next:Int)+1 from by show((R.next+1:Nat):Int)=_;omega);clear h ok' hv hw hl;generalize hq:({ R with next:=R.next+1 }:AR)=R2 at *;clear hq;generalize R.next=nx at *;generalize R.sl.length=n at *
   go_enter func71,ntmps71
   go_wp2
   go_quiet (fail)
   go_wp2;go_ret2;refine⟨rfl,_,rfl,?_,β⟩;have:=HF.out _ (((ae.refl [] w).drewN nq));rw[HC.out] at this;exact this
theorem IQ(h:oW w pa F R)(hp:kZ R=none) :
  Calls prog 40 #[.pointer (some ⟨pa,0,none⟩)] w λe w'=>e=.returned (.tuple #[.agg #[.int .i64 0,.int .u32 0],.int .i64 32])/\ae [] w w':=by
 obtain⟨ga,v,rfl,h⟩:=h;have hp':sD R=none:=by unfold kZ at hp;cases hq:sD R with|none=>rfl|some q=>rw[hq] at hp;cases hp
 have k:=λW (hW:ae [] w W)=>Iz (h.upd hW σ) hp';clear h
 go_enter func40,ntmps40
 go_wp2_with (first
  |((go_at_call 71;(with_reducible refine(k _ β).mono ?_));rintro e w1 ⟨rfl,hu1⟩;(have q0:w1.cell? ⟨w.heap.size,0,none⟩=some (.int .i64 0):=hu1.was γ);(have q1:w1.cell? ⟨w.heap.size,1,none⟩=some (.int .u32 0):=hu1.was γ);(have f0:w1.frozen? ⟨w.heap.size,0,none⟩=false:=hu1.aM (v:=.int .i64 0) γ σ γ);(have f1:w1.frozen? ⟨w.heap.size,1,none⟩=false:=hu1.aM (v:=.int .u32 0) γ σ γ);(have hu1':ae [] w w1:=ae.trans β hu1))
  | fail)
 exact bodyPost_ret (v:=.tuple #[.agg #[.int .i64 0,.int .u32 0],.int .i64 32]) (by simp[results,results40,go_sem,q0,q1]) rfl ⟨rfl,β⟩
theorem Xj{R:AR}{x:Nat}(hx:x<R.sl.length)(p:Nat×Bool)(j:Nat):OD (R.put x p) j=if j=x*2+1 then .bool p.2 else if j=x*2 then .int .u32 (p.1:Int) else OD R j:=by
 unfold OD;rw[AR.zo,AR.Bw]
 by_cases e3:j % 2=0
 ·rw[Γ (show ¬j=x*2+1 by omega)];simp only[Δ e3]
  by_cases e2:j=x*2
  ·rw[Δ e2,Δ ⟨ω,hx⟩]
  ·rw[Γ e2,Γ ω]
 ·simp only[Γ e3];rw[Γ (show ¬j=x*2 by omega)]
  by_cases e2:j=x*2+1
  ·rw[Δ e2,Δ ⟨ω,hx⟩]
  ·rw[Γ e2,Γ ω]
theorem ui.put(h:ui w pa ga v R){x:Nat}(hx:x<R.sl.length)(p:Nat×Bool)(ok:(R.put x p).Ok){w':World}(hrow:aS w' ga 152 (R.sl.length*2) (λi=>if i=x*2+1 then .bool p.2 else if i=x*2 then .int .u32 (p.1:Int) else OD R i))(hu:ae [ga] w w') :
  ui (w'.setCell ⟨pa,3,none⟩ (.int .i64 ((R.put x p).cnt:Int))) pa ga v (R.put x p):=by
 have hu2:ae [pa,ga] w (w'.setCell ⟨pa,3,none⟩ (.int .i64 ((R.put x p).cnt:Int))):=(hu.mono σ).setCell (Α σ) _;refine⟨((h.head.upd hu (by simpa using h.ne)).set 3 _).ext (λj hj=>?_),?_,ak h.wait hu2 (λk hk e=>?_),h.ne,h.nw,ok⟩
 ·rcases(ω:j=0\/j=1\/j=2\/j=3\/j=4) with rfl|rfl|rfl|rfl|rfl<;>simp[arC,AR.jP]
  all_goals rfl
 ·rw[AR.jP];exact(hrow.far _ _ (by simpa using h.ne.symm)).ext (λj hj=>(Xj hx p j).symm)
 ·have:=h.nw k hk;simp at e;omega
theorem Ha(h:oW w pa F R){x:Nat}{R':AR}(hp:kZ R=some (x,R')) :
  Calls prog 40 #[.pointer (some ⟨pa,0,none⟩)] w λe w'=>e=.returned (.tuple #[.agg #[.int .i64 (x:Int),.int .u32 ((R.g x:Int)+1)],.int .i64 0])/\Goes F w w' (λF'=>oW w' pa F' R'):=by
 have YW:=uO h.ok hp;obtain⟨ga,v,rfl,h⟩:=h;unfold kZ at hp;cases hq:sD R with
 |none=>rw[hq] at hp;cases hp
 |some q=>
  obtain⟨y,R1⟩:=q;rw[hq] at hp;simp only[ϝ,ϗ,Prod.mk.injEq] at hp;obtain⟨rfl,rfl⟩:=hp;obtain⟨hTok,hx,hv0,hgm,hsl,hmst,hcnt⟩:=YW;obtain⟨_,_,_,h4,_⟩:=yY h.ok hq;have hmo:=h.ok.QQ;have hlp:=h.head.lt;have hlg:=h.row.lt;have hvl:=λk hk=>(h.wait.lt k hk).2;have k:=λW (hW:ae [] w W)=>JM (h.upd hW σ) hq;have hx1:y<R1.sl.length:=by rw[h4];exact hx
  have hg1:R1.g y=R.g y:=by unfold AR.g;rw[h4]
  have hcn:R1.cnt<=65536:=by
   have h1:=MQ R1.sl;have h2:=h.ok.n;unfold AR.cnt;rw[h4] at h1 ⊢;omega
  have hv1:R1.v y=false:=by unfold AR.v at hv0 ⊢;rw[h4];exact hv0
  have hc2:(R1.put y (R.g y+1,true)).cnt=R1.cnt+1:=by
   have:=AR.zS (R:=R1) y (R.g y+1,true) hx1;rw[hv1] at this;simpa using this
  have hwg:IntKind.u32.wrap ((R.g y:Int)+1)=(R.g y:Int)+1:=IntWalk.u32_in _ ω;have hwc:IntKind.i64.wrap ((R1.cnt:Int)+1)=(R1.cnt:Int)+1:=Μ _ ω;have hne:=h.ne;have hnw:=h.nw;have HT:=χ (ψ hTok hc2);clear h hq hTok hc2 hcnt hsl hmst hv0 h4
  go_enter func40,ntmps40
  go_upto_region 4 with (first
   |((go_at_call 71;(with_reducible refine(k _ β).mono ?_));rintro e w1 ⟨rfl,v1,I6,hM,hu1⟩;(have q0:w1.cell? ⟨w.heap.size,0,none⟩=some (.int .i64 0):=hu1.kept γ ζ);(have q1:w1.cell? ⟨w.heap.size,1,none⟩=some (.int .u32 0):=hu1.kept γ ζ);(have f0:w1.frozen? ⟨w.heap.size,0,none⟩=false:=hu1.aM (v:=.int .i64 0) γ ζ γ);(have f1:w1.frozen? ⟨w.heap.size,1,none⟩=false:=hu1.aM (v:=.int .u32 0) γ ζ γ))
   | fail)
  have b0:=hM.c0;have b1:=hM.s0 hx1;have b2:=hM.s1 hx1;have b3:=hM.c3;have g1:=hM.row.free (y*2);have g2:=hM.row.free (y*2+1);have g3:=hM.head.free 3;have hyI:(y:Int)<(R1.sl.length:Int):=ω;rw[hg1] at b1;have hnr1:¬ga=w.heap.size:=ω;have hnr2:¬pa=w.heap.size:=ω;have hnr3:¬w.heap.size=ga:=ω;have hnr4:¬w.heap.size=pa:=ω;have Zd:¬ga=pa:=λe=>hne e.symm;have hrow:=(hM.row.set (y*2) (.int .u32 ((R.g y:Int)+1))).set (y*2+1) (.bool true);have HM:=χ (ψ hM (ψ hrow (ψ hu1 (ψ I6 (ψ hnw hvl)))));clear hM hrow hu1 k I6 hnw hvl;generalize hgy:R.g y=gy at *;generalize R1.cnt=cn at *
  generalize hnn:R1.sl.length=n at *;have HG:=χ (ψ hgy hnn);clear hgy hnn;go_wp2;obtain⟨hM,hrow,hu1,I6,hnw,hvl⟩:=HM.out;have e1:(((gy+1:Nat)):Int)=(gy:Int)+1:=ω;have hU:ae [ga] w1 ((w1.setCell ⟨ga,y*2,none⟩ (.int .u32 ((gy:Int)+1))).setCell ⟨ga,y*2+1,none⟩ (.bool true)):=((ae.refl _ _).setCell (Α σ) _).setCell (Α σ) _;have hok:=HT.out.1;have hct:=HT.out.2
  have hP:=hM.put (by rw [HG.out.2];exact hx1) (gy+1,true) hok (w':=(w1.setCell ⟨ga,y*2,none⟩ (.int .u32 ((gy:Int)+1))).setCell ⟨ga,y*2+1,none⟩ (.bool true)) (by
   rw[HG.out.2]
   exact hrow.ext (λj hj=>by dsimp only;rw [e1])) hU
  rw[hct,show((cn+1:Nat):Int)=(cn:Int)+1 by omega] at hP;have hF:∀x,x∈pa::ga::v1.ownBlock.toList->x∈pa::ga::v.ownBlock.toList:=λx hx=>by rw[I6] at hx;exact hx
  have hU1:ae (pa::ga::v.ownBlock.toList) w w1:=ae.trans ((ae.refl _ _).alloc _) (hu1.mono σ);refine bodyPost_ret (v:=.tuple #[.agg #[.int .i64 (y:Int),.int .u32 ((gy:Int)+1)],.int .i64 0]) (by simp[results,results40,go_sem,q0,q1,hnr1,hnr2,hnr3,hnr4]) rfl ⟨by rw[HG.out.1],pa::ga::v1.ownBlock.toList,⟨ga,v1,rfl,?_⟩,?_,λx hx=>Α (hF x hx)⟩
  ·rw[HG.out.1];refine hP.upd (S:=[w.heap.size]) (((ae.refl _ _).setCell (Α σ) _).setCell (Α σ) _) (λx hx hm=>?_);simp at hx;subst hx;have hm2:=hF _ hm;simp at hm2;rcases hm2 with e|e|e
   ·exact hnr4 e
   ·exact hnr3 e
   ·have:=hvl _ e;omega
  ·exact((((hU1.setCell (Α σ) _).setCell (Α σ) _).setCell (Α σ) _).setCell (Β (Θ _)) _).setCell (Β (Θ _)) _
end
theorem ZT{R:AR}{x:Nat}(h:R.Ok)(hv:R.v x=true):(R.put x (R.g x,false)).Ok:=by
 have k:=(EH h hv).1;refine⟨k.n,k.nx,k.QQ,λz hz=>k.wt z ?_,h.nd,k.fresh,k.lv,k.gm⟩
 show z∈(if R.g x<R.most then R.wait++[x] else R.wait)
 split
 ·exact τ.2 (Α hz)
 ·exact hz
section
variable{w:World}{pa ga:Nat}{v:Value}{R:AR}{F:List Nat}
theorem ui.acN{w2:World}(hh:aS w2 pa 120 5 (arC ga v R))(hr:aS w2 ga 152 (R.sl.length*2) (OD R))(hne:pa≠ga){R':AR}{v':Value}(ok:R'.Ok)(e1:R'.sl=R.sl)(e2:R'.next=R.next)(e3:R'.most=R.most)(hw:w2.ownsRow 0 3 1 v' R'.wait.length (bz (bZ R'.wait)))(hb:∀k,v'.ownBlock=some k->k≠pa/\k≠ga) :
  ui (w2.setCell ⟨pa,1,none⟩ v') pa ga v' R':=by
 have hu:ae [pa] w2 (w2.setCell ⟨pa,1,none⟩ v'):=(ae.refl _ _).setCell (Α σ) _;refine⟨(hh.set 1 v').ext (λj hj=>?_),?_,ak hw hu (λk hk e=>(hb k hk).1 (by simpa using e)),hne,hb,ok⟩
 ·rcases(ω:j=0\/j=1\/j=2\/j=3\/j=4) with rfl|rfl|rfl|rfl|rfl<;>simp[arC,AR.cnt,e1,e2,e3]
 ·rw[e1];exact(hr.upd hu (by simp;exact λe=>hne e.symm)).ext (λj hj=>by unfold OD AR.g AR.v;rw[e1])
theorem Bo(h:oW w pa F R)(x:Nat)(hv:R.v x=true) :
    Calls prog 43 #[.pointer (some ⟨pa,0,none⟩),.agg #[.int .i64 (x:Int),.int .u32 (R.g x:Int)]] w λe w'=>e=.returned (.int .i64 0)/\Goes F w w' (λF'=>oW w' pa F' (gY R x)):=by
  have hx:=AR.Pk hv;have hok:=h.ok;have hgm:=hok.gm x;have hmo:=hok.QQ;have kl:=λW (hW:ae [] w W)=>oI (h.upd hW σ) (x:Int) (R.g x:Int) ω;have hlv:iO R (x:Int) (R.g x:Int)=true:=by
    unfold iO;rw[show((x:Nat):Int).toNat=x by omega,hv,Ν (ω:(0:Int)<=x),Ν (ω:(x:Int)<R.sl.length)];simp
  rw[hlv] at kl;obtain⟨ga,v,rfl,h⟩:=h;obtain⟨av,cv,rfl,hcv⟩:=aV h.wait;have Dz:=EH hok hv;have hoff:=ZT hok hv;have hcn:R.cnt<=65536:=by have h1:=MQ R.sl;have h2:=hok.n;unfold AR.cnt;omega
  have hc1:(R.put x (R.g x,false)).cnt+1=R.cnt:=by
    have:=AR.zS (R:=R) x (R.g x,false) hx;rw[hv] at this;simpa using this
  have hwc:IntKind.i64.wrap ((R.cnt:Int)-1)=(R.cnt:Int)-1:=Μ _ ω;have hlg:=h.row.lt;have hne:=h.ne;have hwl:=AR.Nb hok;have hnn:=hok.n;have hnx:=hok.nx;have H:=χ (ψ h (ψ hoff (ψ Dz hc1)));have hvl:=λk hk=>(h.wait.lt k hk).2;have HVL:=χ (ψ hvl h.nw);have b0':=h.c0;have b3':=h.c3;have b1':=h.c1;have s1':=h.s1 hx;have g2':=h.row.free (x*2+1);have g3':=h.head.free 3;have CE:(x:Int)<(R.sl.length:Int):=ω;clear h hok Dz hoff hlv hvl hv;have Zd:¬ga=pa:=λe=>hne e.symm
  go_enter func43,ntmps43
  go_wp2_with (first
    |((go_at_call 73;(with_reducible refine(kl _ β).mono ?_));rintro e w1 ⟨rfl,hu1⟩;(have q0:w1.cell? ⟨w.heap.size,0,none⟩=some (.int .i64 (x:Int)):=hu1.was γ);(have q1:w1.cell? ⟨w.heap.size,1,none⟩=some (.int .u32 (R.g x:Int)):=hu1.was γ);(have hu:ae [] w w1:=ae.trans β hu1);(have b0:=hu.was b0');(have b3:=hu.was b3');(have s1:=hu.was s1');(have g2:=hu.aM s1' σ g2');(have g3:=hu.aM b3' σ g3'))
    | fail)
  have HU:=χ hu;have hszA:=hu1.size;rw[Κ] at hszA;clear hu hu1 kl b0' b1' b3' s1' g2' g3'
  go_region
  go_upto_region 5 with(fail)
  obtain⟨hM,hoff,Dz,hc1⟩:=H.out;have hM1:=hM.upd HU.out σ
  have hP:=λW (hW:ae [] w1 W)=>(hM1.upd hW σ).put hx (R.g x,false) hoff (w':=W.setCell ⟨ga,x*2+1,none⟩ (.bool false)) (((hM1.upd hW σ).row.set (x*2+1) (.bool false)).ext (λj hj=>by
    dsimp only
    by_cases e1:j=x*2+1
    · rw[Δ e1,Δ e1]
    · rw[Γ e1,Γ e1]
      by_cases e2:j=x*2
      · rw[Δ e2,e2];unfold OD;rw[Δ ω,show x*2 / 2=x by omega]
      · rw [Γ e2])) ((ae.refl _ _).setCell (Α σ) _)
  rw[show(((R.put x (R.g x,false)).cnt:Nat):Int)=(R.cnt:Int)-1 by omega] at hP;refine bG (λW=>W.cell? ⟨w.heap.size,0,none⟩=some (.int .i64 (x:Int))/\W.cell? ⟨w.heap.size,1,none⟩=some (.int .u32 (R.g x:Int))/\ui W pa ga (.slice av R.wait.length cv) (R.put x (R.g x,false))/\ae [pa,ga] w W) ⟨γ,γ,(hP w1 (ae.refl _ _)).upd (S:=[]) ((ae.refl _ _).drew) σ,?_⟩ ?_
  · have:=HU.out.mono (T:=[pa,ga]) σ
    (repeat(first|assumption|exact ae.refl _ _|refine ae.alloc ?_ _|refine ae.drew ?_|refine ae.drewN ?_ _|refine ae.setCell ?_ ?_ _|focus(left;simp;done)|focus(right;simp;done)|focus(right;simp;omega)))
  rintro W ⟨q2,q3,jq,Vt⟩;clear hM1 hP hM b0 b3 s1 g2 g3 q0 q1;have c1:=jq.c1;have c4:=jq.c4;have f1:=jq.head.free 1;have hw:=jq.wait;have HMW:=χ (ψ jq (ψ Dz Vt));clear jq Vt Dz hc1 hoff;rw[show(R.put x (R.g x,false)).most=R.most from rfl] at c4;rw[show(R.put x (R.g x,false)).wait=R.wait from rfl] at hw
  by_cases hlt:R.g x<R.most
  · have hltb:decide ((R.g x:Int)<(R.most:Int))=true:=by simp;exact hlt
    go_wp2
    go_quiet (fail)
    go_wp2;refine bG (λW6=>ae [] W W6) β ?_;intro W6 iX;have p1:=iX.was c1;have p2:=iX.was q2;have pf1:=iX.aM c1 σ f1;have VC:=ak (S:=[]) hw iX σ;have s0:ae [] W6 (W6.drew.alloc (.cells #[.int .i64 (x:Int)] 3)):=((ae.refl _ _).drew).alloc _;have hpa6:pa<W6.heap.size:=Ε W6 _ p1;have hrs6:w.heap.size<W6.heap.size:=Ε W6 _ p2;clear c1 c4 f1 q2 q3 hltb hw
    go_region_law
      (first
        | (refine ny rfl _ _ 77 rfl 0 3 (.int .i64 0) 1 8 underlying77 gI rfl δ (.slice av R.wait.length cv) R.wait.length (bz (bZ R.wait)) rfl (VC.drew.alloc _) W6.heap.size [.int .i64 (x:Int)] rfl rfl (λj u hj=>oK W6 [.int .i64 (x:Int)] 3 j u hj) (by simp [Value.oneCell']) μ ω σ ?_
           intro v2 w2 ho2 hu2 hv2;have hS2:ae (Value.slice av R.wait.length cv).ownBlock.toList W6 w2:=(s0.mono σ).trans hu2;have Z4:pa∉(Value.slice av R.wait.length cv).ownBlock.toList:=λe=>by have:=HVL.out.2 pa (by simpa using e);omega
           have z1:=hS2.kept p1 Z4;have zf1:=hS2.aM p1 Z4 pf1
           obtain ⟨a2,cap2,rfl,hcap2⟩:=aV ho2))
    all_goals
      go_wp2;go_ret;obtain⟨jq,Dz,Vt⟩:=HMW.out;have vE:=jq.upd iX σ;have hgw:ga∉(Value.slice av R.wait.length cv).ownBlock.toList:=λe=>by have:=HVL.out.2 ga (by simpa using e);omega
      have eR:gY R x={ R.put x (R.g x,false) with wait:=R.wait++[x] }:=by unfold gY;rw[Δ hlt]
      have I6:∀k,(Value.slice a2 (R.wait.length+1) cap2).ownBlock=some k->(Value.slice av R.wait.length cv).ownBlock=some k\/W6.heap.size<=k:=λk hk=>by
        rcases hv2 with h|h
        · rw[h] at hk;exact Α hk
        · rw[h] at hk;simp at hk;exact Β ω
      have hfin:=ui.acN (vE.head.upd hS2 Z4) (vE.row.upd hS2 hgw) hne (R':=gY R x) (v':=.slice a2 (R.wait.length+1) cap2) Dz.1 (by rw [eR]) (by rw [eR]) (by rw [eR]) (by
        have e2:(gY R x).wait=R.wait++[x]:=by rw[eR]
        rw[e2,υ,show bZ (R.wait++[x])=bZ R.wait++[(x:Int)] from by unfold bZ;simp,dO];exact ho2) (λk hk=>by
        rcases I6 k hk with h|h
        · exact HVL.out.2 k h
        · omega)
      refine⟨rfl,pa::ga::(Value.slice a2 (R.wait.length+1) cap2).ownBlock.toList,⟨ga,_,rfl,hfin⟩,?_,λk hk=>?_⟩
      · have h1:ae (pa::ga::(Value.slice av R.wait.length cv).ownBlock.toList) w W6:=(Vt.mono (λz hz=>by simp at hz ⊢;omega)).trans (iX.mono σ)
        exact(h1.trans (hS2.mono (λz hz=>by simp[hz]))).setCell (Α σ) _
      · simp only[ρ] at hk ⊢
        rcases hk with h|h|h
        · exact Α (Α h)
        · exact Α (Β (Α h))
        · rcases I6 k (by simpa using h) with h'|h'
          · exact Α (Β (Β (by simpa using h')))
          · exact Β ω
  · have hltb:decide ((R.g x:Int)<(R.most:Int))=false:=ζ
    go_wp2
    go_quiet (fail)
    go_wp2;go_ret;obtain⟨jq,Dz,Vt⟩:=HMW.out;have eR:gY R x=R.put x (R.g x,false):=by unfold gY;rw[Γ hlt];rfl
    rw[eR];refine⟨rfl,_,⟨ga,_,rfl,jq.upd (S:=[]) β σ⟩,?_,λk hk=>Α hk⟩;have h1:ae (pa::ga::(Value.slice av R.wait.length cv).ownBlock.toList) w W:=Vt.mono (λz hz=>by simp at hz ⊢;omega);exact h1.trans β
end
def pqC(K:NestQ)(pa pn:Nat)(kd d:Int)(q:Nat)(j:Nat):Value:=[Value.int .i64 kd,.int .i64 d,.pointer (some ⟨pa,0,none⟩),.iface K.ty (.pointer (some ⟨pn,0,none⟩)),.int .u64 (q:Int)].getD j undef
structure Cy(K:NestQ)(w:World)(p pa pn:Nat)(Fa Fn:List Nat)(kd d:Int)(R:AR)(A:NS)(q:Nat):Prop where
 head:aS w p 89 5 (pqC K pa pn kd d q)
 ar:oW w pa Fa R
 nest:K.at_ w pn Fn A
 s1:p∉Fa
 s2:p∉Fn
 s3:∀x,x∈Fa->x∉Fn
 len:R.sl.length=A.cs.length
 link:∀x:Nat,R.v x=bY A (x:Int)
def aP(K:NestQ)(w:World)(p:Nat)(F:List Nat)(kd d:Int)(R:AR)(A:NS)(q:Nat):Prop:=∃pa pn Fa Fn,F=p::(Fa++Fn)/\Cy K w p pa pn Fa Fn kd d R A q
section
variable{K:NestQ}{w:World}{p pa pn:Nat}{Fa Fn F:List Nat}{kd d:Int}{R:AR}{A:NS}{q:Nat}
theorem Cy.c2(h:Cy K w p pa pn Fa Fn kd d R A q):w.cell? ⟨p,2,none⟩=some (.pointer (some ⟨pa,0,none⟩)):=h.head.cellAt 2 ω rfl
theorem Cy.c3(h:Cy K w p pa pn Fa Fn kd d R A q):w.cell? ⟨p,3,none⟩=some (.iface K.ty (.pointer (some ⟨pn,0,none⟩))):=h.head.cellAt 3 ω rfl
theorem Cy.c4(h:Cy K w p pa pn Fa Fn kd d R A q):w.cell? ⟨p,4,none⟩=some (.int .u64 (q:Int)):=h.head.cellAt 4 ω rfl
theorem Cy.upd{w':World}{S:List Nat}(h:Cy K w p pa pn Fa Fn kd d R A q)(hu:ae S w w')(hS:∀x,x∈S->x∉p::(Fa++Fn)):Cy K w' p pa pn Fa Fn kd d R A q:=
 ⟨h.head.upd hu (λe=>hS _ e σ),h.ar.upd hu (λx hx hm=>hS x hx (by simp[hm])),K.upd h.nest hu (λx hx hm=>hS x hx (by simp[hm])),h.s1,h.s2,h.s3,h.len,h.link⟩
theorem aP.upd{w':World}{S:List Nat}(h:aP K w p F kd d R A q)(hu:ae S w w')(hS:∀x,x∈S->x∉F):aP K w' p F kd d R A q:=by
 obtain⟨pa,pn,Fa,Fn,rfl,h⟩:=h;exact⟨pa,pn,Fa,Fn,rfl,h.upd hu hS⟩
theorem aP.ag{w':World}(h:aP K w p F kd d R A q)(hu:ae [] w w'):aP K w' p F kd d R A q:=h.upd hu σ
theorem Cy.lt(h:Cy K w p pa pn Fa Fn kd d R A q):∀x,x∈p::(Fa++Fn)->x<w.heap.size:=λx hx=>by
 simp only[ρ,τ] at hx;rcases hx with rfl|hx|hx
 ·exact h.head.lt
 ·exact h.ar.lt x hx
 ·exact K.lt h.nest x hx
theorem aP.lt(h:aP K w p F kd d R A q):∀x,x∈F->x<w.heap.size:=by
 obtain⟨pa,pn,Fa,Fn,rfl,h⟩:=h;exact h.lt
theorem aP.ok(h:aP K w p F kd d R A q):A.Ok/\R.Ok/\R.sl.length=A.cs.length/\∀x:Nat,R.v x=bY A (x:Int):=by
 obtain⟨pa,pn,Fa,Fn,rfl,h⟩:=h;exact⟨K.ok h.nest,h.ar.ok,h.len,h.link⟩
theorem Cy.NN(h:Cy K w p pa pn Fa Fn kd d R A q){w':World}{vX:List Nat}{A':NS}(hn:K.at_ w' pn vX A')(hu:ae Fn w w')(hf:∀x,x∈vX->x∈Fn\/w.heap.size<=x)(hl:A'.cs.length=A.cs.length){R':AR}(ha:oW w' pa Fa R')(hl2:R'.sl.length=R.sl.length)
  (hk:∀x:Nat,R'.v x=bY A' (x:Int)):Cy K w' p pa pn Fa vX kd d R' A' q:=
 ⟨h.head.upd hu h.s2,ha,hn,h.s1,λe=>by rcases hf _ e with e|e;exact h.s2 e;have:=h.head.lt;omega,λx hx e=>by rcases hf _ e with e|e;exact h.s3 x hx e;have:=h.ar.lt x hx;omega,by rw[hl2,hl];exact h.len,hk⟩
theorem RY(A:NS)(x:Int):bY (aU A) x=bY A x:=by unfold aU;split<;>rfl
theorem O5(A:NS):(aU A).cs.length=A.cs.length:=by unfold aU;split<;>rfl
theorem wZ(h:aP K w p F kd d R A q) :
  Calls prog 18 #[.pointer (some ⟨p,0,none⟩)] w λe w'=>e=.returned (.tuple #[.int .i64 (dJ A),.int .i64 (if dJ A=0 then 32 else 0)])/\Goes F w w' (λF'=>aP K w' p F' kd d R (aU A) q):=by
 obtain⟨pa,pn,Fa,Fn,rfl,h⟩:=h;have c3:=h.c3;obtain⟨f,fv,hen,kQ⟩:=K.make h.nest;unfold Enters at hen;have hm:=(kQ w (ae.refl _ _)).1;have hc:=(kQ w (ae.refl _ _)).2
 have HK:=χ (show ∀w' vX,K.at_ w' pn vX (aU A)->ae Fn w w'->(∀x,x∈vX->x∈Fn\/w.heap.size<=x)->Goes (p::(Fa++Fn)) w w' (λF'=>aP K w' p F' kd d R (aU A) q) from λw' vX hn hu hf=>by
  refine⟨p::(Fa++vX),⟨pa,pn,Fa,vX,rfl,h.NN hn hu hf (O5 A) (h.ar.upd hu (λx hx hm=>h.s3 x hm hx)) rfl (λx=>by rw[RY];exact h.link x)⟩,hu.mono (λx hx=>by simp[hx]),λx hx=>?_⟩;simp only[ρ,τ] at hx ⊢;rcases hx with hx|hx|hx
  ·exact Α (Α hx)
  ·exact Α (Β (Α hx))
  ·rcases hf x hx with hx|hx
   ·exact Α (Β (Β hx))
   ·exact Β hx)
 clear h kQ;generalize dJ A=mv at *
 by_cases hz:mv=0
 ·subst hz
  go_enter func18,ntmps18
  go_wp2_with (first
   |((with_reducible refine(hc).mono ?_);rintro e w1 ⟨rfl,vX,hn,hu,hf⟩)
   | fail)
  go_ret2;exact⟨rfl,HK.out _ _ hn hu hf⟩
 ·have hzb:(mv == 0)=false:=by simpa using hz
  rw[Γ hz];clear hz
  go_enter func18,ntmps18
  go_wp2_with (first
   |((with_reducible refine(hc).mono ?_);rintro e w1 ⟨rfl,vX,hn,hu,hf⟩)
   | fail)
  go_ret2;exact⟨rfl,HK.out _ _ hn hu hf⟩
theorem Ct(h:aP K w p F kd d R A q)(hh k:Int)(hB:aY A hh=false) :
  Calls prog 17 #[.pointer (some ⟨p,0,none⟩),.int .i64 hh,.int .i64 k] w λe w'=>e=.returned (.tuple #[.agg #[.int .i64 0,.int .u32 0],.int .i64 171])/\ae [] w w':=by
 obtain⟨pa,pn,Fa,Fn,rfl,h⟩:=h;have c3:=h.c3;have hpl:=h.head.lt;have hN:=K.upd h.nest (((ae.refl [] w).alloc (.cells #[.int .i64 0,.int .u32 0] 46))) σ;obtain⟨f,fv,hen,kQ⟩:=K.has hh hN;unfold Enters at hen;have hm:=(kQ _ (ae.refl _ _)).1;have hc:=(kQ _ (ae.refl _ _)).2;rw[hB] at hc;clear h kQ hN
 go_enter func17,ntmps17
 go_wp2_with (first
  |((with_reducible refine(hc).mono ?_);rintro e w1 ⟨rfl,rfl⟩)
  | fail)
 exact bodyPost_ret (v:=.tuple #[.agg #[.int .i64 0,.int .u32 0],.int .i64 171]) (by simp[results,results17,go_sem]) rfl ⟨rfl,β⟩
end
end Go.Proofs.YtnpdakpagnpanaaGreat
namespace Go.Proofs.YtnpdakpagnpanaaGreat
open Tryz
open Go.RowKit
def sG(k d:Int):Int:=
 if k<1\/8<k then 21 else if(k=2/\(d<2\/16<d))\/(k≠2/\d≠0) then 22 else 0
theorem SA{k d:Int}(h:k<1\/8<k):sG k d=21:=by unfold sG;rw[Δ h]
theorem Rw{k d:Int}(h:¬(k<1\/8<k))(h2:(k=2/\(d<2\/16<d))\/(k≠2/\d≠0)):sG k d=22:=by unfold sG;rw[Γ h,Δ h2]
theorem YZ{k d:Int}(h:¬(k<1\/8<k))(h2:¬((k=2/\(d<2\/16<d))\/(k≠2/\d≠0))):sG k d=0:=by unfold sG;rw[Γ h,Γ h2]
theorem EK{k d:Int}(h:sG k d=0):1<=k/\k<=8/\(k=2->2<=d/\d<=16)/\(k≠2->d=0):=by
 unfold sG at h;split at h
 ·omega
 ·split at h
  ·omega
  ·omega
theorem Dc(k d:Int)(w:World) :
  Calls prog 33 #[.agg #[.int .i64 k,.int .i64 d]] w λe w'=>e=.returned (.int .i64 (sG k d))/\ae [] w w':=by
 go_enter func33,ntmps33
 go_wp2
 all_goals
  go_ret;refine⟨jR ?_,(ae.refl _ _).alloc _⟩
  try simp only[bne_iff_ne,ne_eq,bne_eq_false_iff_eq] at *
  first
  |(rw[SA ω];done)
  |(rw[Rw ω ω];done)
  |(rw[YZ ω ω];done)
theorem rR(k d:Int)(w:World) :
  Calls prog 21 #[.agg #[.int .i64 k,.int .i64 d]] w λe w'=>e=.returned (.int .i64 (sG k d))/\ae [] w w':=by
 go_enter func21,ntmps21
 go_wp2
 all_goals
  go_ret;refine⟨jR ?_,(ae.refl _ _).alloc _⟩
  try simp only[bne_iff_ne,ne_eq,bne_eq_false_iff_eq,ϟ,beq_eq_false_iff_ne] at *
  first
  |(rw[SA ω];done)
  |(rw[Rw ω ω];done)
  |(rw[YZ ω ω];done)
end Go.Proofs.YtnpdakpagnpanaaGreat
namespace Go.Proofs.YtnpdakpagnpanaaGreat
open Tryz
open Go Go.RowKit
def Ih(w:World)(p n:Nat):Prop:=∃c F1,w.cell? ⟨p,0,none⟩=some (.pointer (some ⟨c,0,none⟩))/\aF w c F1 (NS.new n) 0
def o9(K:NestQ)(kd d:Int)(n:Nat):Prop:=∀W:World,Calls prog 35 #[.agg #[.int .i64 kd,.int .i64 d],.int .i64 (n:Int)] W λe w'=>∃pn Fn,e=.returned (.tuple #[.iface K.ty (.pointer (some ⟨pn,0,none⟩)),.int .i64 0])/\K.at_ w' pn Fn (NS.new n)/\Ih w' pn n/\ae [] W w'/\∀x,x∈Fn->W.heap.size<=x
theorem aaM(n:Nat)(x:Nat):bY (NS.new n) (x:Int)=false:=by
 cases h:bY (NS.new n) (x:Int) with
 |false=>rfl
 |true=>have:=(aj _ _).1 h;rw[NS.tV] at this;exact absurd this.2 (by simp[Cl.z])
theorem ad4(n m x:Nat):(AR.new n m).v x=false:=by
 unfold AR.new AR.v;simp only[φ,List.getElem?_replicate]
 split<;>rfl
theorem Ei{K:NestQ}{kd d:Int}(n m:Nat)(w:World)(hn:n<=65536)(hm:1<=m/\m<=4294967295)(hc:sG kd d=0)(ko:o9 K kd d n) :
  Calls prog 11 #[.agg #[.int .i64 kd,.int .i64 d],.int .i64 (n:Int),.int .u32 (m:Int)] w λe w'=>∃p F,e=.returned (.tuple #[.pointer (some ⟨p,0,none⟩),.int .i64 0])/\aP K w' p F kd d (AR.new n m) (NS.new n) 0/\ae [] w w'/\∀x,x∈F->w.heap.size<=x:=by
 have kc:=λW=>Dc kd d W;rw[hc] at kc;have ka:=λW=>QM n m W hn hm;unfold o9 at ko;have hcs:(NS.new n).cs.length=n:=by simp[NS.new]
 have hal:(AR.new n m).sl.length=n:=by simp[AR.new]
 have HL:=χ (ψ hcs hal);clear hcs hal hc
 go_enter func11,ntmps11
 go_wp2_with (first
  |((go_at_call 33;(with_reducible refine(kc _).mono ?_));rintro e w1 ⟨rfl,hu1⟩;(have q0:w1.cell? ⟨w.heap.size,0,none⟩=some (.int .i64 kd):=hu1.was γ);(have q1:w1.cell? ⟨w.heap.size,1,none⟩=some (.int .i64 d):=hu1.was γ);(have hw1:ae [] w w1:=ae.trans β hu1))
  |((go_at_call 34;(with_reducible refine(ka _).mono ?_));rintro e w2 ⟨pa,Fa,rfl,hA,hu2,hfa⟩;(have q2:=hu2.was q0);(have q3:=hu2.was q1))
  |((go_at_call 35;(with_reducible refine(ko _).mono ?_));rintro e w3 ⟨pn,Fn,rfl,hN,hZ,hu3,hfn⟩;(have q4:=hu3.was q2);(have q5:=hu3.was q3))
  | fail)
 go_ret2;have hh:=eZ w3 [.int .i64 kd,.int .i64 d,.pointer (some ⟨pa,0,none⟩),.iface K.ty (.pointer (some ⟨pn,0,none⟩)),.int .u64 0] 89;have hb:ae [] w3 (w3.alloc (.cells #[.int .i64 kd,.int .i64 d,.pointer (some ⟨pa,0,none⟩),.iface K.ty (.pointer (some ⟨pn,0,none⟩)),.int .u64 0] 89)):=(ae.refl _ _).alloc _;have hAl:=hA.lt;have hNl:=K.lt hN;have s3:=hu3.size;have s1:=hw1.size;have s2:=hu2.size
 refine⟨w3.heap.size,w3.heap.size::(Fa++Fn),rfl,⟨pa,pn,Fa,Fn,rfl,⟨hh.ext (λj hj=>by unfold pqC;rfl),(hA.upd hu3 σ).upd hb σ,K.upd hN hb σ,λe=>by have:=hAl _ e;omega,λe=>by have:=hNl _ e;omega,λx h1 h2=>by have:=hAl x h1;have:=hfn x h2;omega,by rw[HL.out.1,HL.out.2],λx=>by rw[ad4,aaM]⟩⟩,((hw1.trans hu2).trans hu3).trans hb,λx hx=>?_⟩;simp only[ρ,τ] at hx;rcases hx with rfl|hx|hx
 ·omega
 ·have:=hfa x hx;omega
 ·have:=hfn x hx;omega
section
variable{K:NestQ}{w:World}{p pa pn:Nat}{Fa Fn F:List Nat}{kd d:Int}{R:AR}{A:NS}{q:Nat}
theorem FY(h:aP K w p F kd d R A q)(hh k:Int)(hB:aY A hh=true)(hT:kZ R=none) :
  Calls prog 17 #[.pointer (some ⟨p,0,none⟩),.int .i64 hh,.int .i64 k] w λe w'=>e=.returned (.tuple #[.agg #[.int .i64 0,.int .u32 0],.int .i64 32])/\ae [] w w':=by
 obtain⟨pa,pn,Fa,Fn,rfl,h⟩:=h;have c2:=h.c2;have c3:=h.c3;have hpl:=h.head.lt;have hu0:ae [] w (w.alloc (.cells #[.int .i64 0,.int .u32 0] 46)):=(ae.refl [] w).alloc _;have hN:=K.upd h.nest hu0 σ;have kt:=λW (hW:ae [] w W)=>IQ (h.ar.upd hW σ) hT;obtain⟨f,fv,hen,kQ⟩:=K.has hh hN;unfold Enters at hen;have hm:=(kQ _ (ae.refl _ _)).1;have hc:=(kQ _ (ae.refl _ _)).2;rw[hB] at hc;clear h kQ hN
 go_enter func17,ntmps17
 go_wp2_with (first
  |((with_reducible refine(hc).mono ?_);rintro e w1 ⟨rfl,rfl⟩)
  |((go_at_call 40;(with_reducible refine(kt _ β).mono ?_));rintro e w2 ⟨rfl,hu2⟩;(have q0:w2.cell? ⟨w.heap.size,0,none⟩=some (.int .i64 0):=hu2.was γ);(have q1:w2.cell? ⟨w.heap.size,1,none⟩=some (.int .u32 0):=hu2.was γ);(have f0:w2.frozen? ⟨w.heap.size,0,none⟩=false:=hu2.aM (v:=.int .i64 0) γ σ γ);(have f1:w2.frozen? ⟨w.heap.size,1,none⟩=false:=hu2.aM (v:=.int .u32 0) γ σ γ);(have hrl:=Ε w2 _ q0);(have RQ:ae [] w w2:=hu0.trans hu2))
  | fail)
 exact bodyPost_ret (v:=.tuple #[.agg #[.int .i64 0,.int .u32 0],.int .i64 32]) (by simp[results,results17,go_sem,hrl,q0,q1]) rfl ⟨rfl,β⟩
theorem aav{A:NS}{hh x k s:Int}(hB:rG A hh x=true)(y:Nat):bY (aO A hh x k s) (y:Int)=(bY A (y:Int) || decide ((y:Int)=x)):=by
 obtain⟨b1,b2,b3⟩:=(fP _ _ _).1 hB;have b4:=(aC _ _).1 b1;have b5:=(ic _ _).1 b2;unfold aO;rw[Δ hB];have e1:bY (iW A x.toNat ⟨hh,k,s⟩) (y:Int)=true↔(bY A (y:Int) || decide ((y:Int)=x))=true:=by
  rw[aj,fO,lg,Bool.or_eq_true,aj,Ο]
  by_cases e:y=x.toNat
  ·rw[Δ ⟨e,ω⟩];constructor
   ·intro _;right;omega
   ·intro _;exact⟨ω,by show 0<hh;omega⟩
  ·rw[Γ (λh=>e h.1)];constructor
   ·intro h;exact Α h
   ·rintro(h|h)
    ·exact h
    ·omega
 cases h1:bY (iW A x.toNat ⟨hh,k,s⟩) (y:Int)<;>cases h2:(bY A (y:Int) || decide ((y:Int)=x))<;>simp_all
theorem Ux(A:NS)(h x k s:Int):(aO A h x k s).cs.length=A.cs.length:=by unfold aO;split;exact fO _ _ _;rfl
theorem Ry{R R':AR}{x:Nat}(h:R.Ok)(hp:kZ R=some (x,R'))(y:Nat):R'.v y=(R.v y || decide ((y:Int)=(x:Int))):=by
 obtain⟨_,h1,h2,_,h3,_⟩:=uO h hp;have e:R'.v y=(R.put x (R.g x+1,true)).v y:=by unfold AR.v AR.put;rw[h3]
 rw[e,AR.Bw]
 by_cases e2:y=x
 ·rw[Δ ⟨e2,h1⟩,e2];simp
 ·rw[Γ (λh=>e2 h.1),Ξ ω];simp
theorem tq(h:aP K w p F kd d R A q)(hh k:Int)(hB:aY A hh=true)(hk:-9223372036854775808<=k/\k<=9223372036854775807)(hq:q+1<=18446744073709551615){x:Nat}{R':AR}(hT:kZ R=some (x,R')) :
  Calls prog 17 #[.pointer (some ⟨p,0,none⟩),.int .i64 hh,.int .i64 k] w λe w'=>e=.returned (.tuple #[.agg #[.int .i64 (x:Int),.int .u32 ((R.g x:Int)+1)],.int .i64 0])/\
   Goes F w w' (λF'=>aP K w' p F' kd d R' (aO A hh (x:Int) k ((q:Int)+1)) (q+1)):=by
 obtain⟨hh,rfl⟩:∃n:Nat,hh=n:=⟨hh.toNat,by have:=(aC _ _).1 hB;omega⟩;obtain⟨pa,pn,Fa,Fn,rfl,h⟩:=h;have hok:=K.ok h.nest;have YW:=uO h.ar.ok hT;have JG:=h.link;have hBp:rG A (hh:Int) (x:Int)=true:=by
  rw[fP];refine⟨hB,(ic _ _).2 ⟨ω,by have:=h.len;omega⟩,?_⟩;rw[←h.link];exact YW.2.2.1
 have hlen:=h.len;have hac:-9223372036854775808<=k/\k<=9223372036854775807/\0<=(q:Int)+1/\(q:Int)+1<=18446744073709551615:=ω;have c2:=h.c2;have c3':=h.c3;have c4':=h.c4;have f4':=h.head.free 4;have hpl:=h.head.lt;have hFa:=h.ar.lt;have hFn:=K.lt h.nest;have hs1:=h.s1;have hs2:=h.s2;have hs3:=h.s3;have hu0:ae [] w (w.alloc (.cells #[.int .i64 0,.int .u32 0] 46)):=(ae.refl [] w).alloc _;have hN:=K.upd h.nest hu0 σ;have kt:=λW (hW:ae [] w W)=>Ha (h.ar.upd hW σ) hT;obtain⟨f,fv,hen,kQ⟩:=K.has hh hN;unfold Enters at hen;have hm:=(kQ _ (ae.refl _ _)).1;have hc:=(kQ _ (ae.refl _ _)).2
 rw[hB] at hc;have hwq:IntKind.u64.wrap ((q:Int)+1)=(q:Int)+1:=IntWalk.u64_in _ ω;have xB:w.heap.size∉Fa:=λe=>by have:=hFa _ e;omega
 have HH:=χ (ψ h (ψ hN (ψ hac (ψ hFa (ψ hFn (ψ hs3 (ψ JG YW)))))));have HBp:=χ hBp;clear h kQ hN hac hFa hFn hs3 JG YW hok hB hBp
 go_enter func17,ntmps17
 go_upto_region 7 with (first
  |((with_reducible refine(hc).mono ?_);rintro e w1 ⟨rfl,rfl⟩)
  |((go_at_call 40;(with_reducible refine(kt _ β).mono ?_));rintro e w2 ⟨rfl,MG,hA2,huA,hfA⟩;(have c3:w2.cell? ⟨p,3,none⟩=some (.iface K.ty (.pointer (some ⟨pn,0,none⟩))):=huA.kept (hu0.was c3') hs1);(have c4:w2.cell? ⟨p,4,none⟩=some (.int .u64 (q:Int)):=huA.kept (hu0.was c4') hs1);(have f4:w2.frozen? ⟨p,4,none⟩=false:=huA.aM (hu0.was c4') hs1 (hu0.aM c4' σ f4'));(have q0:w2.cell? ⟨w.heap.size,0,none⟩=some (.int .i64 0):=huA.kept γ xB);(have q1:w2.cell? ⟨w.heap.size,1,none⟩=some (.int .u32 0):=huA.kept γ xB);(have f0:w2.frozen? ⟨w.heap.size,0,none⟩=false:=huA.aM (v:=.int .i64 0) γ xB γ);(have f1:w2.frozen? ⟨w.heap.size,1,none⟩=false:=huA.aM (v:=.int .u32 0) γ xB γ);(have hp2:=Ε w2 _ c3);(have hr2:=Ε w2 _ q0))
  | fail)
 obtain⟨h,hN0,hac,hFa,hFn,hs3,JG,YW⟩:=HH.out;have hd2:aS w2 p 89 5 (pqC K pa pn kd d q):=(h.head.upd hu0 σ).upd huA hs1;have VA:K.at_ w2 pn Fn A:=K.upd hN0 huA hs3;have Yq:ae [p] w2 ((w2.setCell ⟨p,4,none⟩ (.int .u64 ((q:Int)+1))).alloc (.cells #[.int .i64 (x:Int),.int .u32 ((R.g x:Int)+1)] 46)):=((ae.refl _ _).setCell (Α σ) _).alloc _;have SG:p∉MG:=λe=>by rcases hfA _ e with e|e;exact hs1 e;simp at e;omega
 refine bG (λW=>aS W p 89 5 (pqC K pa pn kd d (q+1))/\oW W pa MG R'/\K.at_ W pn Fn A/\W.cell? ⟨w2.heap.size,0,none⟩=some (.int .i64 (x:Int))/\W.cell? ⟨w2.heap.size,1,none⟩=some (.int .u32 ((R.g x:Int)+1))/\
  W.cell? ⟨w.heap.size,0,none⟩=some (.int .i64 0)/\W.cell? ⟨w.heap.size,1,none⟩=some (.int .u32 0)/\W.frozen? ⟨w.heap.size,0,none⟩=false/\W.frozen? ⟨w.heap.size,1,none⟩=false/\ae [p] w2 W)
  ⟨((hd2.set 4 _).ext (λj hj=>?_)).alloc _,hA2.upd Yq (λz hz=>by simp at hz;rw[hz];exact SG),K.upd VA Yq (λz hz=>by simp at hz;rw[hz];exact hs2),γ,γ,Yq.kept q0 ζ,Yq.kept q1 ζ,Yq.aM q0 ζ f0,Yq.aM q1 ζ f1,Yq⟩ ?_
 ·rcases(ω:j=0\/j=1\/j=2\/j=3\/j=4) with rfl|rfl|rfl|rfl|rfl<;>simp[pqC]
 rintro W ⟨hd,hA,hN,x0,x1,r0,r1,MJ,JS,Vt⟩;have z3:W.cell? ⟨p,3,none⟩=some (.iface K.ty (.pointer (some ⟨pn,0,none⟩))):=hd.cellAt 3 ω rfl;have z4:W.cell? ⟨p,4,none⟩=some (.int .u64 ((q:Int)+1)):=hd.cellAt 4 ω (by simp[pqC]);obtain⟨f2,Og,Mr,wF⟩:=K.insert hh x k ((q:Int)+1) hac HBp.out hN;unfold Enters at Mr;have hm2:=(wF W.drew ((ae.refl _ _).drew)).1;have hc2:=(wF W.drew ((ae.refl _ _).drew)).2;have hszW:=Vt.size;have hrw:w.heap.size<W.heap.size:=ω;have hxw:w2.heap.size<W.heap.size:=Ε W _ x0;have I5:w2.heap.size∉Fn:=λe=>by have:=hFn _ e;omega
 have qO:w.heap.size∉Fn:=λe=>by have:=hFn _ e;omega
 have TU:∀z,z∈MG->z∈Fn->False:=λz h1 h2=>by
  rcases hfA z h1 with e|e
  ·exact hs3 z e h2
  ·have:=hFn z h2;simp at e;omega
 have YY:∀z,z∈MG->z<W.heap.size:=hA.lt;have hUw2:ae (p::(Fa++Fn)) w w2:=ae.trans ((ae.refl _ _).alloc _) (huA.mono (λz hz=>by simp[hz]));have HFIN:Hid (∀w5 F5,K.at_ w5 pn F5 (aO A hh (x:Int) k ((q:Int)+1))->ae Fn W.drew w5->(∀z,z∈F5->z∈Fn\/W.drew.heap.size<=z)->∀v0 v1,Goes (p::(Fa++Fn)) w ((w5.setCell ⟨w.heap.size,0,none⟩ v0).setCell ⟨w.heap.size,1,none⟩ v1) (λF'=>aP K ((w5.setCell ⟨w.heap.size,0,none⟩ v0).setCell ⟨w.heap.size,1,none⟩ v1) p F' kd d R' (aO A hh (x:Int) k ((q:Int)+1)) (q+1))):=by
  intro w5 F5 ZK rT QO v0 v1;have bW:ae Fn W w5:=((ae.refl Fn W).drew).trans rT;have hr:ae [w.heap.size] w5 ((w5.setCell ⟨w.heap.size,0,none⟩ v0).setCell ⟨w.heap.size,1,none⟩ v1):=((ae.refl _ _).setCell (Α σ) _).setCell (Α σ) _;have hrF5:w.heap.size∉F5:=λe=>by rcases QO _ e with e|e;exact qO e;have e':W.heap.size<=w.heap.size:=e;omega
  have ab7:w.heap.size∉MG:=λe=>by rcases hfA _ e with e|e;have:=hFa _ e;omega;simp at e;omega
  refine⟨p::(MG++F5),⟨pa,pn,MG,F5,rfl,⟨(hd.upd bW hs2).upd hr ζ,(hA.upd bW (λz h1 h2=>TU z h2 h1)).upd hr (λz hz=>by simp at hz;rw[hz];exact ab7),K.upd ZK hr (λz hz=>by simp at hz;rw[hz];exact hrF5),SG,λe=>?_,λz h1 h2=>?_,?_,λy=>?_⟩⟩,?_,λz hz=>?_⟩
  ·rcases QO _ e with e|e
   ·exact hs2 e
   ·have e':W.heap.size<=p:=e;omega
  ·rcases QO _ h2 with e|e
   ·exact TU z h1 e
   ·have e':W.heap.size<=z:=e;have:=YY z h1;omega
  ·rw[Ux,←hlen,YW.2.2.2.2.1];simp
  ·rw[Ry h.ar.ok hT,aav HBp.out,JG]
  ·have h1:=(hUw2.trans (Vt.mono σ)).trans (bW.mono (λz hz=>by simp[hz]));exact(h1.setCell (Β (Θ _)) _).setCell (Β (Θ _)) _
  ·simp only[ρ,τ] at hz ⊢;rcases hz with hz|hz|hz
   ·exact Α (Α hz)
   ·rcases hfA z hz with e|e
    ·exact Α (Β (Α e))
    ·simp at e;exact Β ω
   ·rcases QO z hz with e|e
    ·exact Α (Β (Β e))
    ·have e':W.heap.size<=z:=e;exact Β ω
 clear h hN0 hac hFa hFn JG YW hd2 VA hd hA hN Vt wF q0 q1 f0 f1 c3 c4 f4 c2 c3' c4' f4' hc hm hen kt hA2 Yq huA hfA SG TU YY hUw2
 go_region_law
  (first
   | (go_simp;(with_reducible refine (hc2).mono ?_);rintro e w5 ⟨rfl,F5,ZK,bW,QO⟩;(have y0:=bW.kept x0 I5);(have y1:=bW.kept x1 I5);(have t0:=bW.kept r0 qO);(have t1:=bW.kept r1 qO);(have tf0:=bW.aM r0 qO MJ);(have tf1:=bW.aM r1 qO JS)))
 all_goals
  go_wp2;exact bodyPost_ret (v:=.tuple #[.agg #[.int .i64 (x:Int),.int .u32 ((R.g x:Int)+1)],.int .i64 0]) (by simp[results,results17,go_sem,t0,t1]) rfl ⟨rfl,HFIN.out _ _ ZK bW QO _ _⟩
end
section
variable{K:NestQ}{w:World}{p pa pn:Nat}{Fa Fn F:List Nat}{kd d:Int}{R:AR}{A:NS}{q:Nat}
theorem oz(h:aP K w p F kd d R A q)(x:Nat)(hv:R.v x=true) :
  Calls prog 42 #[.pointer (some ⟨p,0,none⟩),.agg #[.int .i64 (x:Int),.int .u32 (R.g x:Int)]] w λe w'=>e=.returned (.tuple #[.agg #[.int .i64 (A.c x).k,.int .u64 (A.c x).s],.int .i64 0])/\ae [] w w':=by
 obtain⟨pa,pn,Fa,Fn,rfl,h⟩:=h;have hin:bY A (x:Int)=true:=by rw[←h.link];exact hv
 have hx:=AR.Pk hv;have hgm:=h.ar.ok.gm x;have hmo:=h.ar.ok.QQ;have hlv:iO R (x:Int) (R.g x:Int)=true:=by
  unfold iO;rw[show((x:Nat):Int).toNat=x by omega,hv,Ν (ω:(0:Int)<=x),Ν (ω:(x:Int)<R.sl.length)];simp
 have kl:=λW (hW:ae [] w W)=>oI (h.ar.upd hW σ) (x:Int) (R.g x:Int) ω;rw[hlv] at kl;have c2':=h.c2;have c3':=h.c3;have HH:=χ h;clear h hlv hv;generalize R.g x=gx at *
 go_enter func42,ntmps42
 go_upto_region 1 with(fail)
 refine bG (λW=>W.cell? ⟨w.heap.size,0,none⟩=some (.int .i64 (x:Int))/\W.cell? ⟨w.heap.size,1,none⟩=some (.int .u32 (gx:Int))/\W.cell? ⟨w.heap.size+1,0,none⟩=some (.int .i64 0)/\W.cell? ⟨w.heap.size+1,1,none⟩=some (.int .u64 0)/\W.frozen? ⟨w.heap.size+1,0,none⟩=false/\W.frozen? ⟨w.heap.size+1,1,none⟩=false/\ae [] w W) ⟨σ,σ,σ,σ,σ,σ,β⟩ ?_;rintro W ⟨x0,x1,r0,r1,MJ,JS,hu⟩;have JW:=λX (hX:ae [] W X)=>kl X (hu.trans hX);have e0:∀X,ae [] W X->X.cell? ⟨w.heap.size,0,none⟩=some (.int .i64 (x:Int)):=λX h=>h.was x0
 have e1:∀X,ae [] W X->X.cell? ⟨w.heap.size,1,none⟩=some (.int .u32 (gx:Int)):=λX h=>h.was x1;have e2:∀X,ae [] W X->X.cell? ⟨p,2,none⟩=some (.pointer (some ⟨pa,0,none⟩)):=λX h=>h.was (hu.was c2');have HU:=χ (ψ hu (ψ x0 (ψ r0 (ψ r1 (ψ MJ JS)))));clear hu x0 x1 r0 r1 MJ JS kl c2'
 go_region_held3 (ae [] W) (exact ν)
  (first
   | ((go_at_call 73;(with_reducible refine (JW _ ν).mono ?_));rintro e w1 ⟨rfl,hu1⟩;(have hv1:ae [] W w1:=ae.trans ν hu1)))
 go_upto_region 3 with(fail)
 obtain⟨hu,x0,r0,r1,MJ,JS⟩:=HU.out;refine bG (λX=>ae [] W X) β ?_;intro X hX;have y0:=hX.was x0;have z3:=hX.was (hu.was c3');have t0:=hX.was r0;have t1:=hX.was r1;have ZN:=hX.aM r0 σ MJ;have ft1:=hX.aM r1 σ JS;have hN:=K.upd HH.out.nest (hu.trans hX) σ;obtain⟨f,fv,hen,kQ⟩:=K.entry (x:Int) hN;unfold Enters at hen;have hm:=(kQ X.drew ((ae.refl _ _).drew)).1;have hc:=(kQ X.drew ((ae.refl _ _).drew)).2;have huB:ae [] X (X.alloc (.cells #[.int .i64 0,.int .u64 0] 97)).drew:=((ae.refl _ _).alloc _).drew;have tB0:=huB.was t0;have tB1:=huB.was t1;have tfB0:=huB.aM t0 σ ZN
 have tfB1:=huB.aM t1 σ ft1;have nB0:(X.alloc (.cells #[.int .i64 0,.int .u64 0] 97)).drew.cell? ⟨X.heap.size,0,none⟩=some (.int .i64 0):=σ;have nB1:(X.alloc (.cells #[.int .i64 0,.int .u64 0] 97)).drew.cell? ⟨X.heap.size,1,none⟩=some (.int .u64 0):=σ;have nfB0:(X.alloc (.cells #[.int .i64 0,.int .u64 0] 97)).drew.frozen? ⟨X.heap.size,0,none⟩=false:=σ;have nfB1:(X.alloc (.cells #[.int .i64 0,.int .u64 0] 97)).drew.frozen? ⟨X.heap.size,1,none⟩=false:=σ;have HB:=χ (ψ tB0 (ψ tB1 (ψ tfB0 (ψ tfB1 (ψ nB0 (ψ nB1 (ψ nfB0 nfB1)))))));clear tB0 tB1 tfB0 tfB1 nB0 nB1 nfB0 nfB1;have hmB:=(kQ _ huB).1
 have hcB:=(kQ _ huB).2;rw[hin,show((x:Nat):Int).toNat=x by omega] at hc hcB;simp only[if_true] at hc hcB;have hrl:=Ε X _ t0;have hxl:=Ε X _ y0;have hpl:=Ε X _ z3;dsimp only at hrl hxl hpl;have HU2:=χ (hu.trans hX);clear hu x0 r0 r1 MJ JS hX hN kQ huB JW e0 e1 e2 c3';generalize hkk:(A.c x).k=kk at *;generalize hss:(A.c x).s=ss at *;have HKS:=χ (ψ hkk hss);clear hkk hss
 go_region_law
  (first
   |(go_simp;(with_reducible refine(hc).mono ?_);rintro e w5 ⟨rfl,bW⟩;(have s0:w5.cell? ⟨w.heap.size+1,0,none⟩=some (.int .i64 0):=bW.was t0);(have s1:w5.cell? ⟨w.heap.size+1,1,none⟩=some (.int .u64 0):=bW.was t1);(have fs0:=bW.aM (v:=.int .i64 0) t0 σ ZN);(have fs1:=bW.aM (v:=.int .u64 0) t1 σ ft1);(have hsl:=Ε w5 _ s0))
   | (go_simp;(with_reducible refine (hcB).mono ?_);rintro e w5 ⟨rfl,bW⟩;(have s0:=bW.was HB.out.1);(have s1:=bW.was HB.out.2.1);(have fs0:=bW.aM HB.out.1 σ HB.out.2.2.1);(have fs1:=bW.aM HB.out.2.1 σ HB.out.2.2.2.1);(have hsl:=Ε w5 _ s0);(have b0:=bW.was HB.out.2.2.2.2.1);(have b1:=bW.was HB.out.2.2.2.2.2.1);(have fb0:=bW.aM HB.out.2.2.2.2.1 σ HB.out.2.2.2.2.2.2.1);(have fb1:=bW.aM HB.out.2.2.2.2.2.1 σ HB.out.2.2.2.2.2.2.2)))
 all_goals
  go_wp2;have h5:ae [] w w5:=HU2.out.trans (ae.trans β bW);exact bodyPost_ret (v:=.tuple #[.agg #[.int .i64 kk,.int .u64 ss],.int .i64 0]) (by simp[results,results42,go_sem, *]) rfl ⟨by rw[HKS.out.1,HKS.out.2],β⟩
end
section
variable{K:NestQ}{w:World}{p pa pn:Nat}{Fa Fn F:List Nat}{kd d:Int}{R:AR}{A:NS}{q:Nat}
theorem Cy.moved(h:Cy K w p pa pn Fa Fn kd d R A q){w':World}{vX:List Nat}(hn:K.at_ w' pn vX A)(hu:ae Fn w w')(hf:∀x,x∈vX->x∈Fn\/w.heap.size<=x):Goes (p::(Fa++Fn)) w w' (λF'=>aP K w' p F' kd d R A q):=by
 refine⟨p::(Fa++vX),⟨pa,pn,Fa,vX,rfl,h.NN hn hu hf rfl (h.ar.upd hu (λx hx hm=>h.s3 x hm hx)) rfl h.link⟩,hu.mono (λx hx=>by simp[hx]),λx hx=>?_⟩;simp only[ρ,τ] at hx ⊢;rcases hx with hx|hx|hx
 ·exact Α (Α hx)
 ·exact Α (Β (Α hx))
 ·rcases hf x hx with hx|hx
  ·exact Α (Β (Β hx))
  ·exact Β hx
theorem Goes.after{F:List Nat}{w w0 w':World}{P:List Nat->Prop}(h:Goes F w0 w' P)(hu:ae [] w w0):Goes F w w' P:=by
 obtain⟨F',h1,h2,h3⟩:=h;exact⟨F',h1,(hu.mono σ).trans h2,λx hx=>by rcases h3 x hx with h|h;exact Α h;exact Β (Χ hu.size h)⟩
theorem Goes.beh{F S:List Nat}{w w0 w1 w2:World}{p:Nat}{kd d:Int}(h:Goes F w0 w1 (λF'=>aP K w1 p F' kd d R A q))(hu:ae S w1 w2)(hw:ae [] w w0)(hS:∀r,r∈S->r<w0.heap.size/\r∉F/\w.heap.size<=r):Goes F w w2 (λF'=>aP K w2 p F' kd d R A q):=by
 obtain⟨F',h1,h2,h3⟩:=h;refine⟨F',h1.upd hu (λr hr hm=>?_),((hw.mono σ).trans h2).joined hu (λr hr=>Β (hS r hr).2.2),λx hx=>by rcases h3 x hx with h|h;exact Α h;exact Β (Χ hw.size h)⟩;rcases h3 r hm with e|e
 ·exact(hS r hr).2.1 e
 ·have:=(hS r hr).1;omega
theorem EB(h:aP K w p F kd d R A q)(hh:Int)(hB:aY A hh=false) :
  Calls prog 41 #[.pointer (some ⟨p,0,none⟩),.int .i64 hh] w λe w'=>e=.returned (.tuple #[.agg #[.int .i64 0,.int .u32 0],.int .i64 171])/\ae [] w w':=by
 obtain⟨pa,pn,Fa,Fn,rfl,h⟩:=h;have c3:=h.c3;have hpl:=h.head.lt;have hN:=K.upd h.nest (((ae.refl [] w).alloc (.cells #[.int .i64 0,.int .u32 0] 46))) σ;obtain⟨f,fv,hen,kQ⟩:=K.has hh hN;unfold Enters at hen;have hm:=(kQ _ (ae.refl _ _)).1;have hc:=(kQ _ (ae.refl _ _)).2;rw[hB] at hc;clear h kQ hN
 go_enter func41,ntmps41
 go_wp2_with (first
  |((with_reducible refine(hc).mono ?_);rintro e w1 ⟨rfl,rfl⟩)
  | fail)
 exact bodyPost_ret (v:=.tuple #[.agg #[.int .i64 0,.int .u32 0],.int .i64 171]) (by simp[results,results41,go_sem]) rfl ⟨rfl,β⟩
theorem Jt(h:aP K w p F kd d R A q)(hh:Int)(hB:aY A hh=true)(hb:-9223372036854775808<=hh/\hh<=9223372036854775807)(hM:dN A hh=none) :
  Calls prog 41 #[.pointer (some ⟨p,0,none⟩),.int .i64 hh] w λe w'=>e=.returned (.tuple #[.agg #[.int .i64 0,.int .u32 0],.int .i64 172])/\Goes F w w' (λF'=>aP K w' p F' kd d R A q):=by
 obtain⟨hh,rfl⟩:∃n:Nat,hh=n:=⟨hh.toNat,by have:=(aC _ _).1 hB;omega⟩;obtain⟨pa,pn,Fa,Fn,rfl,h⟩:=h;have c3:=h.c3;have hpl:=h.head.lt;have hu0:ae [] w (w.alloc (.cells #[.int .i64 0,.int .u32 0] 46)):=(ae.refl [] w).alloc _;have hN:=K.upd h.nest hu0 σ;obtain⟨f,fv,hen,kQ⟩:=K.has hh hN;obtain⟨f2,Og,Mr,wF⟩:=K.min hh hB hN;unfold Enters at hen Mr;have hm:=(kQ _ (ae.refl _ _)).1;have hc:=(kQ _ (ae.refl _ _)).2;have hm2:=(wF _ (ae.refl _ _)).1;have hc2:=(wF _ (ae.refl _ _)).2;rw[hB] at hc;rw[hM,show qp none=0 from rfl,show(none:Option Nat).isSome=false from rfl] at hc2
 have qO:w.heap.size∉Fn:=λe=>by have:=K.lt h.nest _ e;omega
 have HG:=χ (λw1 vX (hn:K.at_ w1 pn vX A) (hu:ae Fn (w.alloc (.cells #[.int .i64 0,.int .u32 0] 46)) w1) hf w2 (hu2:ae [w.heap.size] w1 w2)=>((h.upd hu0 σ).moved hn hu hf).beh hu2 hu0 (λr hr=>by simp at hr;subst hr;exact⟨σ,λe=>by have:=h.lt _ e;omega,Θ _⟩));clear h kQ hN wF
 go_enter func41,ntmps41
 go_wp2_with (first
  |((with_reducible refine(hc).mono ?_);rintro e w1 ⟨rfl,rfl⟩)
  |((with_reducible refine(hc2).mono ?_);rintro e w2 ⟨rfl,vX,hn,hu,hf⟩;(have q0:w2.cell? ⟨w.heap.size,0,none⟩=some (.int .i64 0):=hu.kept γ qO);(have q1:w2.cell? ⟨w.heap.size,1,none⟩=some (.int .u32 0):=hu.kept γ qO);(have f0:w2.frozen? ⟨w.heap.size,0,none⟩=false:=hu.aM (v:=.int .i64 0) γ qO γ);(have f1:w2.frozen? ⟨w.heap.size,1,none⟩=false:=hu.aM (v:=.int .u32 0) γ qO γ))
  | fail)
 exact bodyPost_ret (v:=.tuple #[.agg #[.int .i64 0,.int .u32 0],.int .i64 172]) (by simp[results,results41,go_sem,q0,q1]) rfl ⟨rfl,HG.out _ _ hn hu hf _ (((ae.refl _ _).setCell (Α σ) _).setCell (Α σ) _)⟩
theorem ze(h:aP K w p F kd d R A q)(hh:Int){m:Nat}(hM:dN A hh=some m) :
  Calls prog 41 #[.pointer (some ⟨p,0,none⟩),.int .i64 hh] w λe w'=>e=.returned (.tuple #[.agg #[.int .i64 (m:Int),.int .u32 (R.g m:Int)],.int .i64 0])/\Goes F w w' (λF'=>aP K w' p F' kd d R A q):=by
 obtain⟨pa,pn,Fa,Fn,rfl,h⟩:=h;have hok:=K.ok h.nest;obtain⟨m1,m2,m3,m4⟩:=lH hM;have hB:aY A hh=true:=by rw[←m3];have:=iL hok m4;simpa using this
 obtain⟨hh,rfl⟩:∃n:Nat,hh=n:=⟨hh.toNat,by have:=(aC _ _).1 hB;omega⟩;have hv:R.v m=true:=by rw[h.link];exact m4
 have c2':=h.c2;have c3:=h.c3;have hpl:=h.head.lt;have hu0:ae [] w (w.alloc (.cells #[.int .i64 0,.int .u32 0] 46)):=(ae.refl [] w).alloc _;have hN:=K.upd h.nest hu0 σ;obtain⟨f,fv,hen,kQ⟩:=K.has hh hN;obtain⟨f2,Og,Mr,wF⟩:=K.min hh hB hN;unfold Enters at hen Mr;have hm:=(kQ _ (ae.refl _ _)).1;have hc:=(kQ _ (ae.refl _ _)).2;have hm2:=(wF _ (ae.refl _ _)).1;have hc2:=(wF _ (ae.refl _ _)).2;rw[hB] at hc;rw[hM,show qp (some m)=(m:Int) from rfl,show(some m).isSome=true from rfl] at hc2;have qO:w.heap.size∉Fn:=λe=>by have:=K.lt h.nest _ e;omega
 have hs3:=h.s3;have ka:=λW (hu:ae Fn (w.alloc (.cells #[.int .i64 0,.int .u32 0] 46)) W)=>Tg ((h.ar.upd hu0 σ).upd hu (λx hx hm=>hs3 x hm hx)) m hv;have hpn:=h.s2;have HG:=χ (λw1 vX (hn:K.at_ w1 pn vX A) (hu:ae Fn (w.alloc (.cells #[.int .i64 0,.int .u32 0] 46)) w1) hf w2 (hu2:ae [w.heap.size] w1 w2)=>((h.upd hu0 σ).moved hn hu hf).beh hu2 hu0 (λr hr=>by simp at hr;subst hr;exact⟨σ,λe=>by have:=h.lt _ e;omega,Θ _⟩));clear h kQ hN wF hok hB hv m4;generalize R.g m=gm at *
 go_enter func41,ntmps41
 go_wp2_with (first
  |((with_reducible refine(hc).mono ?_);rintro e w1 ⟨rfl,rfl⟩)
  |((with_reducible refine(hc2).mono ?_);rintro e w2 ⟨rfl,vX,hn,hu,hf⟩;(have q0:w2.cell? ⟨w.heap.size,0,none⟩=some (.int .i64 0):=hu.kept γ qO);(have q1:w2.cell? ⟨w.heap.size,1,none⟩=some (.int .u32 0):=hu.kept γ qO);(have f0:w2.frozen? ⟨w.heap.size,0,none⟩=false:=hu.aM (v:=.int .i64 0) γ qO γ);(have f1:w2.frozen? ⟨w.heap.size,1,none⟩=false:=hu.aM (v:=.int .u32 0) γ qO γ);(have c2:=hu.kept (hu0.was c2') hpn);(have ka2:=ka _ hu))
  |((go_at_call 72;(with_reducible refine(ka2).mono ?_));rintro e w3 ⟨rfl,hu3⟩;(have t0:=hu3.was q0);(have t1:=hu3.was q1);(have tf0:=hu3.aM q0 σ f0);(have tf1:=hu3.aM q1 σ f1);(have hrl:=Ε w3 _ t0))
  | fail)
 exact bodyPost_ret (v:=.tuple #[.agg #[.int .i64 (m:Int),.int .u32 (gm:Int)],.int .i64 0]) (by simp[results,results41,go_sem,t0,t1,hrl]) rfl ⟨rfl,HG.out _ _ hn hu hf _ ((((hu3.mono σ).setCell (Α σ) _).setCell (Α σ) _).alloc _)⟩
end
section
variable{K:NestQ}{w:World}{p:Nat}{F:List Nat}{kd d:Int}{R:AR}{A:NS}{q:Nat}
def qB(A:NS)(hh:Int):Int:=if aY A hh then(match dN A hh with|some _=>0|none=>172) else 171
def MV(A:NS)(hh:Int):Int:=match dN A hh with|some m=>(m:Int)|none=>0
def NC(R:AR)(A:NS)(hh:Int):Int:=match dN A hh with|some m=>(R.g m:Int)|none=>0
theorem Ky(h:aP K w p F kd d R A q)(hh:Int)(hb:-9223372036854775808<=hh/\hh<=9223372036854775807) :
  Calls prog 41 #[.pointer (some ⟨p,0,none⟩),.int .i64 hh] w λe w'=>e=.returned (.tuple #[.agg #[.int .i64 (MV A hh),.int .u32 (NC R A hh)],.int .i64 (qB A hh)])/\Goes F w w' (λF'=>aP K w' p F' kd d R A q):=by
 unfold MV NC qB;have hok:=h.ok.1;cases hm:dN A hh with
 |some m=>
  have hB:aY A hh=true:=by
   obtain⟨m1,m2,m3,m4⟩:=lH hm;rw[←m3];have:=iL hok m4;simpa using this
  rw[hB,Δ rfl];exact ze h hh hm
 |none=>
  cases hB:aY A hh with
  |true=>rw[Δ rfl];exact Jt h hh hB hb hm
  |false=>
   rw[Γ σ];refine(EB h hh hB).mono λe w' ⟨h1,h2⟩=>⟨h1,F,h.ag h2,h2.mono σ,λx hx=>Α hx⟩
theorem Jn(h:aP K w p F kd d R A q)(hh:Int)(hb:-9223372036854775808<=hh/\hh<=9223372036854775807)(hE:dN A hh=none) :
  Calls prog 19 #[.pointer (some ⟨p,0,none⟩),.int .i64 hh] w λe w'=>e=.returned (.tuple #[.agg #[.int .i64 0,.int .u32 0],.int .i64 0,.int .i64 (qB A hh)])/\Goes F w w' (λF'=>aP K w' p F' kd d R A q):=by
 have hu0:ae [] w (w.alloc (.cells #[.int .i64 0,.int .u32 0] 46)):=(ae.refl [] w).alloc _;have k:=Ky (h.ag hu0) hh hb;have eX:MV A hh=0:=by unfold MV;rw[hE]
 have eG:NC R A hh=0:=by unfold NC;rw[hE]
 have eE:qB A hh≠0:=by unfold qB;rw[hE];split<;>simp
 rw[eX,eG] at k;have Gq:=h.lt;have xB:w.heap.size∉F:=λe=>by have:=Gq _ e;omega
 have HG:=χ (λ(w1 w2:World) (hg:Goes F (w.alloc (.cells #[.int .i64 0,.int .u32 0] 46)) w1 (λF'=>aP K w1 p F' kd d R A q)) (hu2:ae [w.heap.size] w1 w2)=>hg.beh hu2 hu0 (λr hr=>by simp at hr;subst hr;exact⟨σ,xB,Θ _⟩));generalize qB A hh=er at *;have eb:(er != 0)=true:=by simpa using eE
 clear h hE eX eG eE Gq
 go_enter func19,ntmps19
 go_wp2_with (first
  |((go_at_call 41;(with_reducible refine(k).mono ?_));rintro e w1 ⟨rfl,hg⟩;(have hu1:ae F (w.alloc (.cells #[.int .i64 0,.int .u32 0] 46)) w1:=by obtain⟨_,_,h2,_⟩:=hg;exact h2);(have q0:w1.cell? ⟨w.heap.size,0,none⟩=some (.int .i64 0):=hu1.kept γ xB);(have q1:w1.cell? ⟨w.heap.size,1,none⟩=some (.int .u32 0):=hu1.kept γ xB);(have f0:w1.frozen? ⟨w.heap.size,0,none⟩=false:=hu1.aM (v:=.int .i64 0) γ xB γ);(have f1:w1.frozen? ⟨w.heap.size,1,none⟩=false:=hu1.aM (v:=.int .u32 0) γ xB γ);(have hrl:=Ε w1 _ q0))
  | fail)
 exact bodyPost_ret (v:=.tuple #[.agg #[.int .i64 0,.int .u32 0],.int .i64 0,.int .i64 er]) (by simp[results,results19,go_sem,q0,q1,hrl]) rfl ⟨rfl,HG.out _ _ hg ((((ae.refl _ _).setCell (Α σ) _).setCell (Α σ) _).alloc _)⟩
theorem yH(h:aP K w p F kd d R A q)(hh:Int){m:Nat}(hM:dN A hh=some m) :
  Calls prog 19 #[.pointer (some ⟨p,0,none⟩),.int .i64 hh] w λe w'=>e=.returned (.tuple #[.agg #[.int .i64 (m:Int),.int .u32 (R.g m:Int)],.int .i64 (A.c m).k,.int .i64 0])/\Goes F w w' (λF'=>aP K w' p F' kd d R A q):=by
 have hu0:ae [] w (w.alloc (.cells #[.int .i64 0,.int .u32 0] 46)):=(ae.refl [] w).alloc _;have k:=ze (h.ag hu0) hh hM;have hv:R.v m=true:=by rw[h.ok.2.2.2];exact(lH hM).2.2.2
 have Gq:=h.lt;have xB:w.heap.size∉F:=λe=>by have:=Gq _ e;omega
 have HG:=χ (λ(w1 w2:World) (hg:Goes F (w.alloc (.cells #[.int .i64 0,.int .u32 0] 46)) w1 (λF'=>aP K w1 p F' kd d R A q)) (hu2:ae [w.heap.size] w1 w2)=>hg.beh hu2 hu0 (λr hr=>by simp at hr;subst hr;exact⟨σ,xB,Θ _⟩));have ke:=λW F' (hP:aP K W p F' kd d R A q)=>oz hP m hv;clear h hv hM Gq;generalize R.g m=gm at *;generalize (A.c m).k=kk at *;generalize (A.c m).s=ss at *
 go_enter func19,ntmps19
 go_upto_region 5 with (first
  |((go_at_call 41;(with_reducible refine(k).mono ?_));rintro e w1 ⟨rfl,hg⟩;(have hu1:ae F (w.alloc (.cells #[.int .i64 0,.int .u32 0] 46)) w1:=by obtain⟨_,_,h2,_⟩:=hg;exact h2);(have q0:w1.cell? ⟨w.heap.size,0,none⟩=some (.int .i64 0):=hu1.kept γ xB);(have q1:w1.cell? ⟨w.heap.size,1,none⟩=some (.int .u32 0):=hu1.kept γ xB);(have f0:w1.frozen? ⟨w.heap.size,0,none⟩=false:=hu1.aM (v:=.int .i64 0) γ xB γ);(have f1:w1.frozen? ⟨w.heap.size,1,none⟩=false:=hu1.aM (v:=.int .u32 0) γ xB γ);(have ke2:∀W,ae [] w1 W->Calls prog 42 #[.pointer (some ⟨p,0,none⟩),.agg #[.int .i64 (m:Int),.int .u32 (gm:Int)]] W λe w'=>e=.returned (.tuple #[.agg #[.int .i64 kk,.int .u64 ss],.int .i64 0])/\ae [] W w':=by obtain⟨F1,hP1,_,_⟩:=hg;exact λW hW=>ke W F1 (hP1.ag hW)))
  |((go_at_call 42;(with_reducible refine(ke2 _ β).mono ?_));rintro e w2 ⟨rfl,hu2⟩;(have x0:w2.cell? ⟨w1.heap.size,0,none⟩=some (.int .i64 (m:Int)):=hu2.was γ);(have x1:w2.cell? ⟨w1.heap.size,1,none⟩=some (.int .u32 (gm:Int)):=hu2.was γ);(have hv2:ae [] w1 w2:=ae.trans β hu2))
  | fail)
 refine bG (λW=>W.cell? ⟨w1.heap.size,0,none⟩=some (.int .i64 (m:Int))/\W.cell? ⟨w1.heap.size,1,none⟩=some (.int .u32 (gm:Int))/\W.cell? ⟨w2.heap.size,0,none⟩=some (.int .i64 kk)/\ae [] w1 W) ⟨by have:=Ε w2 _ x0;go_simp,by have:=Ε w2 _ x1;go_simp,γ,β⟩ ?_;rintro W ⟨y0,y1,y2,hW⟩;have t0:=hW.was q0;have t1:=hW.was q1;have ZN:=hW.aM q0 σ f0;have ft1:=hW.aM q1 σ f1;have hrl:=Ε w1 _ q0;have hz2:=hv2.size;dsimp only at hrl;have hne1:¬w2.heap.size=w.heap.size:=ω;have hne2:¬w1.heap.size=w.heap.size:=ω;have hne3:¬w.heap.size=w2.heap.size:=ω;have hne4:¬w.heap.size=w1.heap.size:=ω;have HW:=χ hW
 clear hW q0 q1 f0 f1 ke2 x0 x1 hv2 hu2 ke k hu1
 go_region
 all_goals
  go_wp2;exact bodyPost_ret (v:=.tuple #[.agg #[.int .i64 (m:Int),.int .u32 (gm:Int)],.int .i64 kk,.int .i64 0]) (by simp[results,results19,go_sem,t0,t1,hne1,hne2,hne3,hne4]) rfl ⟨rfl,HG.out _ _ hg ((((HW.out.mono σ).setCell (Α σ) _).setCell (Α σ) _).drew)⟩
end
theorem Iy{w:World}{pa:Nat}{F:List Nat}{R:AR}(h:oW w pa F R):Calls prog 39 #[.pointer (some ⟨pa,0,none⟩)] w λe w'=>e=.returned (.int .i64 (R.cnt:Int))/\w'=w:=by
 obtain⟨ga,v,rfl,hM⟩:=h;have c3:=hM.c3;clear hM
 go_enter func39,ntmps39
 go_wp2;go_ret;exact⟨rfl,rfl⟩
section
variable{K:NestQ}{w:World}{p pa pn:Nat}{Fa Fn F:List Nat}{kd d:Int}{R:AR}{A:NS}{q:Nat}
theorem pY(h:aP K w p F kd d R A q):Calls prog 15 #[.pointer (some ⟨p,0,none⟩)] w λe w'=>e=.returned (.int .i64 (R.cnt:Int))/\w'=w:=by
 obtain⟨pa,pn,Fa,Fn,rfl,hM⟩:=h;have c2:=hM.c2;have k:=Iy hM.ar;clear hM
 go_enter func15,ntmps15
 go_wp2_with (first|((go_at_call 39;(with_reducible refine(k).mono ?_));rintro e w1 ⟨rfl,rfl⟩)|fail)
 go_ret;exact⟨rfl,rfl⟩
theorem O4(h:aP K w p F kd d R A q)(a b:Int)(hE:aY A a=false\/aY A b=false\/a=b) :
  Calls prog 20 #[.pointer (some ⟨p,0,none⟩),.int .i64 a,.int .i64 b] w λe w'=>e=.returned (.int .i64 (if aY A a=false\/aY A b=false then 171 else 174))/\w'=w:=by
 obtain⟨pa,pn,Fa,Fn,rfl,hM⟩:=h;have c3:=hM.c3;obtain⟨f,fv,hen,kQ⟩:=K.has a hM.nest;obtain⟨f',fv',hen',Ap⟩:=K.has b hM.nest;unfold Enters at hen hen';have hm:=(kQ w (ae.refl _ _)).1;have hc:=(kQ w (ae.refl _ _)).2;have hm':=(Ap w (ae.refl _ _)).1;have hc':=(Ap w (ae.refl _ _)).2;clear hM kQ Ap;obtain⟨rfl,rfl⟩:f=f'/\fv=fv':=by have:=hm.symm.trans hm';simpa using this
 cases ha:aY A a with
 |false=>
  rw[ha] at hc;rw[Δ (Α rfl)]
  go_enter func20,ntmps20
  go_wp2_with (first
   |((with_reducible refine(hc).mono ?_);rintro e w1 ⟨rfl,rfl⟩)
   | fail)
  go_ret;exact⟨rfl,rfl⟩
 |true=>
  rw[ha] at hc;cases hb:aY A b with
  |false=>
   rw[hb] at hc';rw[Δ (Β rfl)]
   go_enter func20,ntmps20
   go_wp2_with (first
    |((with_reducible refine(hc).mono ?_);rintro e w1 ⟨rfl,rfl⟩)
    |((with_reducible refine(hc').mono ?_);rintro e w1 ⟨rfl,rfl⟩)
    | fail)
   go_ret;exact⟨rfl,rfl⟩
  |true=>
   rw[hb] at hc';rw[Γ σ];obtain rfl:a=b:=by
    rcases hE with e|e|e
    ·rw[ha] at e;cases e
    ·rw[hb] at e;cases e
    ·exact e
   go_enter func20,ntmps20
   go_wp2_with (first
    |((with_reducible refine(hc).mono ?_);rintro e w1 ⟨rfl,rfl⟩)
    |((with_reducible refine(hc').mono ?_);rintro e w1 ⟨rfl,rfl⟩)
    | fail)
   go_ret;exact⟨rfl,rfl⟩
end
section
variable{K:NestQ}{w:World}{p:Nat}{F:List Nat}{kd d:Int}{R:AR}{A:NS}{q:Nat}
theorem LK{R:AR}{x:Nat}(hv:R.v x=true)(y:Nat):(gY R x).v y=(R.v y && !decide (y=x)):=by
 show(R.put x (R.g x,false)).v y=_
 rw[AR.Bw]
 by_cases e:y=x
 ·rw[Δ ⟨e,AR.Pk hv⟩,Ν e];simp
 ·rw[Γ (λh=>e h.1),Ξ e];simp
theorem Ww{A:NS}{x:Nat}(hx:bY A (x:Int)=true)(y:Nat):bY (bg A (x:Int)) (y:Int)=(bY A (y:Int) && !decide (y=x)):=by
 have hc:=yA hx y;have hl:=fD A (x:Int)
 by_cases e:y=x
 ·rw[Δ e] at hc;rw[Ν e];have:¬bY (bg A (x:Int)) (y:Int)=true:=λh=>by
   have:=(aj _ _).1 h;rw[hc] at this;exact absurd this.2 (by simp[Cl.z])
  simpa using this
 ·rw[Γ e] at hc;rw[Ξ e];have e1:bY (bg A (x:Int)) (y:Int)=true↔bY A (y:Int)=true:=by rw[aj,aj,hl,hc]
  cases h1:bY (bg A (x:Int)) (y:Int)<;>cases h2:bY A (y:Int)<;>simp_all
theorem Qc(R:AR)(x:Nat):(gY R x).sl.length=R.sl.length:=by show(R.put x _).sl.length=_;rw[AR.jP]
theorem UC(h:aP K w p F kd d R A q)(hh:Int)(hb:-9223372036854775808<=hh/\hh<=9223372036854775807)(hE:dN A hh=none) :
  Calls prog 22 #[.pointer (some ⟨p,0,none⟩),.int .i64 hh] w λe w'=>e=.returned (.tuple #[.agg #[.int .i64 0,.int .u32 0],.int .i64 0,.int .i64 (qB A hh)])/\Goes F w w' (λF'=>aP K w' p F' kd d R A q):=by
 have hu0:ae [] w (w.alloc (.cells #[.int .i64 0,.int .u32 0] 46)):=(ae.refl [] w).alloc _;have k:=Jn (h.ag hu0) hh hb hE;have eE:qB A hh≠0:=by unfold qB;rw[hE];split<;>simp
 have Gq:=h.lt;have xB:w.heap.size∉F:=λe=>by have:=Gq _ e;omega
 have HG:=χ (λ(w1 w2:World) (hg:Goes F (w.alloc (.cells #[.int .i64 0,.int .u32 0] 46)) w1 (λF'=>aP K w1 p F' kd d R A q)) (hu2:ae [w.heap.size] w1 w2)=>hg.beh hu2 hu0 (λr hr=>by simp at hr;subst hr;exact⟨σ,xB,Θ _⟩));generalize qB A hh=er at *;have eb:(er != 0)=true:=by simpa using eE
 clear h hE eE Gq
 go_enter func22,ntmps22
 go_wp2_with (first
  |((go_at_call 19;(with_reducible refine(k).mono ?_));rintro e w1 ⟨rfl,hg⟩;(have hu1:ae F (w.alloc (.cells #[.int .i64 0,.int .u32 0] 46)) w1:=by obtain⟨_,_,h2,_⟩:=hg;exact h2);(have q0:w1.cell? ⟨w.heap.size,0,none⟩=some (.int .i64 0):=hu1.kept γ xB);(have q1:w1.cell? ⟨w.heap.size,1,none⟩=some (.int .u32 0):=hu1.kept γ xB);(have f0:w1.frozen? ⟨w.heap.size,0,none⟩=false:=hu1.aM (v:=.int .i64 0) γ xB γ);(have f1:w1.frozen? ⟨w.heap.size,1,none⟩=false:=hu1.aM (v:=.int .u32 0) γ xB γ);(have hrl:=Ε w1 _ q0))
  | fail)
 exact bodyPost_ret (v:=.tuple #[.agg #[.int .i64 0,.int .u32 0],.int .i64 0,.int .i64 er]) (by simp[results,results22,go_sem,q0,q1,hrl]) rfl ⟨rfl,HG.out _ _ hg ((((ae.refl _ _).setCell (Α σ) _).setCell (Α σ) _).alloc _)⟩
theorem aP.out{kd d:Int}{m:Nat}{w1:World}{pa pn:Nat}{Fa Fn:List Nat}(h:Cy K w p pa pn Fa Fn kd d R A q)(hm:bY A (m:Int)=true){vX:List Nat}(hn:K.at_ w1 pn vX (bg A m))(hu:ae Fn w w1)(hf:∀x,x∈vX->x∈Fn\/w.heap.size<=x)
  {w2 w3:World} (hu2:ae [] w1 w2) {MG:List Nat} (ha:oW w3 pa MG (gY R m)) (hu3:ae Fa w2 w3) (hf3:∀x,x∈MG->x∈Fa\/w2.heap.size<=x):Goes (p::(Fa++Fn)) w w3 (λF'=>aP K w3 p F' kd d (gY R m) (bg A m) q):=by
 have hA:=h.ar.lt;have hN1:=K.lt hn;have hs12:=hu2.size;have hs01:=hu.size;have hv:R.v m=true:=by rw[h.link];exact hm
 have hpl:=h.head.lt;have hnn:∀x,x∈Fa->x∉vX:=λx hx e=>by rcases hf x e with e|e;exact h.s3 x hx e;have:=hA x hx;omega
 refine⟨p::(MG++vX),⟨pa,pn,MG,vX,rfl,⟨((h.head.upd hu h.s2).upd hu2 σ).upd hu3 h.s1,ha,K.upd (K.upd hn hu2 σ) hu3 hnn,λe=>?_,λe=>?_,λx h1 h2=>?_,?_,λy=>?_⟩⟩,?_,λx hx=>?_⟩
 ·rcases hf3 _ e with e|e
  ·exact h.s1 e
  ·omega
 ·rcases hf _ e with e|e
  ·exact h.s2 e
  ·omega
 ·rcases hf3 x h1 with e|e
  ·exact hnn x e h2
  ·have:=hN1 x h2;omega
 ·rw[Qc,fD];exact h.len
 ·rw[LK hv,Ww hm,h.link]
 ·exact((hu.mono (λx hx=>by simp[hx])).trans (hu2.mono σ)).trans (hu3.mono (λx hx=>by simp[hx]))
 ·simp only[ρ,τ] at hx ⊢;rcases hx with hx|hx|hx
  ·exact Α (Α hx)
  ·rcases hf3 x hx with e|e
   ·exact Α (Β (Α e))
   ·exact Β ω
  ·rcases hf x hx with e|e
   ·exact Α (Β (Β e))
   ·exact Β e
end
section
variable{K:NestQ}{w:World}{p:Nat}{F:List Nat}{kd d:Int}{R:AR}{A:NS}{q:Nat}
theorem Goes.chain{F G S:List Nat}{w W w2 w3:World}{R':AR}{A':NS}{q':Nat}(h1:ae F w W)(hf:∀x,x∈G->x∈F\/w.heap.size<=x)(h2:Goes G W w2 (λF'=>aP K w2 p F' kd d R' A' q'))(hr:ae S w2 w3)(hS:∀r,r∈S->r∉G/\r<W.heap.size/\w.heap.size<=r) :
  Goes F w w3 (λF'=>aP K w3 p F' kd d R' A' q'):=by
 obtain⟨F2,hP,hu,hf2⟩:=h2;have hs:=h1.size;refine⟨F2,hP.upd hr (λr hr hm=>?_),(h1.joined hu hf).joined hr (λr hr=>Β (hS r hr).2.2),λx hx=>?_⟩
 ·rcases hf2 r hm with e|e
  ·exact(hS r hr).1 e
  ·have:=(hS r hr).2.1;omega
 ·rcases hf2 x hx with e|e
  ·exact hf x e
  ·exact Β (Χ hs e)
theorem Ow(h:aP K w p F kd d R A q)(hh:Int){m:Nat}(hM:dN A hh=some m) :
  Calls prog 22 #[.pointer (some ⟨p,0,none⟩),.int .i64 hh] w λe w'=>e=.returned (.tuple #[.agg #[.int .i64 (m:Int),.int .u32 (R.g m:Int)],.int .i64 (A.c m).k,.int .i64 0])/\Goes F w w' (λF'=>aP K w' p F' kd d (gY R m) (bg A m) q):=by
 obtain⟨hh,rfl⟩:∃n:Nat,hh=n:=⟨hh.toNat,by have:=(lH hM).1;omega⟩;have hu0:ae [] w (w.alloc (.cells #[.int .i64 0,.int .u32 0] 46)):=(ae.refl [] w).alloc _;have k:=yH (h.ag hu0) hh hM;have hin:=(lH hM).2.2.2;have hv:R.v m=true:=by rw[h.ok.2.2.2];exact hin
 have hb:-9223372036854775808<=(hh:Int)/\(hh:Int)<=9223372036854775807:=by
  obtain⟨m1,m2,m3,m4⟩:=lH hM;have:=iL h.ok.1 m4;have h4:=(aC _ _).1 this;have h5:=h.ok.1.h1;rw[show((m:Nat):Int).toNat=m by omega,m3] at h4;omega
 have hex:sH A hh=bg A m:=by unfold sH;rw[hM]
 have Gq:=h.lt;have xB:w.heap.size∉F:=λe=>by have:=Gq _ e;omega
 have HS:=χ (ψ hin (ψ hv (ψ hb (ψ hex hM))));clear h hM hin hv hb hex;generalize hgm:R.g m=gm at *;generalize (A.c m).k=kk at *;have HGM:=χ hgm;clear hgm
 go_enter func22,ntmps22
 go_upto_region 4 with (first
  |((go_at_call 19;(with_reducible refine(k).mono ?_));rintro e w1 ⟨rfl,hg⟩;(have hu1:ae F (w.alloc (.cells #[.int .i64 0,.int .u32 0] 46)) w1:=by obtain⟨_,_,h2,_⟩:=hg;exact h2);(have q0:w1.cell? ⟨w.heap.size,0,none⟩=some (.int .i64 0):=hu1.kept γ xB);(have q1:w1.cell? ⟨w.heap.size,1,none⟩=some (.int .u32 0):=hu1.kept γ xB);(have f0:w1.frozen? ⟨w.heap.size,0,none⟩=false:=hu1.aM (v:=.int .i64 0) γ xB γ);(have f1:w1.frozen? ⟨w.heap.size,1,none⟩=false:=hu1.aM (v:=.int .u32 0) γ xB γ);(have hrl:=Ε w1 _ q0))
  | fail)
 refine bG (λW=>W.cell? ⟨w1.heap.size,0,none⟩=some (.int .i64 (m:Int))/\W.cell? ⟨w1.heap.size,1,none⟩=some (.int .u32 (gm:Int))/\ae [] w1 W) ⟨γ,γ,β⟩ ?_;rintro W ⟨y0,y1,hW⟩;obtain⟨F1,⟨pa,pn,Fa,Fn,rfl,hP1⟩,hu1',hf1⟩:=hg;have hP:=hP1.upd hW σ;have c2:=hP.c2;have c3:=hP.c3;have hPl:=hP1.lt;have Zy:w.heap.size∉p::(Fa++Fn):=λe=>by rcases hf1 _ e with e|e;exact xB e;simp at e;omega
 have hxF1:w1.heap.size∉p::(Fa++Fn):=λe=>by have:=hPl _ e;omega
 obtain⟨f,fv,hen,kQ⟩:=K.extract hh m HS.out.2.2.2.2 hP.nest;unfold Enters at hen;have hm:=(kQ _ (ae.refl _ _)).1;have hc:=(kQ _ (ae.refl _ _)).2;have t0:=hW.was q0;have t1:=hW.was q1;have ZN:=hW.aM q0 σ f0;have ft1:=hW.aM q1 σ f1;have qO:w.heap.size∉Fn:=λe=>Zy (by simp[e]);have I5:w1.heap.size∉Fn:=λe=>hxF1 (by simp[e]);have aae:=hP.s2;have Xn:w.heap.size∉Fa:=λe=>Zy (by simp[e]);have hxFa:w1.heap.size∉Fa:=λe=>hxF1 (by simp[e]);have HZ:=χ (ψ hP (ψ hu1 (ψ hW (ψ hf1 hP1))))
 have ka:∀(w5:World) (bW:ae Fn W w5) (X:World) (hX:ae [] w5 X),Calls prog 43 #[.pointer (some ⟨pa,0,none⟩),.agg #[.int .i64 (m:Int),.int .u32 (gm:Int)]] X λe w'=>e=.returned (.int .i64 0)/\Goes Fa X w' (λF'=>oW w' pa F' (gY R m)):=λw5 bW X hX=>by
  have:=Bo ((hP.ar.upd bW (λx hx hm=>hP.s3 x hm hx)).upd hX σ) m HS.out.2.1;rw[HGM.out] at this;exact this
 clear kQ hP hu1 hW hu1' hf1 hP1 q0 q1 f0 f1 hPl Gq xB k
 go_upto_region 5 with (first
  |((with_reducible refine(hc).mono ?_);rintro e w5 ⟨rfl,vX,Jy,bW,Sv⟩;(have z0:=bW.kept y0 I5);(have z1:=bW.kept y1 I5);(have z2:=bW.kept c2 aae);(have s0:=bW.kept t0 qO);(have s1:=bW.kept t1 qO);(have sf0:=bW.aM t0 qO ZN);(have sf1:=bW.aM t1 qO ft1))
  | fail)
 have ka5:=ka w5 bW w5.drew ((ae.refl _ _).drew);clear ka
 go_region_law
  (first
   | (go_simp;go_at_call 43;(with_reducible refine (ka5).mono ?_);rintro e w6 ⟨rfl,MG,ha6,iX,hf6⟩;(have v0:=iX.kept z0 hxFa);(have v1:=iX.kept z1 hxFa);(have r0:=iX.kept s0 Xn);(have r1:=iX.kept s1 Xn);(have rf0:=iX.aM s0 Xn sf0);(have rf1:=iX.aM s1 Xn sf1)))
 all_goals
  go_wp2;obtain⟨hP,hu1,hW,hf1,hP1⟩:=HZ.out;have Ik:=hW.size;have hUF:ae F w W:=(ae.trans ((ae.refl _ _).alloc _) hu1).trans (hW.mono σ);refine bodyPost_ret (v:=.tuple #[.agg #[.int .i64 (m:Int),.int .u32 (gm:Int)],.int .i64 kk,.int .i64 0]) (by simp[results,results22,go_sem,r0,r1]) rfl ⟨rfl,?_⟩;exact Goes.chain hUF (λx hx=>by rcases hf1 x hx with e|e;exact Α e;simp at e;exact Β ω) (aP.out hP HS.out.1 Jy bW Sv ((ae.refl _ _).drew) ha6 iX hf6) (S:=[w.heap.size]) (((ae.refl _ _).setCell (Α σ) _).setCell (Α σ) _) (λr hr=>by simp at hr;subst hr;exact⟨Zy,ω,Θ _⟩)
end
section
variable{K:NestQ}{w:World}{p:Nat}{F:List Nat}{kd d:Int}{R:AR}{A:NS}{q:Nat}
theorem Rh{A:NS}{x:Nat}{k s:Int}(y:Nat):bY (aA A (x:Int) k s) (y:Int)=bY A (y:Int):=by
 by_cases hB:jf A (x:Int) k s=true
 ·have hin:=ry hB;have hx:=(aj _ _).1 hin;have hi:=iH hB hx.1 y;have hl:=gD A (x:Int) k s;have e:bY (aA A (x:Int) k s) (y:Int)=true↔bY A (y:Int)=true:=by rw[aj,aj,hl,hi]
  cases h1:bY (aA A (x:Int) k s) (y:Int)<;>cases h2:bY A (y:Int)<;>simp_all
 ·unfold aA;rw[Γ hB]
theorem VV{A:NS}{x:Nat}{k:Int}(hin:bY A (x:Int)=true)(hk:k<=(A.c x).k):jf A (x:Int) k (A.c x).s=true:=by
 unfold jf Ee;rw[hin,show((x:Nat):Int).toNat=x by omega]
 split
 ·simp
 ·simp;omega
theorem UA(h:aP K w p F kd d R A q)(x:Nat)(k:Int)(hv:R.v x=true)(hk:k<=(A.c x).k)(hkb:-9223372036854775808<=k) :
  Calls prog 31 #[.pointer (some ⟨p,0,none⟩),.agg #[.int .i64 (x:Int),.int .u32 (R.g x:Int)],.int .i64 k] w λe w'=>e=.returned (.int .i64 0)/\Goes F w w' (λF'=>aP K w' p F' kd d R (aA A (x:Int) k (A.c x).s) q):=by
 have hin:bY A (x:Int)=true:=by rw[←h.ok.2.2.2];exact hv
 have hkey:=h.ok.1.key x;have hac:-9223372036854775808<=k/\k<=9223372036854775807/\0<=(A.c x).s/\(A.c x).s<=18446744073709551615:=ω;have ke:=λW (hW:ae [] w W)=>oz (h.ag hW) x hv;have hlow:=VV hin hk;have HL:=χ (ψ hlow (λy=>Rh (A:=A) (x:=x) (k:=k) (s:=(A.c x).s) y));have Gq:=h.lt;obtain⟨pa,pn,Fa,Fn,rfl,h⟩:=h;have c3:=h.c3;have HH:=χ (ψ h hac);have hgt:decide (k > (A.c x).k)=false:=ζ;clear h hv hin hac hlow hkey;generalize hkk:(A.c x).k=kk at *;generalize hss:(A.c x).s=ss at *;generalize R.g x=gx at *;clear hkk hss hk
 go_enter func31,ntmps31
 go_upto_region 6 with (first
  |((go_at_call 42;(with_reducible refine(ke _ β).mono ?_));rintro e w1 ⟨rfl,hu1⟩;(have x0:w1.cell? ⟨w.heap.size,0,none⟩=some (.int .i64 (x:Int)):=hu1.was γ);(have hw1:ae [] w w1:=ae.trans β hu1))
  | fail)
 have hxl:=Ε w1 _ x0;refine bG (λW=>W.cell? ⟨w.heap.size,0,none⟩=some (.int .i64 (x:Int))/\W.cell? ⟨w1.heap.size,1,none⟩=some (.int .u64 ss)/\ae [] w W) ⟨γ,γ,by have:=hw1;exact β⟩ ?_;rintro W ⟨y0,y1,hW⟩;have z3:=hW.was c3;have hN:=K.upd HH.out.1.nest hW σ;obtain⟨f,fv,hen,kQ⟩:=K.mJ x k ss HH.out.2 HL.out.1 hN;unfold Enters at hen;have hm:=(kQ W.drew ((ae.refl _ _).drew)).1;have hc:=(kQ W.drew ((ae.refl _ _).drew)).2;have HZ:=χ hW;clear hW hN kQ x0 hw1 hu1 hxl ke c3
 go_region_law
  (first
   | (go_simp;(with_reducible refine (hc).mono ?_);rintro e w5 ⟨rfl,F5,ZK,bW,QO⟩))
 all_goals
  go_wp2;go_ret;have hPW:=HH.out.1.upd HZ.out σ;have rT:ae Fn W w5:=((ae.refl Fn W).drew).trans bW;refine⟨rfl,Goes.after ?_ HZ.out⟩;refine⟨p::(Fa++F5),⟨pa,pn,Fa,F5,rfl,hPW.NN ZK rT QO (gD _ _ _ _) (hPW.ar.upd rT (λz hz hm=>hPW.s3 z hm hz)) rfl (λy=>by rw[HL.out.2];exact hPW.link y)⟩,rT.mono (λz hz=>by simp[hz]),λz hz=>?_⟩;simp only[ρ,τ] at hz ⊢;rcases hz with hz|hz|hz
  ·exact Α (Α hz)
  ·exact Α (Β (Α hz))
  ·rcases QO z hz with e|e
   ·exact Α (Β (Β e))
   ·exact Β e
end
theorem WG{A:NS}{a b:Int}(hj:gJ A a b=true)(y:Nat):bY (az A a b) (y:Int)=bY A (y:Int):=by
 have h1:=(dG _ _ _).1 hj;have ha:=(aC _ _).1 h1.1;have hb:=(aC _ _).1 h1.2.1;have e:bY (az A a b) (y:Int)=true↔bY A (y:Int)=true:=by
  rw[aj,aj,eY,xO hj]
  split
  ·rename_i h
   dsimp only;omega
  ·exact Iff.rfl
 cases h:bY A (y:Int) with
 |true=>exact e.2 h
 |false=>
  cases h2:bY (az A a b) (y:Int) with
  |false=>rfl
  |true=>rw[e.1 h2] at h;cases h
section
variable{K:jZ}{w:World}{p pa pn:Nat}{Fa Fn F:List Nat}{kd d:Int}{R:AR}{A:NS}{q:Nat}
theorem Sy(h:aP K.toNestQ w p F kd d R A q)(x:Int)(hx:-9223372036854775808<=x/\x<=9223372036854775807) :
  Calls prog 32 #[.pointer (some ⟨p,0,none⟩),.int .i64 x] w λe w'=>e=.returned (.tuple #[.int .i64 (if aY A x=true then(dD A x:Int) else 0),.int .i64 (if aY A x=true then 0 else 171)])/\w'=w:=by
 obtain⟨pa,pn,Fa,Fn,rfl,hM⟩:=h;have c3:=hM.c3;obtain⟨f,fv,hen,kQ⟩:=K.has x hM.nest;obtain⟨f',fv',hen',Ap⟩:=K.len x hx hM.nest;unfold Enters at hen hen';have hm:=(kQ w (ae.refl _ _)).1;have hc:=(kQ w (ae.refl _ _)).2;have hm':=(Ap w (ae.refl _ _)).1;have hc':=(Ap w (ae.refl _ _)).2;clear hM kQ Ap hx;cases hh:aY A x with
 |false=>
  rw[hh] at hc;rw[Γ σ,Γ σ]
  go_enter func32,ntmps32
  go_wp2_with (first|((with_reducible refine(hc).mono ?_);rintro e w1 ⟨rfl,rfl⟩)|fail)
  go_ret2;exact⟨rfl,rfl⟩
 |true=>
  rw[hh] at hc;rw[Δ rfl,Δ rfl]
  go_enter func32,ntmps32
  go_wp2_with (first|((with_reducible refine(hc).mono ?_);rintro e w1 ⟨rfl,rfl⟩)|((with_reducible refine(hc').mono ?_);rintro e w1 ⟨rfl,rfl⟩)|fail)
  go_ret2;exact⟨rfl,rfl⟩
theorem Cy.ab1(h:Cy K.toNestQ w p pa pn Fa Fn kd d R A q){w':World}{A':NS}(hg:Goes Fn w w' (λF'=>K.at_ w' pn F' A'))(hl:A'.cs.length=A.cs.length)(hk:∀x:Nat,bY A' (x:Int)=bY A (x:Int)):Goes (p::(Fa++Fn)) w w' (λF'=>aP K.toNestQ w' p F' kd d R A' q):=by
 obtain⟨F5,ZK,bW,QO⟩:=hg;refine⟨p::(Fa++F5),⟨pa,pn,Fa,F5,rfl,h.NN ZK bW QO hl (h.ar.upd bW (λz hz hm=>h.s3 z hm hz)) rfl (λy=>by rw[hk];exact h.link y)⟩,bW.mono (λz hz=>by simp[hz]),λz hz=>?_⟩;simp only[ρ,τ] at hz ⊢;rcases hz with hz|hz|hz
 ·exact Α (Α hz)
 ·exact Α (Β (Α hz))
 ·rcases QO z hz with e|e
  ·exact Α (Β (Β e))
  ·exact Β e
theorem OH(h:aP K.toNestQ w p F kd d R A q)(a b:Nat)(hB:gJ A a b=true) :
  Calls prog 20 #[.pointer (some ⟨p,0,none⟩),.int .i64 (a:Int),.int .i64 (b:Int)] w λe w'=>e=.returned (.int .i64 0)/\Goes F w w' (λF'=>aP K.toNestQ w' p F' kd d R (az A a b) q):=by
 obtain⟨pa,pn,Fa,Fn,rfl,hM⟩:=h;have c3:=hM.c3;have hJ:=(dG _ _ _).1 hB;obtain⟨f,fv,hen,kQ⟩:=K.has (a:Int) hM.nest;obtain⟨f',fv',hen',Ap⟩:=K.has (b:Int) hM.nest;obtain⟨f2,Og,Mr,wF⟩:=K.Ab a b hB hM.nest;unfold Enters at hen hen' Mr;have hm:=(kQ w (ae.refl _ _)).1;have hc:=(kQ w (ae.refl _ _)).2;have hm':=(Ap w (ae.refl _ _)).1;have hc':=(Ap w (ae.refl _ _)).2;have hm2:=(wF w (ae.refl _ _)).1;have hc2:=(wF w (ae.refl _ _)).2;rw[hJ.1] at hc;rw[hJ.2.1] at hc';have hab:((a:Int) == (b:Int))=false:=by have:=hJ.2.2;simpa using this
 have HG:=χ (λw' (hg:Goes Fn w w' (λF'=>K.at_ w' pn F' (az A a b)))=>hM.ab1 hg (eY _ _ _) (λx=>WG hB x));clear hM kQ Ap wF hJ hB;obtain⟨rfl,rfl⟩:f=f'/\fv=fv':=by have:=hm.symm.trans hm';simpa using this
 go_enter func20,ntmps20
 go_wp2_with (first
  |((with_reducible refine(hc).mono ?_);rintro e w1 ⟨rfl,rfl⟩)
  |((with_reducible refine(hc').mono ?_);rintro e w1 ⟨rfl,rfl⟩)
  |((with_reducible refine(hc2).mono ?_);rintro e w1 ⟨rfl,hg⟩)
  | fail)
 go_ret;exact⟨rfl,HG.out _ hg⟩
theorem yO(h:aP K.toNestQ w p F kd d R A q)(x g:Int)(hg:0<=g/\g<=4294967295)(hl:iO R x g=false) :
  Calls prog 42 #[.pointer (some ⟨p,0,none⟩),.agg #[.int .i64 x,.int .u32 g]] w λe w'=>e=.returned (.tuple #[.agg #[.int .i64 0,.int .u64 0],.int .i64 33])/\ae [] w w':=by
 obtain⟨pa,pn,Fa,Fn,rfl,h⟩:=h;have kl:=λW (hW:ae [] w W)=>oI (h.ar.upd hW σ) x g hg;rw[hl] at kl;have c2':=h.c2;clear h hl
 go_enter func42,ntmps42
 go_upto_region 1 with(fail)
 refine bG (λW=>W.cell? ⟨w.heap.size,0,none⟩=some (.int .i64 x)/\W.cell? ⟨w.heap.size,1,none⟩=some (.int .u32 g)/\W.cell? ⟨w.heap.size+1,0,none⟩=some (.int .i64 0)/\W.cell? ⟨w.heap.size+1,1,none⟩=some (.int .u64 0)/\W.frozen? ⟨w.heap.size+1,0,none⟩=false/\W.frozen? ⟨w.heap.size+1,1,none⟩=false/\ae [] w W) ⟨γ,γ,γ,γ,γ,γ,β⟩ ?_;rintro W ⟨x0,x1,r0,r1,MJ,JS,hu⟩;have JW:=λX (hX:ae [] W X)=>kl X (hu.trans hX);have e0:∀X,ae [] W X->X.cell? ⟨w.heap.size,0,none⟩=some (.int .i64 x):=λX h=>h.was x0;have e1:∀X,ae [] W X->X.cell? ⟨w.heap.size,1,none⟩=some (.int .u32 g):=λX h=>h.was x1
 have e2:∀X,ae [] W X->X.cell? ⟨p,2,none⟩=some (.pointer (some ⟨pa,0,none⟩)):=λX h=>h.was (hu.was c2');have HU:=χ (ψ hu (ψ x0 (ψ r0 (ψ r1 (ψ MJ JS)))));clear hu x0 x1 r0 r1 MJ JS kl c2'
 go_region_held3 (ae [] W) (exact ν)
  (first
   | ((go_at_call 73;(with_reducible refine (JW _ ν).mono ?_));rintro e w1 ⟨rfl,hu1⟩;(have hv1:ae [] W w1:=ae.trans ν hu1)))
 go_upto_region 2 with(fail)
 obtain⟨hu,x0,r0,r1,MJ,JS⟩:=HU.out;refine bG (λX=>ae [] W X) β ?_;intro X hX;have t0:=hX.was r0;have t1:=hX.was r1;have ZN:=hX.aM r0 σ MJ;have ft1:=hX.aM r1 σ JS;have yF:=hu.trans hX;clear hu x0 r0 r1 MJ JS hX JW e0 e1 e2 HU;go_wp2;exact bodyPost_ret (v:=.tuple #[.agg #[.int .i64 0,.int .u64 0],.int .i64 33]) (by simp[results,results42,go_sem,t0,t1]) rfl ⟨rfl,ν⟩
end
section
variable{K:jZ}{w:World}{p pa pn:Nat}{Fa Fn F:List Nat}{kd d:Int}{R:AR}{A:NS}{q:Nat}
theorem Gx{x:Nat}(hv:R.v x=true):iO R (x:Int) (R.g x:Int)=true:=by
 have hx:=AR.Pk hv;unfold iO;rw[show((x:Nat):Int).toNat=x by omega,hv,Ν (ω:(0:Int)<=x),Ν (ω:(x:Int)<R.sl.length)];simp
theorem vC{x g:Int}(h:iO R x g=true):∃y:Nat,x=y/\g=(R.g y:Int)/\R.v y=true:=by
 unfold iO at h;simp at h;obtain⟨⟨⟨h1,h2⟩,h3⟩,h4⟩:=h;exact⟨x.toNat,ω,ω,h4⟩
theorem Ti(h:aP K.toNestQ w p F kd d R A q)(x:Nat)(hv:R.v x=true) :
  Calls prog 30 #[.pointer (some ⟨p,0,none⟩),.agg #[.int .i64 (x:Int),.int .u32 (R.g x:Int)]] w λe w'=>e=.returned (.tuple #[.int .i64 (A.c x).k,.int .i64 0])/\ae [] w w':=by
 have ke:=λW (hW:ae [] w W)=>oz (h.ag hW) x hv;clear h hv;generalize R.g x=gx at *;generalize A.c x=cx at *
 go_enter func30,ntmps30
 go_wp2_with (first
  |((go_at_call 42;(with_reducible refine(ke _ β).mono ?_));rintro e w1 ⟨rfl,hu1⟩;(have hw1:ae [] w w1:=ae.trans β hu1))
  | fail)
 go_ret2;exact⟨rfl,hw1.trans ((ae.refl _ _).alloc _)⟩
theorem Wl(h:aP K.toNestQ w p F kd d R A q)(x g:Int)(hg:0<=g/\g<=4294967295)(hl:iO R x g=false) :
  Calls prog 30 #[.pointer (some ⟨p,0,none⟩),.agg #[.int .i64 x,.int .u32 g]] w λe w'=>e=.returned (.tuple #[.int .i64 0,.int .i64 33])/\ae [] w w':=by
 have ke:=λW (hW:ae [] w W)=>yO (h.ag hW) x g hg hl;clear h hl
 go_enter func30,ntmps30
 go_wp2_with (first
  |((go_at_call 42;(with_reducible refine(ke _ β).mono ?_));rintro e w1 ⟨rfl,hu1⟩;(have hw1:ae [] w w1:=ae.trans β hu1))
  | fail)
 go_ret2;exact⟨rfl,hw1.trans ((ae.refl _ _).alloc _)⟩
theorem X0(h:aP K.toNestQ w p F kd d R A q)(x g k:Int)(hg:0<=g/\g<=4294967295)(hl:iO R x g=false) :
  Calls prog 31 #[.pointer (some ⟨p,0,none⟩),.agg #[.int .i64 x,.int .u32 g],.int .i64 k] w λe w'=>e=.returned (.int .i64 33)/\ae [] w w':=by
 have ke:=λW (hW:ae [] w W)=>yO (h.ag hW) x g hg hl;clear h hl
 go_enter func31,ntmps31
 go_wp2_with (first
  |((go_at_call 42;(with_reducible refine(ke _ β).mono ?_));rintro e w1 ⟨rfl,hu1⟩;(have hw1:ae [] w w1:=ae.trans β hu1))
  | fail)
 go_ret;exact⟨rfl,hw1.trans ((ae.refl _ _).alloc _)⟩
theorem Xz(h:aP K.toNestQ w p F kd d R A q)(x:Nat)(k:Int)(hv:R.v x=true)(hk:(A.c x).k<k) :
  Calls prog 31 #[.pointer (some ⟨p,0,none⟩),.agg #[.int .i64 (x:Int),.int .u32 (R.g x:Int)],.int .i64 k] w λe w'=>e=.returned (.int .i64 173)/\ae [] w w':=by
 have ke:=λW (hW:ae [] w W)=>oz (h.ag hW) x hv;clear h hv;generalize R.g x=gx at *;generalize (A.c x).k=ck at *;generalize (A.c x).s=cs at *
 go_enter func31,ntmps31
 go_wp2_with (first
  |((go_at_call 42;(with_reducible refine(ke _ β).mono ?_));rintro e w1 ⟨rfl,hu1⟩;(have hw1:ae [] w w1:=ae.trans β hu1))
  | fail)
 go_ret;exact⟨rfl,hw1.trans ((ae.refl _ _).alloc _)⟩
theorem V8(h:aP K.toNestQ w p F kd d R A q)(x g:Int)(hg:0<=g/\g<=4294967295)(hl:iO R x g=false) :
  Calls prog 44 #[.pointer (some ⟨p,0,none⟩),.agg #[.int .i64 x,.int .u32 g]] w λe w'=>e=.returned (.tuple #[.int .i64 0,.int .i64 33])/\ae [] w w':=by
 have ke:=λW (hW:ae [] w W)=>yO (h.ag hW) x g hg hl;clear h hl
 go_enter func44,ntmps44
 go_wp2_with (first
  |((go_at_call 42;(with_reducible refine(ke _ β).mono ?_));rintro e w1 ⟨rfl,hu1⟩;(have hw1:ae [] w w1:=ae.trans β hu1))
  | fail)
 go_ret2;exact⟨rfl,hw1.trans ((ae.refl _ _).alloc _)⟩
theorem TW(h:aP K.toNestQ w p F kd d R A q)(x:Nat)(hv:R.v x=true) :
  Calls prog 44 #[.pointer (some ⟨p,0,none⟩),.agg #[.int .i64 (x:Int),.int .u32 (R.g x:Int)]] w λe w'=>e=.returned (.tuple #[.int .i64 (A.c x).k,.int .i64 0])/\Goes F w w' (λF'=>aP K.toNestQ w' p F' kd d (gY R x) (bg A x) q):=by
 have ke:=λW (hW:ae [] w W)=>oz (h.ag hW) x hv;have hin:bY A (x:Int)=true:=by rw[←h.ok.2.2.2];exact hv
 have Gq:=h.lt;obtain⟨pa,pn,Fa,Fn,rfl,h⟩:=h;have c2:=h.c2;have c3:=h.c3;have HS:=χ (ψ h (ψ hin hv));clear h hv hin;generalize hgx:R.g x=gx at *;have HGM:=χ hgx;clear hgx;generalize (A.c x).k=ck at *;generalize (A.c x).s=cs at *
 go_enter func44,ntmps44
 go_upto_region 4 with (first
  |((go_at_call 42;(with_reducible refine(ke _ β).mono ?_));rintro e w1 ⟨rfl,hu1⟩;(have x0:w1.cell? ⟨w.heap.size,0,none⟩=some (.int .i64 (x:Int)):=hu1.was γ);(have x1:w1.cell? ⟨w.heap.size,1,none⟩=some (.int .u32 (gx:Int)):=hu1.was γ);(have hw1:ae [] w w1:=ae.trans β hu1))
  | fail)
 have hxl:=Ε w1 _ x0;refine bG (λW=>W.cell? ⟨w.heap.size,0,none⟩=some (.int .i64 (x:Int))/\W.cell? ⟨w.heap.size,1,none⟩=some (.int .u32 (gx:Int))/\W.cell? ⟨w1.heap.size,0,none⟩=some (.int .i64 ck)/\ae [] w W) ⟨γ,γ,γ,hw1.trans ((ae.refl _ _).alloc _)⟩ ?_;rintro W ⟨y0,y1,y2,hW⟩;have hs1:=hw1.size;have z2:=hW.was c2;have z3:=hW.was c3;have hP:=HS.out.1.upd hW σ;obtain⟨f,fv,hen,kQ⟩:=K.delete x HS.out.2.1 hP.nest;unfold Enters at hen;have hm:=(kQ W.drew ((ae.refl _ _).drew)).1;have hc:=(kQ W.drew ((ae.refl _ _).drew)).2;have hxF:w.heap.size∉p::(Fa++Fn):=λe=>by have:=Gq _ e;omega
 have hyF:w1.heap.size∉p::(Fa++Fn):=λe=>by have:=Gq _ e;omega
 have I5:w.heap.size∉Fn:=λe=>hxF (by simp[e]);have hyFn:w1.heap.size∉Fn:=λe=>hyF (by simp[e]);have hyFa:w1.heap.size∉Fa:=λe=>hyF (by simp[e]);have aae:=hP.s2;have ka:∀(w5:World) (bW:ae Fn W w5) (X:World) (hX:ae [] w5 X),Calls prog 43 #[.pointer (some ⟨pa,0,none⟩),.agg #[.int .i64 (x:Int),.int .u32 (gx:Int)]] X λe w'=>e=.returned (.int .i64 0)/\Goes Fa X w' (λF'=>oW w' pa F' (gY R x)):=λw5 bW X hX=>by
  have:=Bo ((hP.ar.upd bW (λx hx hm=>hP.s3 x hm hx)).upd hX σ) x HS.out.2.2;rw[HGM.out] at this;exact this
 have HZ:=χ (ψ hP hW);clear hP hW kQ x0 x1 hw1 hu1 hxl ke c2 c3 Gq hs1
 go_region_law
  (first
   | (go_simp;(with_reducible refine (hc).mono ?_);rintro e w5 ⟨rfl,vX,Jy,pW,Sv⟩;(have bW:ae Fn W w5:=((ae.refl Fn W).drew).trans pW);(have v0:=bW.kept y0 I5);(have v1:=bW.kept y1 I5);(have v2:=bW.kept y2 hyFn);(have v3:=bW.kept z2 aae)))
 all_goals
  have ka5:=ka w5 bW w5.drew ((ae.refl _ _).drew);clear ka
  go_upto_region 5 with(fail)
  go_region_law
   (first
    | (go_simp;go_at_call 43;(with_reducible refine (ka5).mono ?_);rintro e w6 ⟨rfl,MG,ha6,iX,hf6⟩;(have r2:=iX.kept v2 hyFa)))
  all_goals
   go_wp2;go_ret2;obtain⟨hP,hW⟩:=HZ.out;exact⟨rfl,(aP.out hP HS.out.2.1 Jy bW (λz hz=>by rcases Sv z hz with e|e;exact Α e;exact Β e) ((ae.refl _ _).drew) ha6 iX hf6).after hW⟩
theorem Rs(h:aP K.toNestQ w p F kd d R A q)(x g:Int)(hg:0<=g/\g<=4294967295)(hl:iO R x g=false) :
  Calls prog 45 #[.pointer (some ⟨p,0,none⟩),.agg #[.int .i64 x,.int .u32 g]] w λe w'=>e=.returned (.tuple #[.int .i64 0,.int .i64 33])/\ae [] w w':=by
 obtain⟨pa,pn,Fa,Fn,rfl,h⟩:=h;have kl:=λW (hW:ae [] w W)=>oI (h.ar.upd hW σ) x g hg;rw[hl] at kl;have c2':=h.c2;clear h hl
 go_enter func45,ntmps45
 go_upto_region 1 with(fail)
 refine bG (λW=>W.cell? ⟨w.heap.size,0,none⟩=some (.int .i64 x)/\W.cell? ⟨w.heap.size,1,none⟩=some (.int .u32 g)/\ae [] w W) ⟨γ,γ,β⟩ ?_;rintro W ⟨x0,x1,hu⟩;have JW:=λX (hX:ae [] W X)=>kl X (hu.trans hX);have e0:∀X,ae [] W X->X.cell? ⟨w.heap.size,0,none⟩=some (.int .i64 x):=λX h=>h.was x0;have e1:∀X,ae [] W X->X.cell? ⟨w.heap.size,1,none⟩=some (.int .u32 g):=λX h=>h.was x1;have e2:∀X,ae [] W X->X.cell? ⟨p,2,none⟩=some (.pointer (some ⟨pa,0,none⟩)):=λX h=>h.was (hu.was c2');have HU:=χ hu;clear hu x0 x1 kl c2'
 go_region_held3 (ae [] W) (exact ν)
  (first
   | ((go_at_call 73;(with_reducible refine (JW _ ν).mono ?_));rintro e w1 ⟨rfl,hu1⟩;(have hv1:ae [] W w1:=ae.trans ν hu1)))
 all_goals
  go_wp2;go_ret2;exact⟨rfl,HU.out.trans ν⟩
theorem QF(h:aP K.toNestQ w p F kd d R A q)(x:Nat)(hv:R.v x=true) :
  Calls prog 45 #[.pointer (some ⟨p,0,none⟩),.agg #[.int .i64 (x:Int),.int .u32 (R.g x:Int)]] w λe w'=>e=.returned (.tuple #[.int .i64 (A.c x).i,.int .i64 0])/\Goes F w w' (λF'=>aP K.toNestQ w' p F' kd d R A q):=by
 have hin:bY A (x:Int)=true:=by rw[←h.ok.2.2.2];exact hv
 have hgm:=h.ok.2.1.gm x;have hmo:=h.ok.2.1.QQ;have hlv:=Gx hv;obtain⟨pa,pn,Fa,Fn,rfl,h⟩:=h;have kl:=λW (hW:ae [] w W)=>oI (h.ar.upd hW σ) (x:Int) (R.g x:Int) ω;rw[hlv] at kl;have c2':=h.c2;have c3':=h.c3;have HH:=χ (ψ h hin);clear h hlv hv hin;generalize R.g x=gx at *;generalize hix:(A.c x).i=ix at *;have HIX:=χ hix;clear hix
 go_enter func45,ntmps45
 go_upto_region 1 with(fail)
 refine bG (λW=>W.cell? ⟨w.heap.size,0,none⟩=some (.int .i64 (x:Int))/\W.cell? ⟨w.heap.size,1,none⟩=some (.int .u32 (gx:Int))/\ae [] w W) ⟨γ,γ,β⟩ ?_;rintro W ⟨x0,x1,hu⟩;have JW:=λX (hX:ae [] W X)=>kl X (hu.trans hX);have e0:∀X,ae [] W X->X.cell? ⟨w.heap.size,0,none⟩=some (.int .i64 (x:Int)):=λX h=>h.was x0;have e1:∀X,ae [] W X->X.cell? ⟨w.heap.size,1,none⟩=some (.int .u32 (gx:Int)):=λX h=>h.was x1;have e2:∀X,ae [] W X->X.cell? ⟨p,2,none⟩=some (.pointer (some ⟨pa,0,none⟩)):=λX h=>h.was (hu.was c2');have HU:=χ (ψ hu x0);clear hu x0 x1 kl c2'
 go_region_held3 (ae [] W) (exact ν)
  (first
   | ((go_at_call 73;(with_reducible refine (JW _ ν).mono ?_));rintro e w1 ⟨rfl,hu1⟩;(have hv1:ae [] W w1:=ae.trans ν hu1)))
 go_upto_region 3 with(fail)
 obtain⟨hu,x0⟩:=HU.out;refine bG (λX=>ae [] W X) ν ?_;intro X hX;have y0:=hX.was x0;have yF:=hu.trans hX;have z3:=yF.was c3';have hP:=HH.out.1.upd yF σ;obtain⟨f,fv,hen,kQ⟩:=K.home x HH.out.2 hP.nest;unfold Enters at hen;have hm:=(kQ X.drew ((ae.refl _ _).drew)).1;have hc:=(kQ X.drew ((ae.refl _ _).drew)).2;rw[HIX.out] at hc;have HZ:=χ (ψ hP yF);clear hP yF kQ hu x0 hX JW e0 e1 e2 c3'
 go_region_law
  (first
   | (go_simp;(with_reducible refine (hc).mono ?_);rintro e w5 ⟨rfl,vX,Jy,pW,Sv⟩))
 all_goals
  go_wp2;go_ret2;obtain⟨hP,yF⟩:=HZ.out;exact⟨rfl,(hP.moved Jy (((ae.refl Fn X).drew).trans pW) Sv).after yF⟩
end
structure St where
 R:AR
 A:NS
 q:Nat
structure Rp where
 c:Int
 h:Int
 s:Int
 g:Int
 k:Int
 n:Int
def Rp.v(r:Rp):Value:=.agg #[.int .i64 r.c,.int .i64 r.h,.int .i64 r.s,.int .u32 r.g,.int .i64 r.k,.int .i64 r.n]
def sN(c:Int):Rp:=⟨c,0,0,0,0,0⟩
def si(S:St):St×Rp:=(⟨S.R,aU S.A,S.q⟩,⟨if dJ S.A=0 then 32 else 0,dJ S.A,0,0,0,0⟩)
def kW(S:St)(h k:Int):St×Rp:=if aY S.A h=true then(match kZ S.R with|some y=>(⟨y.2,aO S.A h (y.1:Int) k ((S.q:Int)+1),S.q+1⟩,⟨0,0,(y.1:Int),(S.R.g y.1:Int)+1,0,0⟩)|none=>(S,sN 32)) else(S,sN 171)
def lD(S:St)(h:Int):St×Rp:=(S,match dN S.A h with|some m=>⟨0,0,(m:Int),(S.R.g m:Int),(S.A.c m).k,0⟩|none=>sN (qB S.A h))
def jN(S:St)(h:Int):St×Rp:=match dN S.A h with|some m=>(⟨gY S.R m,bg S.A (m:Int),S.q⟩,⟨0,0,(m:Int),(S.R.g m:Int),(S.A.c m).k,0⟩)|none=>(S,sN (qB S.A h))
def mH(S:St)(x g k:Int):St×Rp:=if iO S.R x g=true then(if(S.A.c x.toNat).k<k then(S,sN 173) else(⟨S.R,aA S.A x k (S.A.c x.toNat).s,S.q⟩,sN 0)) else(S,sN 33)
def mG(S:St)(x g:Int):St×Rp:=if iO S.R x g=true then(⟨gY S.R x.toNat,bg S.A x,S.q⟩,⟨0,0,0,0,(S.A.c x.toNat).k,0⟩) else(S,sN 33)
def nW(S:St)(a b:Int):St×Rp:=if gJ S.A a b=true then(⟨S.R,az S.A a b,S.q⟩,sN 0) else(S,sN (if aY S.A a=false\/aY S.A b=false then 171 else 174))
def mW(S:St)(a:Int):St×Rp:=(S,if aY S.A a=true then⟨0,0,0,0,0,(dD S.A a:Int)⟩ else sN 171)
def kV(S:St)(x g:Int):St×Rp:=(S,if iO S.R x g=true then⟨0,0,0,0,(S.A.c x.toNat).k,0⟩ else sN 33)
def nX(S:St)(x g:Int):St×Rp:=(S,if iO S.R x g=true then⟨0,(S.A.c x.toNat).i,0,0,0,0⟩ else sN 33)
structure Ac where
 op:Int
 a:Int
 b:Int
 s:Int
 g:Int
 o:Int
 k:Int
def Ac.v(a:Ac):Value:=.agg #[.int .i64 a.op,.int .i64 a.a,.int .i64 a.b,.int .i64 a.s,.int .u32 a.g,.int .u8 a.o,.int .i64 a.k]
def Ac.run(a:Ac)(S:St)(x g:Int):St×Rp:=
 if a.op=1 then si S else if a.op=2 then kW S a.a a.k else if a.op=3 then lD S a.a else if a.op=4 then jN S a.a else if a.op=5 then mH S x g a.k else if a.op=6 then mG S x g
 else if a.op=7 then nW S a.a a.b else if a.op=8 then mW S a.a else if a.op=9 then kV S x g else if a.op=10 then nX S x g else(S,sN 0)
def vH(x:Int):Prop:=-9223372036854775808<=x/\x<=9223372036854775807
structure Ac.Ok(a:Ac):Prop where
 wa:vH a.a
 wb:vH a.b
 ws:vH a.s
 wk:vH a.k
 wg:0<=a.g/\a.g<=4294967295
 wo:0<=a.o/\a.o<=255
def fw(K:jZ)(w:World)(p:Nat)(F:List Nat)(kd d:Int)(S:St):Prop:=aP K.toNestQ w p F kd d S.R S.A S.q
section
variable{K:jZ}{w:World}{p:Nat}{F:List Nat}{kd d:Int}{S:St}
theorem fw.same(h:fw K w p F kd d S){w':World}(hu:ae [] w w'):Goes F w w' (λF'=>fw K w' p F' kd d S):=Goes.stay (aP.ag h hu) (hu.mono σ)
theorem Qv(h:fw K w p F kd d S):Calls prog 18 #[.pointer (some ⟨p,0,none⟩)] w λe w'=>e=.returned (.tuple #[.int .i64 (si S).2.h,.int .i64 (si S).2.c])/\Goes F w w' (λF'=>fw K w' p F' kd d (si S).1):=wZ h
theorem PO(h:fw K w p F kd d S)(hh k:Int)(hk:vH k)(hq:S.q+1<=18446744073709551615):Calls prog 17 #[.pointer (some ⟨p,0,none⟩),.int .i64 hh,.int .i64 k] w λe w'=>e=.returned (.tuple #[.agg #[.int .i64 (kW S hh k).2.s,.int .u32 (kW S hh k).2.g],.int .i64 (kW S hh k).2.c])/\Goes F w w' (λF'=>fw K w' p F' kd d (kW S hh k).1):=by
 unfold kW
 by_cases hB:aY S.A hh=true
 ·rw[Δ hB];cases hT:kZ S.R with
  |none=>exact(FY h hh k hB hT).mono λe w' ⟨h1,h2⟩=>⟨h1,h.same h2⟩
  |some y=>exact tq h hh k hB hk hq (x:=y.1) (R':=y.2) hT
 ·rw[Γ hB];exact(Ct h hh k (by simpa using hB)).mono λe w' ⟨h1,h2⟩=>⟨h1,h.same h2⟩
theorem OE(h:fw K w p F kd d S)(hh:Int)(hb:vH hh):Calls prog 19 #[.pointer (some ⟨p,0,none⟩),.int .i64 hh] w λe w'=>e=.returned (.tuple #[.agg #[.int .i64 (lD S hh).2.s,.int .u32 (lD S hh).2.g],.int .i64 (lD S hh).2.k,.int .i64 (lD S hh).2.c])/\Goes F w w' (λF'=>fw K w' p F' kd d (lD S hh).1):=by
 unfold lD;cases hm:dN S.A hh with
 |none=>exact Jn h hh hb hm
 |some m=>exact yH h hh hm
theorem QE(h:fw K w p F kd d S)(hh:Int)(hb:vH hh):Calls prog 22 #[.pointer (some ⟨p,0,none⟩),.int .i64 hh] w λe w'=>e=.returned (.tuple #[.agg #[.int .i64 (jN S hh).2.s,.int .u32 (jN S hh).2.g],.int .i64 (jN S hh).2.k,.int .i64 (jN S hh).2.c])/\Goes F w w' (λF'=>fw K w' p F' kd d (jN S hh).1):=by
 unfold jN;cases hm:dN S.A hh with
 |none=>exact UC h hh hb hm
 |some m=>exact Ow h hh hm
theorem Dy(h:fw K w p F kd d S)(x g k:Int)(hg:0<=g/\g<=4294967295)(hk:vH k):Calls prog 31 #[.pointer (some ⟨p,0,none⟩),.agg #[.int .i64 x,.int .u32 g],.int .i64 k] w λe w'=>e=.returned (.int .i64 (mH S x g k).2.c)/\Goes F w w' (λF'=>fw K w' p F' kd d (mH S x g k).1):=by
 unfold mH;cases hl:iO S.R x g with
 |false=>
  rw[Γ σ];exact(X0 h x g k hg hl).mono λe w' ⟨h1,h2⟩=>⟨h1,h.same h2⟩
 |true=>
  rw[Δ rfl];obtain⟨y,rfl,rfl,hv⟩:=vC hl;rw[π]
  by_cases hc:(S.A.c y).k<k
  ·rw[Δ hc];exact(Xz h y k hv hc).mono λe w' ⟨h1,h2⟩=>⟨h1,h.same h2⟩
  ·rw[Γ hc];exact UA h y k hv ω hk.1
theorem PS(h:fw K w p F kd d S)(x g:Int)(hg:0<=g/\g<=4294967295):Calls prog 44 #[.pointer (some ⟨p,0,none⟩),.agg #[.int .i64 x,.int .u32 g]] w λe w'=>e=.returned (.tuple #[.int .i64 (mG S x g).2.k,.int .i64 (mG S x g).2.c])/\Goes F w w' (λF'=>fw K w' p F' kd d (mG S x g).1):=by
 unfold mG;cases hl:iO S.R x g with
 |false=>
  rw[Γ σ];exact(V8 h x g hg hl).mono λe w' ⟨h1,h2⟩=>⟨h1,h.same h2⟩
 |true=>
  rw[Δ rfl];obtain⟨y,rfl,rfl,hv⟩:=vC hl;rw[π];exact TW h y hv
theorem Pg(h:fw K w p F kd d S)(a b:Int):Calls prog 20 #[.pointer (some ⟨p,0,none⟩),.int .i64 a,.int .i64 b] w λe w'=>e=.returned (.int .i64 (nW S a b).2.c)/\Goes F w w' (λF'=>fw K w' p F' kd d (nW S a b).1):=by
 unfold nW
 by_cases hj:gJ S.A a b=true
 ·rw[Δ hj];have h1:=(dG _ _ _).1 hj;obtain⟨a,rfl⟩:∃n:Nat,a=n:=⟨a.toNat,by have:=(aC _ _).1 h1.1;omega⟩;obtain⟨b,rfl⟩:∃n:Nat,b=n:=⟨b.toNat,by have:=(aC _ _).1 h1.2.1;omega⟩;exact OH h a b hj
 ·rw[Γ hj];have hE:aY S.A a=false\/aY S.A b=false\/a=b:=by
   by_cases h1:aY S.A a=true
   ·by_cases h2:aY S.A b=true
    ·by_cases h3:a=b
     ·exact Β (Β h3)
     ·exact absurd ((dG _ _ _).2 ⟨h1,h2,h3⟩) hj
    ·exact Β (Α (by simpa using h2))
   ·exact Α (by simpa using h1)
  exact(O4 h a b hE).mono λe w' ⟨h1,h2⟩=>⟨h1,h2▸h.same (ae.refl _ _)⟩
theorem Ew(h:fw K w p F kd d S)(x:Int)(hx:vH x):Calls prog 32 #[.pointer (some ⟨p,0,none⟩),.int .i64 x] w λe w'=>e=.returned (.tuple #[.int .i64 (mW S x).2.n,.int .i64 (mW S x).2.c])/\Goes F w w' (λF'=>fw K w' p F' kd d (mW S x).1):=by
 refine(Sy h x hx).mono λe w' ⟨h1,h2⟩=>⟨?_,h2▸h.same (ae.refl _ _)⟩
 rw[h1];unfold mW
 split<;>rfl
theorem uH(h:fw K w p F kd d S)(x g:Int)(hg:0<=g/\g<=4294967295):Calls prog 30 #[.pointer (some ⟨p,0,none⟩),.agg #[.int .i64 x,.int .u32 g]] w λe w'=>e=.returned (.tuple #[.int .i64 (kV S x g).2.k,.int .i64 (kV S x g).2.c])/\Goes F w w' (λF'=>fw K w' p F' kd d (kV S x g).1):=by
 unfold kV;cases hl:iO S.R x g with
 |false=>
  rw[Γ σ];exact(Wl h x g hg hl).mono λe w' ⟨h1,h2⟩=>⟨h1,h.same h2⟩
 |true=>
  rw[Δ rfl];obtain⟨y,rfl,rfl,hv⟩:=vC hl;rw[π];exact(Ti h y hv).mono λe w' ⟨h1,h2⟩=>⟨h1,h.same h2⟩
theorem P6(h:fw K w p F kd d S)(x g:Int)(hg:0<=g/\g<=4294967295):Calls prog 45 #[.pointer (some ⟨p,0,none⟩),.agg #[.int .i64 x,.int .u32 g]] w λe w'=>e=.returned (.tuple #[.int .i64 (nX S x g).2.h,.int .i64 (nX S x g).2.c])/\Goes F w w' (λF'=>fw K w' p F' kd d (nX S x g).1):=by
 unfold nX;cases hl:iO S.R x g with
 |false=>
  rw[Γ σ];exact(Rs h x g hg hl).mono λe w' ⟨h1,h2⟩=>⟨h1,h.same h2⟩
 |true=>
  rw[Δ rfl];obtain⟨y,rfl,rfl,hv⟩:=vC hl;rw[π];exact QF h y hv
end
def sQ(kd d n m:Int):Int:=if sG kd d≠0 then sG kd d else if n<0\/65536<n\/m=0 then 31 else 0
theorem UJ(n m:Int)(w:World)(h:n<0\/65536<n\/m=0)(hm:0<=m/\m<=4294967295) :
  Calls prog 36 #[.int .i64 n,.int .u32 m] w λe w'=>e=.returned (.tuple #[.agg #[.int .i64 0,.int .u32 0,.slice none 0 0,.slice none 0 0],.int .i64 31])/\ae [] w w':=by
 by_cases h1:n<0
 ·go_enter func36,ntmps36
  go_wp2;exact bodyPost_ret (v:=.tuple #[.agg #[.int .i64 0,.int .u32 0,.slice none 0 0,.slice none 0 0],.int .i64 31]) (by simp[results,results36,go_sem]) rfl ⟨rfl,β⟩
 ·by_cases h2:65536<n
  ·go_enter func36,ntmps36
   go_wp2;exact bodyPost_ret (v:=.tuple #[.agg #[.int .i64 0,.int .u32 0,.slice none 0 0,.slice none 0 0],.int .i64 31]) (by simp[results,results36,go_sem]) rfl ⟨rfl,β⟩
  ·obtain rfl:m=0:=ω
   go_enter func36,ntmps36
   go_wp2;exact bodyPost_ret (v:=.tuple #[.agg #[.int .i64 0,.int .u32 0,.slice none 0 0,.slice none 0 0],.int .i64 31]) (by simp[results,results36,go_sem]) rfl ⟨rfl,β⟩
theorem En(n m:Int)(w:World)(h:0<=n/\n<=65536)(hm:1<=m/\m<=4294967295) :
  Calls prog 36 #[.int .i64 n,.int .u32 m] w λe w'=>e=.returned (.tuple #[.agg #[.int .i64 n,.int .u32 m,.slice none 0 0,.slice none 0 0],.int .i64 0])/\ae [] w w':=by
 have h1:¬n<0:=ω;have h2:¬n > 65536:=ω;have h3:(m == 0)=false:=ζ;clear h hm
 go_enter func36,ntmps36
 go_wp2;exact bodyPost_ret (v:=.tuple #[.agg #[.int .i64 n,.int .u32 m,.slice none 0 0,.slice none 0 0],.int .i64 0]) (by simp[results,results36,go_sem]) rfl ⟨rfl,β⟩
theorem Ob(kd d n m:Int)(w:World)(hm:0<=m/\m<=4294967295) :
  Calls prog 12 #[.agg #[.int .i64 kd,.int .i64 d],.int .i64 n,.int .u32 m] w λe w'=>∃(x0 x1 x6:Int) (a2:Option Addr) (n2 k2:Nat) (a3:Option Addr) (n3 k3:Nat) (a4:Option Addr) (n4 k4:Nat) (a5:Option Addr) (n5 k5:Nat),e=.returned (.tuple #[.agg #[.int .i64 x0,.int .u32 x1,.slice a2 n2 k2,.slice a3 n3 k3,.slice a4 n4 k4,.slice a5 n5 k5,.int .u64 x6],.int .i64 (sQ kd d n m)])/\ae [] w w':=by
 have kc:=λW=>rR kd d W
 by_cases hc:sG kd d=0
 ·rw[hc] at kc
  by_cases hb:n<0\/65536<n\/m=0
  ·have e:sQ kd d n m=31:=by unfold sQ;rw[Γ (by simp[hc]),Δ hb]
   rw[e];have ka:=λW=>UJ n m W hb hm;clear e hb hc
   go_enter func12,ntmps12
   (go_upto_region 1 with(fail);refine bG (λW=>jg W (w.heap.size+1) 39 7/\W.cell? ⟨w.heap.size,0,none⟩=some (.int .i64 kd)/\W.cell? ⟨w.heap.size,1,none⟩=some (.int .i64 d)/\ae [] w W) ⟨(by have h:=lZ (w.alloc (.cells #[.int .i64 kd,.int .i64 d] 23)) [Value.int .i64 0,.int .u32 0,.slice none 0 0,.slice none 0 0,.slice none 0 0,.slice none 0 0,.int .u64 0] 39;rw[Κ] at h;exact h),γ,γ,β⟩ ?_;rintro W ⟨hR,q0,q1,hW⟩)
   go_upto_region 5 with (first
    |((go_at_call 21;(with_reducible refine(kc _).mono ?_));rintro e w1 ⟨rfl,hu1⟩;(have hw1:ae [] w w1:=hW.trans hu1);(have lL:=hR.upd hu1 σ))
    |((go_at_call 36;(with_reducible refine(ka _).mono ?_));rintro e w2 ⟨rfl,hu2⟩)
    | fail)
   refine bG (λX=>jg X (w.heap.size+1) 39 7/\ae [] w X) ⟨(lL.upd hu2 σ).upd (S:=[]) β σ,(hw1.trans hu2).trans β⟩ ?_;rintro X ⟨zx,hX⟩
   ((have t0:=(zx).cell 0 ω);(have t1:=(zx).cell 1 ω);(have t2:=(zx).cell 2 ω);(have t3:=(zx).cell 3 ω);(have t4:=(zx).cell 4 ω);(have t5:=(zx).cell 5 ω);(have t6:=(zx).cell 6 ω);(have s0:=(zx).free 0);(have s1:=(zx).free 1);(have s2:=(zx).free 2);(have s3:=(zx).free 3);(have s4:=(zx).free 4);(have s5:=(zx).free 5);(have s6:=(zx).free 6);(have hBl:=Ε _ _ t0))
   clear hR lL zx hu1 hu2 hw1 hW q0 q1 kc ka;go_wp2;exact bodyPost_ret (v:=.tuple #[.agg #[.int .i64 0,.int .u32 0,.slice none 0 0,.slice none 0 0,.slice none 0 0,.slice none 0 0,.int .u64 0],.int .i64 31]) (by simp[results,results12,go_sem,t0,t1,t2,t3,t4,t5,t6]) rfl ⟨⟨_,_,_,_,_,_,_,_,_,_,_,_,_,_,_,rfl⟩,by(repeat(refine ae.setCell ?_ (Β (Nat.le_succ _)) _));exact hX⟩
  ·have e:sQ kd d n m=0:=by unfold sQ;rw[Γ (by simp[hc]),Γ hb]
   rw[e];obtain⟨k,rfl⟩:∃k:Nat,n=k:=⟨n.toNat,ω⟩;have ka:=λW=>En (k:Int) m W ω ω;have kn:=λW=>Jg k W [] σ ω;clear e hb hc
   go_enter func12,ntmps12
   (go_upto_region 1 with(fail);refine bG (λW=>jg W (w.heap.size+1) 39 7/\W.cell? ⟨w.heap.size,0,none⟩=some (.int .i64 kd)/\W.cell? ⟨w.heap.size,1,none⟩=some (.int .i64 d)/\ae [] w W) ⟨(by have h:=lZ (w.alloc (.cells #[.int .i64 kd,.int .i64 d] 23)) [Value.int .i64 0,.int .u32 0,.slice none 0 0,.slice none 0 0,.slice none 0 0,.slice none 0 0,.int .u64 0] 39;rw[Κ] at h;exact h),γ,γ,β⟩ ?_;rintro W ⟨hR,q0,q1,hW⟩)
   go_upto_region 7 with (first
    |((go_at_call 21;(with_reducible refine(kc _).mono ?_));rintro e w1 ⟨rfl,hu1⟩;(have hw1:ae [] w w1:=hW.trans hu1);(have lL:=hR.upd hu1 σ))
    |((go_at_call 36;(with_reducible refine(ka _).mono ?_));rintro e w2 ⟨rfl,hu2⟩)
    | fail)
   refine bG (λX=>jg X (w.heap.size+1) 39 7/\X.cell? ⟨w2.heap.size,0,none⟩=some (.int .i64 (k:Int))/\X.cell? ⟨w2.heap.size,1,none⟩=some (.int .u32 m)/\X.cell? ⟨w2.heap.size,2,none⟩=some (.slice none 0 0)/\X.cell? ⟨w2.heap.size,3,none⟩=some (.slice none 0 0)/\ae [] w X) ⟨(lL.upd hu2 σ).upd (S:=[]) β σ,γ,γ,γ,γ,(hw1.trans hu2).trans β⟩ ?_;rintro X ⟨zx,z0,z1,z2,z3,hX⟩;have QV:=kn X.drew;have HX:=χ (ψ zx hX);clear hR lL zx hu1 hu2 hw1 hW q0 q1 kc ka hX kn
   go_region_law
    (first
     | ((first|go_at_call 37|(go_simp;go_at_call 37));(with_reducible refine (QV).mono ?_);rintro e w3 ⟨v3,rfl,⟨gh,oh,ch,gc,oc,cc,rfl, -⟩,hu3⟩;(unfold Yg);(have y0:=hu3.was z0);(have y1:=hu3.was z1);(have y2:=hu3.was z2);(have y3:=hu3.was z3);(obtain ⟨zx,hX⟩:=HX.out);(have fU:ae [] X w3:=((ae.refl [] X).drew).trans hu3);(have mK:=zx.upd fU σ);((have t0:=(mK).cell 0 ω);(have t1:=(mK).cell 1 ω);(have t2:=(mK).cell 2 ω);(have t3:=(mK).cell 3 ω);(have t4:=(mK).cell 4 ω);(have t5:=(mK).cell 5 ω);(have t6:=(mK).cell 6 ω);(have s0:=(mK).free 0);(have s1:=(mK).free 1);(have s2:=(mK).free 2);(have s3:=(mK).free 3);(have s4:=(mK).free 4);(have s5:=(mK).free 5);(have s6:=(mK).free 6);(have hBl:=Ε _ _ t0))))
   all_goals
    clear y0 y1 y2 y3 mK QV;go_wp2;exact bodyPost_ret (v:=.tuple #[.agg #[.int .i64 (k:Int),.int .u32 m,.slice none 0 0,.slice none 0 0,.slice (some ⟨gh,oh,none⟩) (NS.new k).hs.length ch,.slice (some ⟨gc,oc,none⟩) (NS.new k).cs.length cc,.int .u64 0],.int .i64 0]) (by simp[results,results12,go_sem,t0,t1,t2,t3,t4,t5,t6]) rfl ⟨⟨_,_,_,_,_,_,_,_,_,_,_,_,_,_,_,rfl⟩,by(repeat(refine ae.setCell ?_ (Β (Nat.le_succ _)) _));exact hX.trans fU⟩
 ·have e:sQ kd d n m=sG kd d:=by unfold sQ;rw[Δ hc]
  rw[e];have hcb:(sG kd d != 0)=true:=by simpa using hc
  clear e hc;generalize sG kd d=v at *
  go_enter func12,ntmps12
  (go_upto_region 1 with(fail);refine bG (λW=>jg W (w.heap.size+1) 39 7/\W.cell? ⟨w.heap.size,0,none⟩=some (.int .i64 kd)/\W.cell? ⟨w.heap.size,1,none⟩=some (.int .i64 d)/\ae [] w W) ⟨(by have h:=lZ (w.alloc (.cells #[.int .i64 kd,.int .i64 d] 23)) [Value.int .i64 0,.int .u32 0,.slice none 0 0,.slice none 0 0,.slice none 0 0,.slice none 0 0,.int .u64 0] 39;rw[Κ] at h;exact h),γ,γ,β⟩ ?_;rintro W ⟨hR,q0,q1,hW⟩)
  go_upto_region 2 with (first
   |((go_at_call 21;(with_reducible refine(kc _).mono ?_));rintro e w1 ⟨rfl,hu1⟩;(have hw1:ae [] w w1:=hW.trans hu1);(have lL:=hR.upd hu1 σ))
   | fail)
  ((have t0:=(lL).cell 0 ω);(have t1:=(lL).cell 1 ω);(have t2:=(lL).cell 2 ω);(have t3:=(lL).cell 3 ω);(have t4:=(lL).cell 4 ω);(have t5:=(lL).cell 5 ω);(have t6:=(lL).cell 6 ω);(have s0:=(lL).free 0);(have s1:=(lL).free 1);(have s2:=(lL).free 2);(have s3:=(lL).free 3);(have s4:=(lL).free 4);(have s5:=(lL).free 5);(have s6:=(lL).free 6);(have hBl:=Ε _ _ t0))
  clear hR lL hu1 hW q0 q1 kc;go_wp2;exact bodyPost_ret (v:=.tuple #[.agg #[.int .i64 0,.int .u32 0,.slice none 0 0,.slice none 0 0,.slice none 0 0,.slice none 0 0,.int .u64 0],.int .i64 v]) (by simp[results,results12,go_sem,t0,t1,t2,t3,t4,t5,t6]) rfl ⟨⟨_,_,_,_,_,_,_,_,_,_,_,_,_,_,_,rfl⟩,by(repeat(refine ae.setCell ?_ (Β (Nat.le_succ _)) _));exact hw1⟩
end Go.Proofs.YtnpdakpagnpanaaGreat
