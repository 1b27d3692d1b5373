/-
  Lemmas for PqSorts: ArP, Ar, Ar2, Ar3, Pq, Pq2, Pq3, Pq4, Pq5, Pq6, Chk, PqO, PqN, Pq7. Conditions: those of each lemma.
-/
import Derived.Deep.RegionLaw
import Derived.Deep.DeepCutAuto
import Derived.Test.YtnpdakpagnpanaaGreatA01
set_option linter.all false
set_option maxHeartbeats 8000000
set_option maxRecDepth 10000
namespace Go.Proofs.YtnpdakpagnpanaaGreat
open Go Go.RowKit
structure AR where
 sl:List (Nat×Bool)
 wait:List Nat
 next:Nat
 most:Nat
def AR.g (R:AR) (x:Nat):Nat:=(R.sl.getD x (0,false)).1
def AR.v (R:AR) (x:Nat):Bool:=(R.sl.getD x (0,false)).2
def C9 (l:List (Nat×Bool)):Nat:=(l.filter (λp=>p.2)).length
def AR.cnt (R:AR):Nat:=C9 R.sl
structure AR.Ok (R:AR):Prop where
 n:R.sl.length<=65536
 nx:R.next<=R.sl.length
 Su:1<=R.most/\R.most<=4294967295
 wt:∀x,x∈R.wait->x<R.next/\R.v x=false/\R.g x<R.most
 nd:R.wait.Nodup
 fresh:∀x,R.next<=x->R.g x=0/\R.v x=false
 lv:∀x,R.v x=true->1<=R.g x
 gm:∀x,R.g x<=R.most
def AR.new (n most:Nat):AR:=⟨List.replicate n (0,false),[],0,most⟩
def AR.put (R:AR) (x:Nat) (p:Nat×Bool):AR:={ R with sl:=R.sl.set x p }
def rW (R:AR):Option (Nat×AR):=
 match R.wait.getLast? with
 | some x=>some (x,{ R with wait:=R.wait.dropLast })
 | none=>if R.next=R.sl.length then none else some (R.next,{ R with next:=R.next+1 })
def qp (R:AR):Option (Nat×AR):=(rW R).map λp=>(p.1,p.2.put p.1 (R.g p.1+1,true))
def zz (R:AR) (x g:Int):Bool:=decide (0<=x) && decide (x<R.sl.length) && decide ((R.g x.toNat:Int)=g) && R.v x.toNat
def ji (R:AR) (x:Nat):AR:={ R.put x (R.g x,false) with wait:=if R.g x<R.most then R.wait++[x] else R.wait }
section
variable {R:AR}
theorem AR.wI (x:Nat) (p:Nat×Bool) (y:Nat):(R.put x p).g y=if y=x/\x<R.sl.length then p.1 else R.g y:=by
 unfold AR.put AR.g;simp only [φ,ύ]
 by_cases h:x=y
 ·subst h
  by_cases hl:x<R.sl.length
  ·simp [hl]
  ·simp [hl]
 ·rw [Γ h,Γ (λe=>h e.1.symm)]
theorem AR.xq (x:Nat) (p:Nat×Bool) (y:Nat):(R.put x p).v y=if y=x/\x<R.sl.length then p.2 else R.v y:=by
 unfold AR.put AR.v;simp only [φ,ύ]
 by_cases h:x=y
 ·subst h
  by_cases hl:x<R.sl.length
  ·simp [hl]
  ·simp [hl]
 ·rw [Γ h,Γ (λe=>h e.1.symm)]
theorem AR.far {x:Nat} (hx:R.sl.length<=x):R.g x=0/\R.v x=false:=by
 unfold AR.g AR.v;rw [φ,List.getElem?_eq_none hx];exact ⟨rfl,rfl⟩
theorem AR.iW (x:Nat) (p:Nat×Bool):(R.put x p).sl.length=R.sl.length:=by unfold AR.put;simp
theorem AR.Kg {x:Nat} (h:R.v x=true):x<R.sl.length:=by
 rcases ϔ x R.sl.length with h'|h'
 ·exact h'
 ·rw [(AR.far h').2] at h;cases h
theorem qQ (q:Nat×Bool) (r:List (Nat×Bool)):C9 (q::r)=C9 r+if q.2 then 1 else 0:=by
 unfold C9;rw [List.filter_cons];cases h:q.2<;>simp
theorem Eb:∀ (l:List (Nat×Bool)) (x:Nat) (p:Nat×Bool),x<l.length->C9 (l.set x p)+(if (l.getD x (0,false)).2 then 1 else 0)=C9 l+(if p.2 then 1 else 0)
 | [],x,p,h=>by simp at h
 | q::r,0,p,h=>by
  rw [List.set_cons_zero,qQ,qQ]
  show _+_+(if q.2 then 1 else 0)=_
  omega
 | q::r,x+1,p,h=>by
  have ih:=Eb r x p (by simpa using h);rw [List.set_cons_succ,qQ,qQ,List.getD_cons_succ];omega
theorem I8 (l:List (Nat×Bool)):C9 l<=l.length:=List.length_filter_le _ _
theorem AR.wW (x:Nat) (p:Nat×Bool) (hx:x<R.sl.length):(R.put x p).cnt+(if R.v x then 1 else 0)=R.cnt+(if p.2 then 1 else 0):=Eb R.sl x p hx
theorem AR.Hz (h:R.Ok):R.wait.length<=R.next:=by
 have key:∀ (n:Nat) (l:List Nat),l.Nodup->(∀x,x∈l->x<n)->l.length<=n:=by
  intro n
  induction n with
  | zero=>
   intro l _ h;cases l with
   | nil=>simp
   | cons x r=>have:=h x σ;omega
  | succ n ih=>
   intro l hn h
   have h1:=ih (l.erase n) (hn.erase _) (λx hx=>by
    have h2:=(List.Nodup.mem_erase_iff hn).1 hx;have:=h x h2.2
    omega)
   have h2:=List.length_erase_le (a:=n) (l:=l);have h3:l.length<=(l.erase n).length+1:=by
    by_cases hm:n∈l
    ·rw [List.length_erase_of_mem hm];omega
    ·rw [List.erase_of_not_mem hm];omega
   omega
 exact key _ _ h.nd (λx hx=>(h.wt x hx).1)
theorem AR.xz {n most:Nat} (hn:n<=65536) (hm:1<=most/\most<=4294967295):(AR.new n most).Ok:=by
 have e:∀x,(AR.new n most).g x=0/\(AR.new n most).v x=false:=λx=>by
  unfold AR.new AR.g AR.v;simp only [φ,List.getElem?_replicate]
  split<;>exact ⟨rfl,rfl⟩
 refine ⟨by simp [AR.new];exact hn,by simp [AR.new],hm,λx hx=>by simp [AR.new] at hx,by simp [AR.new],λx _=>e x,λx hx=>?_,λx=>?_⟩
 ·rw [(e x).2] at hx;cases hx
 ·rw [(e x).1];exact Nat.zero_le _
theorem AR.H8 (n most:Nat):(AR.new n most).cnt=0:=by
 unfold AR.cnt C9 AR.new;simp
theorem vF {x:Nat} {R':AR} (h:R.Ok) (hp:rW R=some (x,R')):x<R.sl.length/\R.v x=false/\R.g x<R.most/\R'.sl=R.sl/\R'.most=R.most/\R'.next<=R.sl.length/\x<R'.next/\R.next<=R'.next/\
  (∀y,y∈R'.wait->y∈R.wait/\y≠x)/\R'.wait.Nodup:=by
 unfold rW at hp;cases hl:R.wait.getLast? with
 | some y=>
  rw [hl] at hp;simp only [ϕ,Prod.mk.injEq] at hp;obtain ⟨rfl,rfl⟩:=hp;have hm:y∈R.wait:=List.mem_of_getLast? hl;obtain ⟨h1,h2,h3⟩:=h.wt y hm;have hn:=h.nd;have happ:R.wait=R.wait.dropLast++[y]:=by
   obtain ⟨l,hl'⟩:=List.getLast?_eq_some_iff.1 hl;rw [hl'];simp
  rw [happ,θ] at hn;refine ⟨Ψ h1 h.nx,h2,h3,rfl,rfl,h.nx,h1,Θ _,λz hz=>⟨List.dropLast_subset _ hz,λe=>?_⟩,hn.1⟩;exact hn.2.2 z hz y σ e
 | none=>
  rw [hl] at hp;have hw:R.wait=[]:=List.getLast?_eq_none_iff.1 hl;dsimp only at hp
  split at hp
  ·cases hp
  ·rename_i hne
   simp only [ϕ,Prod.mk.injEq] at hp;obtain ⟨rfl,rfl⟩:=hp;have h1:=h.nx;have h2:=h.fresh R.next (Θ _);refine ⟨ω,h2.2,by rw [h2.1];exact h.Su.1,rfl,rfl,by show R.next+1<=_;omega,by show R.next<R.next+1;omega,by show R.next<=R.next+1;omega,λy hy=>?_,h.nd⟩;rw [show ({ R with next:=R.next+1 }:AR).wait=R.wait from rfl,hw] at hy;cases hy
theorem xe {x:Nat} {R':AR} (h:R.Ok) (hp:qp R=some (x,R')):R'.Ok/\x<R.sl.length/\R.v x=false/\R.g x<R.most/\R'.sl=R.sl.set x (R.g x+1,true)/\R'.most=R.most/\R'.cnt=R.cnt+1:=by
 unfold qp at hp;cases hq:rW R with
 | none=>rw [hq] at hp;cases hp
 | some q=>
  obtain ⟨y,R1⟩:=q;rw [hq] at hp;simp only [Option.map_some,ϕ,Prod.mk.injEq] at hp;obtain ⟨rfl,rfl⟩:=hp;obtain ⟨h1,h2,h3,h4,h5,h6,h7,h8,h9,h10⟩:=vF h hq;have eg:∀z,R1.g z=R.g z:=λz=>by unfold AR.g;rw [h4]
  have ev:∀z,R1.v z=R.v z:=λz=>by unfold AR.v;rw [h4]
  have hl:y<R1.sl.length:=by rw [h4];exact h1
  refine ⟨⟨by rw [AR.iW,h4];exact h.n,by rw [AR.iW,h4];exact h6,by show 1<=R1.most/\R1.most<=4294967295;rw [h5];exact h.Su,λz hz=>?_,h10,λz hz=>?_,λz hz=>?_,λz=>?_⟩,h1,h2,h3,by show R1.sl.set _ _=_;rw [h4],h5,?_⟩
  ·obtain ⟨a1,a2⟩:=h9 z hz;obtain ⟨b1,b2,b3⟩:=h.wt z a1;rw [AR.xq,AR.wI,Γ (λe=>a2 e.1),Γ (λe=>a2 e.1),ev,eg];refine ⟨Ψ b1 h8,b2,?_⟩
   show R.g z<R1.most
   rw [h5];exact b3
  ·have hz':R1.next<=z:=hz;rw [AR.xq,AR.wI,Γ ω,Γ ω,ev,eg];exact h.fresh z ω
  ·rw [AR.xq] at hz;rw [AR.wI]
   by_cases e:z=y/\y<R1.sl.length
   ·rw [Δ e];show 1<=R.g y+1;omega
   ·rw [Γ e] at hz ⊢;rw [ev] at hz;rw [eg];exact h.lv z hz
  ·rw [AR.wI]
   show _<=R1.most
   rw [h5]
   split
   ·show R.g y+1<=_;omega
   ·rw [eg];exact h.gm z
  ·have hc:=AR.wW (R:=R1) y (R.g y+1,true) hl;rw [ev,h2] at hc;simp at hc;rw [hc];unfold AR.cnt;rw [h4]
theorem xk {x:Nat} (h:R.Ok) (hv:R.v x=true):(ji R x).Ok/\(ji R x).cnt+1=R.cnt:=by
 have hx:=AR.Kg hv;have eg:∀z,(ji R x).g z=R.g z:=λz=>by
  show (R.put x (R.g x,false)).g z=_
  rw [AR.wI]
  split
  ·rename_i e;rw [e.1]
  ·rfl
 have ev:∀z,(ji R x).v z=if z=x then false else R.v z:=λz=>by
  show (R.put x (R.g x,false)).v z=_
  rw [AR.xq]
  by_cases e:z=x
  ·rw [Δ ⟨e,hx⟩,Δ e]
  ·rw [Γ (λh=>e h.1),Γ e]
 have sD:x<R.next:=by
  rcases ϔ x R.next with h'|h'
  ·exact h'
  ·rw [(h.fresh x h').2] at hv;cases hv
 refine ⟨⟨by show (R.put x _).sl.length<=_;rw [AR.iW];exact h.n,by show R.next<=(R.put x _).sl.length;rw [AR.iW];exact h.nx,h.Su,λz hz=>?_,?_,λz hz=>?_,λz hz=>?_,λz=>by rw [eg];exact h.gm z⟩,?_⟩
 ·have hz':z∈(if R.g x<R.most then R.wait++[x] else R.wait):=hz;rw [ev,eg];have hw:z∈R.wait->z<R.next/\(if z=x then false else R.v z)=false/\R.g z<R.most:=λhm=>by
   obtain ⟨b1,b2,b3⟩:=h.wt z hm;refine ⟨b1,?_,b3⟩
   split
   ·rfl
   ·exact b2
  split at hz'
  ·rename_i hlt
   rcases τ.1 hz' with hm|hm
   ·exact hw hm
   ·simp at hm;subst hm;exact ⟨sD,by rw [Δ rfl],hlt⟩
  ·exact hw hz'
 ·show (if R.g x<R.most then R.wait++[x] else R.wait).Nodup
  split
  ·rw [θ];refine ⟨h.nd,σ,λa ha b hb e=>?_⟩;simp at hb;subst hb;subst e;have:=(h.wt _ ha).2.1;rw [hv] at this;cases this
  ·exact h.nd
 ·rw [ev,eg];have hz':R.next<=z:=hz;have:=h.fresh z hz';exact ⟨this.1,by split;rfl;exact this.2⟩
 ·rw [ev] at hz
  split at hz
  ·cases hz
  ·rw [eg];exact h.lv z hz
 ·have hc:=AR.wW (R:=R) x (R.g x,false) hx;rw [hv] at hc;simp at hc;exact hc
end
theorem iR {c:Code} {K:Exit->Act->World->Prop} {a:Act} {W:World} (R:World->Prop) (h:R W) (k:∀W',R W'->Code.wp Tryz.prog c K a W'):Code.wp Tryz.prog c K a W:=k W h
def LC (R:AR) (j:Nat):Value:=if j % 2=0 then .int .u32 (R.g (j / 2):Int) else .bool (R.v (j / 2))
def UE (ga:Nat) (v:Value) (R:AR) (j:Nat):Value:=[Value.slice (some ⟨ga,0,none⟩) R.sl.length R.sl.length,v,.int .i64 (R.next:Int),.int .i64 (R.cnt:Int),.int .u32 (R.most:Int)].getD j undef
structure rf (w:World) (pa ga:Nat) (v:Value) (R:AR):Prop where
 head:aJ w pa 120 5 (UE ga v R)
 row:aJ w ga 152 (R.sl.length*2) (LC R)
 wait:w.ownsRow 0 3 1 v R.wait.length (aT (bG R.wait))
 ne:pa≠ga
 nw:∀k,v.ownBlock=some k->k≠pa/\k≠ga
 ok:R.Ok
def nD (w:World) (pa:Nat) (F:List Nat) (R:AR):Prop:=∃ga v,F=pa::ga::v.ownBlock.toList/\rf w pa ga v R
section
variable {w:World} {pa ga:Nat} {v:Value} {R:AR} {F:List Nat}
theorem rf.c0 (h:rf w pa ga v R):w.cell? ⟨pa,0,none⟩=some (.slice (some ⟨ga,0,none⟩) R.sl.length R.sl.length):=h.head.cellAt 0 ω rfl
theorem rf.c1 (h:rf w pa ga v R):w.cell? ⟨pa,1,none⟩=some v:=h.head.cellAt 1 ω rfl
theorem rf.c2 (h:rf w pa ga v R):w.cell? ⟨pa,2,none⟩=some (.int .i64 (R.next:Int)):=h.head.cellAt 2 ω rfl
theorem rf.c3 (h:rf w pa ga v R):w.cell? ⟨pa,3,none⟩=some (.int .i64 (R.cnt:Int)):=h.head.cellAt 3 ω rfl
theorem rf.c4 (h:rf w pa ga v R):w.cell? ⟨pa,4,none⟩=some (.int .u32 (R.most:Int)):=h.head.cellAt 4 ω rfl
theorem rf.s0 (h:rf w pa ga v R) {x:Nat} (hx:x<R.sl.length):w.cell? ⟨ga,x*2,none⟩=some (.int .u32 (R.g x:Int)):=h.row.cellAt (x*2) ω (by unfold LC;rw [Δ ω,show x*2 / 2=x by omega])
theorem rf.s1 (h:rf w pa ga v R) {x:Nat} (hx:x<R.sl.length):w.cell? ⟨ga,x*2+1,none⟩=some (.bool (R.v x)):=h.row.cellAt (x*2+1) ω (by unfold LC;rw [Γ ω,show (x*2+1) / 2=x by omega])
theorem J5 (l:List Nat):(bG l).length=l.length:=by unfold bG;simp
theorem rf.upd {w':World} {S:List Nat} (h:rf w pa ga v R) (hu:aa S w w') (hS:∀x,x∈S->x∉pa::ga::v.ownBlock.toList):rf w' pa ga v R:=
 ⟨h.head.upd hu (λe=>hS _ e σ),h.row.upd hu (λe=>hS _ e σ),au h.wait hu (λk hk e=>hS _ e (by simp [hk])),h.ne,h.nw,h.ok⟩
theorem nD.upd {w':World} {S:List Nat} (h:nD w pa F R) (hu:aa S w w') (hS:∀x,x∈S->x∉F):nD w' pa F R:=by
 obtain ⟨ga,v,rfl,h⟩:=h;exact ⟨ga,v,rfl,h.upd hu hS⟩
theorem nD.lt (h:nD w pa F R):∀x,x∈F->x<w.heap.size:=by
 obtain ⟨ga,v,rfl,h⟩:=h;intro x hx;simp at hx;rcases hx with rfl|rfl|hx
 ·exact h.head.lt
 ·exact h.row.lt
 ·exact (h.wait.lt x hx).2
theorem nD.ok (h:nD w pa F R):R.Ok:=by obtain ⟨ga,v,rfl,h⟩:=h;exact h.ok
theorem PO:(Tryz.prog.info? 152).map (λi=>(i.zero,i.size,i.bytes))=some (some (.agg #[.int .u32 0,.bool false]),2,8):=by kernel_rfl
theorem Ky (n m:Nat) (w:World) (h:n<=65536) (hm:1<=m/\m<=4294967295) :
  Calls Tryz.prog 34 #[.int .i64 (n:Int),.int .u32 (m:Int)] w λe w'=>∃pa F,e=.returned (.tuple #[.pointer (some ⟨pa,0,none⟩),.int .i64 0])/\nD w' pa F (AR.new n m)/\aa [] w w'/\∀x,x∈F->w.heap.size<=x:=by
 have hm0:((m:Int) == 0)=false:=ζ
 go_enter Tryz.func34,Tryz.ntmps34
 go_wp2_with (first
  | (at_make;refine wpList_make_row rfl _ 118 rfl 152 (.agg #[.int .u32 0,.bool false]) 2 8 Tryz.underlying118 PO n rfl ω μ ?_;intro w2 hr2 hu2))
 go_ret2;have hh:=dL w2 [.slice (some ⟨w.heap.size,0,none⟩) n n,.slice none 0 0,.int .i64 0,.int .i64 0,.int .u32 (m:Int)] 120;have l1:=hr2.lt;have e:∀x,(AR.new n m).g x=0/\(AR.new n m).v x=false:=λx=>by
  unfold AR.new AR.g AR.v;simp only [φ,List.getElem?_replicate]
  split<;>exact ⟨rfl,rfl⟩
 refine ⟨w2.heap.size,w2.heap.size::w.heap.size::[],rfl,⟨w.heap.size,.slice none 0 0,rfl,⟨?_,?_,⟨by simp [AR.new,bG,aT],Α ⟨rfl,by simp [AR.new]⟩⟩,ω,λk hk=>(by cases hk),AR.xz h hm⟩⟩,hu2.trans ((aa.refl _ _).alloc _),λx hx=>by simp at hx;omega⟩
 ·refine hh.ext (λj hj=>?_);unfold UE;rw [AR.H8];simp [AR.new]
 ·have hl:(AR.new n m).sl.length=n:=by simp [AR.new]
  rw [hl];refine (hr2.alloc _).ext (λj hj=>?_);unfold LC;rw [(e _).1,(e _).2]
  show (madeCells #[Value.int .u32 0,.bool false] (n*2)).toList.getD j undef=_
  rw [φ,ε (by simp [size_madeCells];omega)];simp only [Option.getD_some,madeCells,Array.getElem_toList,Array.getElem_map,Array.getElem_range];rcases (ω:j % 2=0\/j % 2=1) with e|e<;>simp [e]
theorem ym (h:nD w pa F R) (x g:Int) (hg:0<=g/\g<=4294967295) :
  Calls Tryz.prog 73 #[.pointer (some ⟨pa,0,none⟩),.agg #[.int .i64 x,.int .u32 g]] w λe w'=>e=.returned (.bool (zz R x g))/\aa [] w w':=by
 obtain ⟨ga,v,rfl,h⟩:=h;have c0':=h.c0;have hl:=h.ok.n;have H:=χ h;unfold zz
 by_cases b1:x≥0
 ·by_cases b2:x<(R.sl.length:Int)
  ·have d0':=h.s0 (x:=x.toNat) ω;have d1':=h.s1 (x:=x.toNat) ω;rw [show ((x.toNat * 2:Nat))=x.toNat * 2 from rfl] at d0';rw [Ν (show 0<=x from b1),Ν b2];generalize R.g x.toNat=gi at *;generalize R.v x.toNat=vi at *;generalize R.sl.length=n at *;clear h
   go_enter Tryz.func73,Tryz.ntmps73
   (go_upto_region 1 with (fail);refine iR (λW=>W.cell? ⟨w.heap.size,0,none⟩=some (.int .i64 x)/\W.cell? ⟨w.heap.size,1,none⟩=some (.int .u32 g)/\aa [] w W) ⟨σ,σ,β⟩ ?_;rintro W ⟨q0,q1,hu⟩)
   have c0:=hu.was c0';have d0:=hu.was d0';have d1:=hu.was d1';have HU:=χ hu;clear hu c0' d0' d1'
   by_cases e:(gi:Int)=g
   ·subst e;cases vi
    all_goals
     go_quiet (fail)
     go_wp2;go_ret;exact ⟨bM σ,by have:=HU.out;exact β⟩
   ·cases vi
    all_goals
     go_quiet (fail)
     go_wp2;go_ret;exact ⟨bM (by simp [e]),by have:=HU.out;exact β⟩
  ·have b2b:decide (x<(R.sl.length:Int))=false:=by simpa using b2
   rw [b2b];generalize R.sl.length=n at *;clear h
   go_enter Tryz.func73,Tryz.ntmps73
   (go_upto_region 1 with (fail);refine iR (λW=>W.cell? ⟨w.heap.size,0,none⟩=some (.int .i64 x)/\W.cell? ⟨w.heap.size,1,none⟩=some (.int .u32 g)/\aa [] w W) ⟨σ,σ,β⟩ ?_;rintro W ⟨q0,q1,hu⟩)
   have c0:=hu.was c0';have HU:=χ hu;clear hu c0'
   go_quiet (fail)
   go_wp2;go_ret;exact ⟨bM σ,by have:=HU.out;exact β⟩
 ·have b1b:decide (x≥0)=false:=by simpa using b1
  rw [Ξ (show ¬0<=x from b1)];clear h
  go_enter Tryz.func73,Tryz.ntmps73
  (go_upto_region 1 with (fail);refine iR (λW=>W.cell? ⟨w.heap.size,0,none⟩=some (.int .i64 x)/\W.cell? ⟨w.heap.size,1,none⟩=some (.int .u32 g)/\aa [] w W) ⟨σ,σ,β⟩ ?_;rintro W ⟨q0,q1,hu⟩)
  have HU:=χ hu;clear hu
  go_quiet (fail)
  go_wp2;go_ret;exact ⟨bM σ,by have:=HU.out;exact β⟩
end
theorem Dw {w:World} {base g n cap k:Nat} {e:TypeId} {xs:List Value} (h:w.ownsRow base e 1 (.slice (some ⟨g,0,none⟩) n cap) n xs) (hk:k<=n):w.ownsRow base e 1 (.slice (some ⟨g,0,none⟩) k cap) k (xs.take k):=by
 rcases h.2 with ⟨h1,_⟩|⟨g',cap',cur,h1,hb,hg,hn,hc,hs,ht⟩
 ·cases h1
 ·cases h1;have h0:=h.1;exact ⟨by rw [ϐ];omega,Β ⟨g,cap,cur,rfl,hb,hg,ω,hc,hs,by rw [←ht,List.take_take];congr 1;omega⟩⟩
theorem Qa {R R':AR} {x:Nat} (h:R.Ok) (hp:rW R=some (x,R')):R'.Ok:=by
 obtain ⟨h1,h2,h3,h4,h5,h6,h7,h8,h9,h10⟩:=vF h hp;have eg:∀z,R'.g z=R.g z:=λz=>by unfold AR.g;rw [h4]
 have ev:∀z,R'.v z=R.v z:=λz=>by unfold AR.v;rw [h4]
 refine ⟨by rw [h4];exact h.n,by rw [h4];exact h6,by rw [h5];exact h.Su,λz hz=>?_,h10,λz hz=>?_,λz hz=>by rw [ev] at hz;rw [eg];exact h.lv z hz,λz=>by rw [eg,h5];exact h.gm z⟩
 ·obtain ⟨a1,_⟩:=h9 z hz;obtain ⟨b1,b2,b3⟩:=h.wt z a1;rw [ev,eg,h5];exact ⟨ω,b2,b3⟩
 ·rw [ev,eg];exact h.fresh z ω
section
variable {w:World} {pa ga:Nat} {v:Value} {R:AR} {F:List Nat}
theorem OV (h:nD w pa F R) (x:Nat) (hx:R.v x=true) :
  Calls Tryz.prog 72 #[.pointer (some ⟨pa,0,none⟩),.int .i64 (x:Int)] w λe w'=>e=.returned (.tuple #[.agg #[.int .i64 (x:Int),.int .u32 (R.g x:Int)],.bool true])/\aa [] w w':=by
 obtain ⟨ga,v,rfl,h⟩:=h;have hl:=AR.Kg hx;have hn:=h.ok.n;have c0:=h.c0;have d0:=h.s0 hl;have d1:=h.s1 hl;rw [hx] at d1;have zS:(x:Int)<(R.sl.length:Int):=ω;have hx2:¬R.sl.length<=x:=ω;generalize R.g x=gx at *;generalize R.sl.length=n at *;have l1:=Ε w _ c0;have l2:=Ε w _ d0;clear h hx
 go_enter Tryz.func72,Tryz.ntmps72
 go_wp2;exact bodyPost_ret (v:=.tuple #[.agg #[.int .i64 (x:Int),.int .u32 (gx:Int)],.bool true]) (by simp [results,Tryz.results72,go_sem]) rfl ⟨rfl,β⟩
theorem Lv {l:List Nat} {j x:Nat} (h:l[j]?=some x):(bG l).getD j 0=(x:Int):=by unfold bG;simp [φ,h]
theorem xA (l:List Int) (k:Nat):(aT l).take k=aT (l.take k):=by unfold aT;rw [List.map_take]
theorem yQ (l:List Nat) (k:Nat):(bG l).take k=bG (l.take k):=by unfold bG;rw [List.map_take]
theorem rf.setv (h:rf w pa ga v R) {R':AR} {v':Value} (ok:R'.Ok) (e1:R'.sl=R.sl) (e2:R'.next=R.next) (e3:R'.most=R.most) (hw:w.ownsRow 0 3 1 v' R'.wait.length (aT (bG R'.wait))) (hb:∀k,v'.ownBlock=some k->k≠pa/\k≠ga) :
  rf (w.setCell ⟨pa,1,none⟩ v') pa ga v' R':=by
 have hu:aa [pa] w (w.setCell ⟨pa,1,none⟩ v'):=(aa.refl _ _).setCell (Α σ) _;refine ⟨(h.head.set 1 v').ext (λj hj=>?_),?_,au hw hu (λk hk e=>(hb k hk).1 (by simpa using e)),h.ne,hb,ok⟩
 ·rcases (ω:j=0\/j=1\/j=2\/j=3\/j=4) with rfl|rfl|rfl|rfl|rfl<;>simp [UE,AR.cnt,e1,e2,e3]
 ·rw [e1];exact (h.row.upd hu (by simp;exact λe=>h.ne e.symm)).ext (λj hj=>by unfold LC AR.g AR.v;rw [e1])
theorem rf.setn (h:rf w pa ga v R) {R':AR} (ok:R'.Ok) (e1:R'.sl=R.sl) (e2:R'.wait=R.wait) (e3:R'.most=R.most):rf (w.setCell ⟨pa,2,none⟩ (.int .i64 (R'.next:Int))) pa ga v R':=by
 have hu:aa [pa] w (w.setCell ⟨pa,2,none⟩ (.int .i64 (R'.next:Int))):=(aa.refl _ _).setCell (Α σ) _;refine ⟨(h.head.set 2 _).ext (λj hj=>?_),?_,by rw [e2];exact au h.wait hu (λk hk e=>(h.nw k hk).1 (by simpa using e)),h.ne,h.nw,ok⟩
 ·rcases (ω:j=0\/j=1\/j=2\/j=3\/j=4) with rfl|rfl|rfl|rfl|rfl<;>simp [UE,AR.cnt,e1,e3]
 ·rw [e1];exact (h.row.upd hu (by simp;exact λe=>h.ne e.symm)).ext (λj hj=>by unfold LC AR.g AR.v;rw [e1])
theorem Ew (h:rf w pa ga v R) {x:Nat} {R':AR} (hp:rW R=some (x,R')) :
  Calls Tryz.prog 71 #[.pointer (some ⟨pa,0,none⟩)] w λe w'=>e=.returned (.tuple #[.int .i64 (x:Int),.bool true])/\∃v',v'.ownBlock=v.ownBlock/\rf w' pa ga v' R'/\aa [pa] w w':=by
 have ok':=Qa h.ok hp;have hwl:=AR.Hz h.ok;have hn:=h.ok.n;have hnx:=h.ok.nx;unfold rW at hp;cases hl:R.wait.getLast? with
 | some y=>
  rw [hl] at hp;simp only [ϕ,Prod.mk.injEq] at hp;obtain ⟨rfl,rfl⟩:=hp;have hne:R.wait≠[]:=λe=>by rw [e] at hl;cases hl
  have hpos:0<R.wait.length:=List.length_pos_iff.2 hne;have c1:=h.c1;have f1:=h.head.free 1;obtain ⟨gw,cap,rfl,_,hgl,hnc,hcm,hcell,_⟩:=ed h.wait hpos;have hat:R.wait[R.wait.length-1]?=some y:=by rw [←List.getLast?_eq_getElem?];exact hl
  have d0:=hcell (R.wait.length-1) (.int .i64 (y:Int)) (by rw [jT (by rw [J5];omega),Lv hat]);have hdl:R.wait.dropLast=R.wait.take (R.wait.length-1):=List.dropLast_eq_take;have hw2:=Dw h.wait (k:=R.wait.length-1) ω;rw [xA,yQ,←hdl] at hw2;have hll:R.wait.dropLast.length=R.wait.length-1:=σ;have HF:=χ (show rf (w.setCell ⟨pa,1,none⟩ (.slice (some ⟨gw,0,none⟩) (R.wait.length-1) cap)) pa ga (.slice (some ⟨gw,0,none⟩) (R.wait.length-1) cap) { R with wait:=R.wait.dropLast } from h.setv ok' rfl rfl rfl (by show w.ownsRow 0 _ 1 _ R.wait.dropLast.length _;rw [hll];exact hw2) h.nw);have LU:=Ε w _ c1
  clear h ok' hcell hat hdl hw2 hll hl hne;generalize hwn:R.wait.length=wn at *;obtain ⟨m,rfl⟩:∃m,wn=m+1:=⟨wn-1,ω⟩;simp only [Nat.add_sub_cancel] at d0 HF;clear hwn;have hmi:((m+1:Nat):Int)-1=(m:Int):=ω;have hwr:IntKind.i64.wrap (((m+1:Nat):Int)-1)=(m:Int):=by rw [hmi];exact Μ _ ω
  have hgt:((m+1:Nat):Int) > 0:=ω;have hlt:(m:Int)<((m+1:Nat):Int):=ω;have hcapI:(m:Int)<=(cap:Int):=ω
  go_enter Tryz.func71,Tryz.ntmps71
  go_wp2;go_ret2;exact ⟨rfl,.slice (some ⟨gw,0,none⟩) m cap,rfl,HF.out,β⟩
 | none=>
  rw [hl] at hp;have hw:R.wait=[]:=List.getLast?_eq_none_iff.1 hl;dsimp only at hp
  split at hp
  ·cases hp
  ·rename_i hne
   simp only [ϕ,Prod.mk.injEq] at hp;obtain ⟨rfl,rfl⟩:=hp;have c0:=h.c0;have c1:=h.c1;have c2:=h.c2;have f2:=h.head.free 2;have hv:=h.wait;rw [hw] at hv;obtain ⟨a,c,rfl,hc⟩:=bz hv;simp only [List.length_nil] at c1;have hnn:((R.next:Int) == (R.sl.length:Int))=false:=ζ;have hwr:IntKind.i64.wrap ((R.next:Int)+1)=(R.next:Int)+1:=Μ _ ω;have hwr2:IntKind.i64.wrap ((R.next:Int)+1-1)=(R.next:Int):=by rw [show (R.next:Int)+1-1=(R.next:Int) by omega];exact Μ _ ω
   have LU:=Ε w _ c0;have HF:=χ (λW (hW:aa [] w W)=>(h.upd hW σ).setn (R':={ R with next:=R.next+1 }) ok' rfl rfl rfl);have HC:=χ (show ((({ R with next:=R.next+1 }:AR).next:Nat):Int)=(R.next:Int)+1 from by show ((R.next+1:Nat):Int)=_;omega);clear h ok' hv hw hl;generalize hq:({ R with next:=R.next+1 }:AR)=R2 at *;clear hq;generalize R.next=nx at *;generalize R.sl.length=n at *
   go_enter Tryz.func71,Tryz.ntmps71
   go_wp2
   go_quiet (fail)
   go_wp2;go_ret2;refine ⟨rfl,_,rfl,?_,β⟩;have:=HF.out _ (((aa.refl [] w).drewN nq));rw [HC.out] at this;exact this
theorem Rs {R:AR} {x:Nat} (hx:x<R.sl.length) (p:Nat×Bool) (j:Nat):LC (R.put x p) j=if j=x*2+1 then .bool p.2 else if j=x*2 then .int .u32 (p.1:Int) else LC R j:=by
 unfold LC;rw [AR.wI,AR.xq]
 by_cases e3:j % 2=0
 ·rw [Γ (show ¬j=x*2+1 by omega)];simp only [Δ e3]
  by_cases e2:j=x*2
  ·rw [Δ e2,Δ ⟨ω,hx⟩]
  ·rw [Γ e2,Γ ω]
 ·simp only [Γ e3];rw [Γ (show ¬j=x*2 by omega)]
  by_cases e2:j=x*2+1
  ·rw [Δ e2,Δ ⟨ω,hx⟩]
  ·rw [Γ e2,Γ ω]
theorem rf.put (h:rf w pa ga v R) {x:Nat} (hx:x<R.sl.length) (p:Nat×Bool) (ok:(R.put x p).Ok) {w':World} (hrow:aJ w' ga 152 (R.sl.length*2) (λi=>if i=x*2+1 then .bool p.2 else if i=x*2 then .int .u32 (p.1:Int) else LC R i)) (hu:aa [ga] w w') :
  rf (w'.setCell ⟨pa,3,none⟩ (.int .i64 ((R.put x p).cnt:Int))) pa ga v (R.put x p):=by
 have hu2:aa [pa,ga] w (w'.setCell ⟨pa,3,none⟩ (.int .i64 ((R.put x p).cnt:Int))):=(hu.mono σ).setCell (Α σ) _;refine ⟨((h.head.upd hu (by simpa using h.ne)).set 3 _).ext (λj hj=>?_),?_,au h.wait hu2 (λk hk e=>?_),h.ne,h.nw,ok⟩
 ·rcases (ω:j=0\/j=1\/j=2\/j=3\/j=4) with rfl|rfl|rfl|rfl|rfl<;>simp [UE,AR.iW]
  all_goals rfl
 ·rw [AR.iW];exact (hrow.far _ _ (by simpa using h.ne.symm)).ext (λj hj=>(Rs hx p j).symm)
 ·have:=h.nw k hk;simp at e;omega
theorem Eh (h:nD w pa F R) {x:Nat} {R':AR} (hp:qp R=some (x,R')) :
  Calls Tryz.prog 40 #[.pointer (some ⟨pa,0,none⟩)] w λe w'=>e=.returned (.tuple #[.agg #[.int .i64 (x:Int),.int .u32 ((R.g x:Int)+1)],.int .i64 0])/\Goes F w w' (λF'=>nD w' pa F' R'):=by
 have R7:=xe h.ok hp;obtain ⟨ga,v,rfl,h⟩:=h;unfold qp at hp;cases hq:rW R with
 | none=>rw [hq] at hp;cases hp
 | some q=>
  obtain ⟨y,R1⟩:=q;rw [hq] at hp;simp only [Option.map_some,ϕ,Prod.mk.injEq] at hp;obtain ⟨rfl,rfl⟩:=hp;obtain ⟨XJ,hx,hv0,hgm,hsl,hmst,hcnt⟩:=R7;obtain ⟨_,_,_,h4,_⟩:=vF h.ok hq;have hmo:=h.ok.Su;have hlp:=h.head.lt;have hlg:=h.row.lt;have hvl:=λk hk=>(h.wait.lt k hk).2;have k:=λW (hW:aa [] w W)=>Ew (h.upd hW σ) hq;have hx1:y<R1.sl.length:=by rw [h4];exact hx
  have hg1:R1.g y=R.g y:=by unfold AR.g;rw [h4]
  have hcn:R1.cnt<=65536:=by
   have h1:=I8 R1.sl;have h2:=h.ok.n;unfold AR.cnt;rw [h4] at h1 ⊢;omega
  have hv1:R1.v y=false:=by unfold AR.v at hv0 ⊢;rw [h4];exact hv0
  have hc2:(R1.put y (R.g y+1,true)).cnt=R1.cnt+1:=by
   have:=AR.wW (R:=R1) y (R.g y+1,true) hx1;rw [hv1] at this;simpa using this
  have hn1:R1.sl.length<=65536:=by rw [h4];exact h.ok.n
  have hwg:IntKind.u32.wrap ((R.g y:Int)+1)=(R.g y:Int)+1:=IntWalk.u32_in _ ω;have hwc:IntKind.i64.wrap ((R1.cnt:Int)+1)=(R1.cnt:Int)+1:=Μ _ ω;have hne:=h.ne;have hnw:=h.nw;have HT:=χ (ψ XJ hc2);clear h hq XJ hc2 hcnt hsl hmst hv0 h4
  go_enter Tryz.func40,Tryz.ntmps40
  go_upto_region 4 with (first
   | ((go_at_call 71;(with_reducible refine (k _ β).mono ?_));rintro e w1 ⟨rfl,v1,CO,hM,hu1⟩;(have q0:w1.cell? ⟨w.heap.size,0,none⟩=some (.int .i64 0):=hu1.kept γ ζ);(have q1:w1.cell? ⟨w.heap.size,1,none⟩=some (.int .u32 0):=hu1.kept γ ζ);(have f0:w1.frozen? ⟨w.heap.size,0,none⟩=false:=hu1.aM (v:=.int .i64 0) γ ζ γ);(have f1:w1.frozen? ⟨w.heap.size,1,none⟩=false:=hu1.aM (v:=.int .u32 0) γ ζ γ))
   | fail)
  have b0:=hM.c0;have b1:=hM.s0 hx1;have b2:=hM.s1 hx1;have b3:=hM.c3;have g1:=hM.row.free (y*2);have g2:=hM.row.free (y*2+1);have g3:=hM.head.free 3;have U4:(y:Int)<(R1.sl.length:Int):=ω;rw [hg1] at b1;have hsz1:=hu1.size;have hgl:=hM.row.lt;have YR:¬ga=w.heap.size:=ω;have WT:¬pa=w.heap.size:=ω;have Vq:¬w.heap.size=ga:=ω;have VZ:¬w.heap.size=pa:=ω;have V4:¬ga=pa:=λe=>hne e.symm;have hrow:=(hM.row.set (y*2) (.int .u32 ((R.g y:Int)+1))).set (y*2+1) (.bool true);have HM:=χ (ψ hM (ψ hrow (ψ hu1 (ψ CO (ψ hnw hvl)))));clear hM hrow hu1 k CO hnw hvl;generalize YC:R.g y=gy at *
  generalize R1.cnt=cn at *;generalize hnn:R1.sl.length=n at *;have HG:=χ (ψ YC hnn);clear YC hnn;go_wp2;obtain ⟨hM,hrow,hu1,CO,hnw,hvl⟩:=HM.out;have e1:(((gy+1:Nat)):Int)=(gy:Int)+1:=ω;have hU:aa [ga] w1 ((w1.setCell ⟨ga,y*2,none⟩ (.int .u32 ((gy:Int)+1))).setCell ⟨ga,y*2+1,none⟩ (.bool true)):=((aa.refl _ _).setCell (Α σ) _).setCell (Α σ) _;have hok:=HT.out.1;have hct:=HT.out.2
  have hP:=hM.put (by rw [HG.out.2];exact hx1) (gy+1,true) hok (w':=(w1.setCell ⟨ga,y*2,none⟩ (.int .u32 ((gy:Int)+1))).setCell ⟨ga,y*2+1,none⟩ (.bool true)) (by
   rw [HG.out.2]
   exact hrow.ext (λj hj=>by dsimp only;rw [e1])) hU
  rw [hct,show ((cn+1:Nat):Int)=(cn:Int)+1 by omega] at hP;have hF:∀x,x∈pa::ga::v1.ownBlock.toList->x∈pa::ga::v.ownBlock.toList:=λx hx=>by rw [CO] at hx;exact hx
  have hU1:aa (pa::ga::v.ownBlock.toList) w w1:=aa.trans ((aa.refl _ _).alloc _) (hu1.mono σ);refine bodyPost_ret (v:=.tuple #[.agg #[.int .i64 (y:Int),.int .u32 ((gy:Int)+1)],.int .i64 0]) (by simp [results,Tryz.results40,go_sem,q0,q1,YR,WT,Vq,VZ]) rfl ⟨by rw [HG.out.1],pa::ga::v1.ownBlock.toList,⟨ga,v1,rfl,?_⟩,?_,λx hx=>Α (hF x hx)⟩
  ·rw [HG.out.1];refine hP.upd (S:=[w.heap.size]) (((aa.refl _ _).setCell (Α σ) _).setCell (Α σ) _) (λx hx hm=>?_);simp at hx;subst hx;have hm2:=hF _ hm;simp at hm2;rcases hm2 with e|e|e
   ·exact VZ e
   ·exact Vq e
   ·have:=hvl _ e;omega
  ·exact ((((hU1.setCell (Α σ) _).setCell (Α σ) _).setCell (Α σ) _).setCell (Β (Θ _)) _).setCell (Β (Θ _)) _
end
theorem TK {R:AR} {x:Nat} (h:R.Ok) (hv:R.v x=true):(R.put x (R.g x,false)).Ok:=by
 have k:=(xk h hv).1;refine ⟨k.n,k.nx,k.Su,λz hz=>k.wt z ?_,h.nd,k.fresh,k.lv,k.gm⟩
 show z∈(if R.g x<R.most then R.wait++[x] else R.wait)
 split
 ·exact τ.2 (Α hz)
 ·exact hz
section
variable {w:World} {pa ga:Nat} {v:Value} {R:AR} {F:List Nat}
theorem rf.Xb {w2:World} (hh:aJ w2 pa 120 5 (UE ga v R)) (hr:aJ w2 ga 152 (R.sl.length*2) (LC R)) (hne:pa≠ga) {R':AR} {v':Value} (ok:R'.Ok) (e1:R'.sl=R.sl) (e2:R'.next=R.next) (e3:R'.most=R.most) (hw:w2.ownsRow 0 3 1 v' R'.wait.length (aT (bG R'.wait))) (hb:∀k,v'.ownBlock=some k->k≠pa/\k≠ga) :
  rf (w2.setCell ⟨pa,1,none⟩ v') pa ga v' R':=by
 have hu:aa [pa] w2 (w2.setCell ⟨pa,1,none⟩ v'):=(aa.refl _ _).setCell (Α σ) _;refine ⟨(hh.set 1 v').ext (λj hj=>?_),?_,au hw hu (λk hk e=>(hb k hk).1 (by simpa using e)),hne,hb,ok⟩
 ·rcases (ω:j=0\/j=1\/j=2\/j=3\/j=4) with rfl|rfl|rfl|rfl|rfl<;>simp [UE,AR.cnt,e1,e2,e3]
 ·rw [e1];exact (hr.upd hu (by simp;exact λe=>hne e.symm)).ext (λj hj=>by unfold LC AR.g AR.v;rw [e1])
theorem Gz (h:nD w pa F R) (x:Nat) (hv:R.v x=true) :
    Calls Tryz.prog 43 #[.pointer (some ⟨pa,0,none⟩),.agg #[.int .i64 (x:Int),.int .u32 (R.g x:Int)]] w λe w'=>e=.returned (.int .i64 0)/\Goes F w w' (λF'=>nD w' pa F' (ji R x)):=by
  have hx:=AR.Kg hv;have hok:=h.ok;have hgm:=hok.gm x;have hmo:=hok.Su;have kl:=λW (hW:aa [] w W)=>ym (h.upd hW σ) (x:Int) (R.g x:Int) ω;have hlv:zz R (x:Int) (R.g x:Int)=true:=by
    unfold zz;rw [show ((x:Nat):Int).toNat=x by omega,hv,Ν (ω:(0:Int)<=x),Ν (ω:(x:Int)<R.sl.length)];simp
  rw [hlv] at kl;obtain ⟨ga,v,rfl,h⟩:=h;obtain ⟨av,cv,rfl,hcv⟩:=bz h.wait;have DC:=xk hok hv;have hoff:=TK hok hv;have hcn:R.cnt<=65536:=by have h1:=I8 R.sl;have h2:=hok.n;unfold AR.cnt;omega
  have hc1:(R.put x (R.g x,false)).cnt+1=R.cnt:=by
    have:=AR.wW (R:=R) x (R.g x,false) hx;rw [hv] at this;simpa using this
  have hwc:IntKind.i64.wrap ((R.cnt:Int)-1)=(R.cnt:Int)-1:=Μ _ ω;have hlp:=h.head.lt;have hlg:=h.row.lt;have hne:=h.ne;have hwl:=AR.Hz hok;have hnn:=hok.n;have hnx:=hok.nx;have H:=χ (ψ h (ψ hoff (ψ DC hc1)));have hvl:=λk hk=>(h.wait.lt k hk).2;have HVL:=χ (ψ hvl h.nw);have b0':=h.c0;have b3':=h.c3;have b4':=h.c4;have b1':=h.c1;have s1':=h.s1 hx;have g2':=h.row.free (x*2+1);have g3':=h.head.free 3;have g1':=h.head.free 1;have zS:(x:Int)<(R.sl.length:Int):=ω;clear h hok DC hoff hlv hvl hv;have YR:¬ga=w.heap.size:=ω;have WT:¬pa=w.heap.size:=ω;have Vq:¬w.heap.size=ga:=ω
  have VZ:¬w.heap.size=pa:=ω;have V4:¬ga=pa:=λe=>hne e.symm
  go_enter Tryz.func43,Tryz.ntmps43
  go_wp2_with (first
    | ((go_at_call 73;(with_reducible refine (kl _ β).mono ?_));rintro e w1 ⟨rfl,hu1⟩;(have q0:w1.cell? ⟨w.heap.size,0,none⟩=some (.int .i64 (x:Int)):=hu1.was γ);(have q1:w1.cell? ⟨w.heap.size,1,none⟩=some (.int .u32 (R.g x:Int)):=hu1.was γ);(have hu:aa [] w w1:=aa.trans β hu1);(have b0:=hu.was b0');(have b1:=hu.was b1');(have b3:=hu.was b3');(have b4:=hu.was b4');(have s1:=hu.was s1');(have g1:=hu.aM b1' σ g1');(have g2:=hu.aM s1' σ g2');(have g3:=hu.aM b3' σ g3'))
    | fail)
  have HU:=χ hu;have hsz1:=hu.size;have hszA:=hu1.size;rw [Κ] at hszA;clear hu hu1 kl b0' b1' b3' b4' s1' g1' g2' g3'
  go_region
  go_upto_region 5 with (fail)
  obtain ⟨hM,hoff,DC,hc1⟩:=H.out;have hM1:=hM.upd HU.out σ
  have hP:=λW (hW:aa [] w1 W)=>(hM1.upd hW σ).put hx (R.g x,false) hoff (w':=W.setCell ⟨ga,x*2+1,none⟩ (.bool false)) (((hM1.upd hW σ).row.set (x*2+1) (.bool false)).ext (λj hj=>by
    dsimp only
    by_cases e1:j=x*2+1
    · rw [Δ e1,Δ e1]
    · rw [Γ e1,Γ e1]
      by_cases e2:j=x*2
      · rw [Δ e2,e2];unfold LC;rw [Δ ω,show x*2 / 2=x by omega]
      · rw [Γ e2])) ((aa.refl _ _).setCell (Α σ) _)
  rw [show (((R.put x (R.g x,false)).cnt:Nat):Int)=(R.cnt:Int)-1 by omega] at hP;refine iR (λW=>W.cell? ⟨w.heap.size,0,none⟩=some (.int .i64 (x:Int))/\W.cell? ⟨w.heap.size,1,none⟩=some (.int .u32 (R.g x:Int))/\rf W pa ga (.slice av R.wait.length cv) (R.put x (R.g x,false))/\aa [pa,ga] w W) ⟨γ,γ,(hP w1 (aa.refl _ _)).upd (S:=[]) ((aa.refl _ _).drew) σ,?_⟩ ?_
  · have:=HU.out.mono (T:=[pa,ga]) σ
    (repeat (first|assumption|exact aa.refl _ _|refine aa.alloc ?_ _|refine aa.drew ?_|refine aa.drewN ?_ _|refine aa.setCell ?_ ?_ _|focus (left;simp;done)|focus (right;simp;done)|focus (right;simp;omega)))
  rintro W ⟨q2,q3,jV,Ol⟩;clear hM1 hP hM b0 b1 b3 b4 s1 g1 g2 g3 q0 q1;have c1:=jV.c1;have c4:=jV.c4;have f1:=jV.head.free 1;have hw:=jV.wait;have hszW:=Ol.size;have hlW:w.heap.size<W.heap.size:=Ε W _ q2;have HMW:=χ (ψ jV (ψ DC Ol));clear jV Ol DC hc1 hoff;rw [show (R.put x (R.g x,false)).most=R.most from rfl] at c4;rw [show (R.put x (R.g x,false)).wait=R.wait from rfl] at hw
  by_cases hlt:R.g x<R.most
  · have Xh:decide ((R.g x:Int)<(R.most:Int))=true:=by simp;exact hlt
    go_wp2
    go_quiet (fail)
    go_wp2;refine iR (λW6=>aa [] W W6) β ?_;intro W6 jy;have p1:=jy.was c1;have p2:=jy.was q2;have pf1:=jy.aM c1 σ f1;have PV:=au (S:=[]) hw jy σ;have hsz6:=jy.size;have s0:aa [] W6 (W6.drew.alloc (.cells #[.int .i64 (x:Int)] 3)):=((aa.refl _ _).drew).alloc _;have rr:∀S X,aa S W6 X->pa∉S->X.frozen? ⟨pa,1,none⟩=false:=λS X h hn=>h.aM p1 hn pf1;have rc:∀S X,aa S W6 X->pa∉S->(X.cell? ⟨pa,1,none⟩).isSome=true:=λS X h hn=>by rw [h.kept p1 hn];rfl
    have hpa6:pa<W6.heap.size:=Ε W6 _ p1;have hrs6:w.heap.size<W6.heap.size:=Ε W6 _ p2;clear c1 c4 f1 q2 q3 Xh hw
    go_region_law
      (first
        | (refine kS rfl _ _ 77 rfl 0 3 (.int .i64 0) 1 8 Tryz.underlying77 fF rfl δ (.slice av R.wait.length cv) R.wait.length (aT (bG R.wait)) rfl (PV.drew.alloc _) W6.heap.size [.int .i64 (x:Int)] rfl rfl (λj u hj=>l8 W6 [.int .i64 (x:Int)] 3 j u hj) (by simp [Value.oneCell']) μ ω σ ?_
           intro v2 w2 ho2 hu2 hv2;have hS2:aa (Value.slice av R.wait.length cv).ownBlock.toList W6 w2:=(s0.mono σ).trans hu2;have Vj:pa∉(Value.slice av R.wait.length cv).ownBlock.toList:=λe=>by have:=HVL.out.2 pa (by simpa using e);omega
           have z1:=hS2.kept p1 Vj;have zf1:=hS2.aM p1 Vj pf1
           obtain ⟨a2,cap2,rfl,hcap2⟩:=bz ho2))
    all_goals
      go_wp2;go_ret;obtain ⟨jV,DC,Ol⟩:=HMW.out;have rV:=jV.upd jy σ;have hgw:ga∉(Value.slice av R.wait.length cv).ownBlock.toList:=λe=>by have:=HVL.out.2 ga (by simpa using e);omega
      have eR:ji R x={ R.put x (R.g x,false) with wait:=R.wait++[x] }:=by unfold ji;rw [Δ hlt]
      have CO:∀k,(Value.slice a2 (R.wait.length+1) cap2).ownBlock=some k->(Value.slice av R.wait.length cv).ownBlock=some k\/W6.heap.size<=k:=λk hk=>by
        rcases hv2 with h|h
        · rw [h] at hk;exact Α hk
        · rw [h] at hk;simp at hk;exact Β ω
      have hfin:=rf.Xb (rV.head.upd hS2 Vj) (rV.row.upd hS2 hgw) hne (R':=ji R x) (v':=.slice a2 (R.wait.length+1) cap2) DC.1 (by rw [eR]) (by rw [eR]) (by rw [eR]) (by
        have e2:(ji R x).wait=R.wait++[x]:=by rw [eR]
        rw [e2,υ,show bG (R.wait++[x])=bG R.wait++[(x:Int)] from by unfold bG;simp,bZ];exact ho2) (λk hk=>by
        rcases CO k hk with h|h
        · exact HVL.out.2 k h
        · omega)
      refine ⟨rfl,pa::ga::(Value.slice a2 (R.wait.length+1) cap2).ownBlock.toList,⟨ga,_,rfl,hfin⟩,?_,λk hk=>?_⟩
      · have h1:aa (pa::ga::(Value.slice av R.wait.length cv).ownBlock.toList) w W6:=(Ol.mono (λz hz=>by simp at hz ⊢;omega)).trans (jy.mono σ)
        exact (h1.trans (hS2.mono (λz hz=>by simp [hz]))).setCell (Α σ) _
      · simp only [ρ] at hk ⊢
        rcases hk with h|h|h
        · exact Α (Α h)
        · exact Α (Β (Α h))
        · rcases CO k (by simpa using h) with h'|h'
          · exact Α (Β (Β (by simpa using h')))
          · exact Β ω
  · have Xh:decide ((R.g x:Int)<(R.most:Int))=false:=ζ
    go_wp2
    go_quiet (fail)
    go_wp2;go_ret;obtain ⟨jV,DC,Ol⟩:=HMW.out;have eR:ji R x=R.put x (R.g x,false):=by unfold ji;rw [Γ hlt];rfl
    rw [eR];refine ⟨rfl,_,⟨ga,_,rfl,jV.upd (S:=[]) β σ⟩,?_,λk hk=>Α hk⟩;have h1:aa (pa::ga::(Value.slice av R.wait.length cv).ownBlock.toList) w W:=Ol.mono (λz hz=>by simp at hz ⊢;omega);exact h1.trans β
end
def Wx (K:NestQ) (pa pn:Nat) (kd d:Int) (q:Nat) (j:Nat):Value:=[Value.int .i64 kd,.int .i64 d,.pointer (some ⟨pa,0,none⟩),.iface K.ty (.pointer (some ⟨pn,0,none⟩)),.int .u64 (q:Int)].getD j undef
structure Av (K:NestQ) (w:World) (p pa pn:Nat) (Fa Fn:List Nat) (kd d:Int) (R:AR) (A:NS) (q:Nat):Prop where
 head:aJ w p 89 5 (Wx K pa pn kd d q)
 ar:nD w pa Fa R
 nest:K.at_ w pn Fn A
 s1:p∉Fa
 s2:p∉Fn
 s3:∀x,x∈Fa->x∉Fn
 len:R.sl.length=A.cs.length
 link:∀x:Nat,R.v x=bR A (x:Int)
def fA (K:NestQ) (w:World) (p:Nat) (F:List Nat) (kd d:Int) (R:AR) (A:NS) (q:Nat):Prop:=∃pa pn Fa Fn,F=p::(Fa++Fn)/\Av K w p pa pn Fa Fn kd d R A q
section
variable {K:NestQ} {w:World} {p pa pn:Nat} {Fa Fn F:List Nat} {kd d:Int} {R:AR} {A:NS} {q:Nat}
theorem Av.c2 (h:Av K w p pa pn Fa Fn kd d R A q):w.cell? ⟨p,2,none⟩=some (.pointer (some ⟨pa,0,none⟩)):=h.head.cellAt 2 ω rfl
theorem Av.c3 (h:Av K w p pa pn Fa Fn kd d R A q):w.cell? ⟨p,3,none⟩=some (.iface K.ty (.pointer (some ⟨pn,0,none⟩))):=h.head.cellAt 3 ω rfl
theorem Av.c4 (h:Av K w p pa pn Fa Fn kd d R A q):w.cell? ⟨p,4,none⟩=some (.int .u64 (q:Int)):=h.head.cellAt 4 ω rfl
theorem Av.upd {w':World} {S:List Nat} (h:Av K w p pa pn Fa Fn kd d R A q) (hu:aa S w w') (hS:∀x,x∈S->x∉p::(Fa++Fn)):Av K w' p pa pn Fa Fn kd d R A q:=
 ⟨h.head.upd hu (λe=>hS _ e σ),h.ar.upd hu (λx hx hm=>hS x hx (by simp [hm])),K.upd h.nest hu (λx hx hm=>hS x hx (by simp [hm])),h.s1,h.s2,h.s3,h.len,h.link⟩
theorem fA.upd {w':World} {S:List Nat} (h:fA K w p F kd d R A q) (hu:aa S w w') (hS:∀x,x∈S->x∉F):fA K w' p F kd d R A q:=by
 obtain ⟨pa,pn,Fa,Fn,rfl,h⟩:=h;exact ⟨pa,pn,Fa,Fn,rfl,h.upd hu hS⟩
theorem fA.ai {w':World} (h:fA K w p F kd d R A q) (hu:aa [] w w'):fA K w' p F kd d R A q:=h.upd hu σ
theorem Av.lt (h:Av K w p pa pn Fa Fn kd d R A q):∀x,x∈p::(Fa++Fn)->x<w.heap.size:=λx hx=>by
 simp only [ρ,τ] at hx;rcases hx with rfl|hx|hx
 ·exact h.head.lt
 ·exact h.ar.lt x hx
 ·exact K.lt h.nest x hx
theorem fA.lt (h:fA K w p F kd d R A q):∀x,x∈F->x<w.heap.size:=by
 obtain ⟨pa,pn,Fa,Fn,rfl,h⟩:=h;exact h.lt
theorem fA.ok (h:fA K w p F kd d R A q):A.Ok/\R.Ok/\R.sl.length=A.cs.length/\∀x:Nat,R.v x=bR A (x:Int):=by
 obtain ⟨pa,pn,Fa,Fn,rfl,h⟩:=h;exact ⟨K.ok h.nest,h.ar.ok,h.len,h.link⟩
theorem Av.Mt (h:Av K w p pa pn Fa Fn kd d R A q) {w':World} {wH:List Nat} {A':NS} (hn:K.at_ w' pn wH A') (hu:aa Fn w w') (hf:∀x,x∈wH->x∈Fn\/w.heap.size<=x) (hl:A'.cs.length=A.cs.length) {R':AR} (ha:nD w' pa Fa R') (hl2:R'.sl.length=R.sl.length)
  (hk:∀x:Nat,R'.v x=bR A' (x:Int)):Av K w' p pa pn Fa wH kd d R' A' q:=
 ⟨h.head.upd hu h.s2,ha,hn,h.s1,λe=>by rcases hf _ e with e|e;exact h.s2 e;have:=h.head.lt;omega,λx hx e=>by rcases hf _ e with e|e;exact h.s3 x hx e;have:=h.ar.lt x hx;omega,by rw [hl2,hl];exact h.len,hk⟩
theorem Mw (A:NS) (x:Int):bR (aI A) x=bR A x:=by unfold aI;split<;>rfl
theorem K9 (A:NS):(aI A).cs.length=A.cs.length:=by unfold aI;split<;>rfl
theorem tL (h:fA K w p F kd d R A q) :
  Calls Tryz.prog 18 #[.pointer (some ⟨p,0,none⟩)] w λe w'=>e=.returned (.tuple #[.int .i64 (bW A),.int .i64 (if bW A=0 then 32 else 0)])/\Goes F w w' (λF'=>fA K w' p F' kd d R (aI A) q):=by
 obtain ⟨pa,pn,Fa,Fn,rfl,h⟩:=h;have c3:=h.c3;obtain ⟨f,fv,hen,wP⟩:=K.make h.nest;unfold Enters at hen;have hm:=(wP w (aa.refl _ _)).1;have hc:=(wP w (aa.refl _ _)).2
 have HK:=χ (show ∀w' wH,K.at_ w' pn wH (aI A)->aa Fn w w'->(∀x,x∈wH->x∈Fn\/w.heap.size<=x)->Goes (p::(Fa++Fn)) w w' (λF'=>fA K w' p F' kd d R (aI A) q) from λw' wH hn hu hf=>by
  refine ⟨p::(Fa++wH),⟨pa,pn,Fa,wH,rfl,h.Mt hn hu hf (K9 A) (h.ar.upd hu (λx hx hm=>h.s3 x hm hx)) rfl (λx=>by rw [Mw];exact h.link x)⟩,hu.mono (λx hx=>by simp [hx]),λx hx=>?_⟩;simp only [ρ,τ] at hx ⊢;rcases hx with hx|hx|hx
  ·exact Α (Α hx)
  ·exact Α (Β (Α hx))
  ·rcases hf x hx with hx|hx
   ·exact Α (Β (Β hx))
   ·exact Β hx)
 clear h wP;generalize bW A=mv at *
 by_cases hz:mv=0
 ·subst hz
  go_enter Tryz.func18,Tryz.ntmps18
  go_wp2_with (first
   | ((with_reducible refine (hc).mono ?_);rintro e w1 ⟨rfl,wH,hn,hu,hf⟩)
   | fail)
  go_ret2;exact ⟨rfl,HK.out _ _ hn hu hf⟩
 ·have hzb:(mv == 0)=false:=by simpa using hz
  rw [Γ hz];clear hz
  go_enter Tryz.func18,Tryz.ntmps18
  go_wp2_with (first
   | ((with_reducible refine (hc).mono ?_);rintro e w1 ⟨rfl,wH,hn,hu,hf⟩)
   | fail)
  go_ret2;exact ⟨rfl,HK.out _ _ hn hu hf⟩
end
section
variable {K:NestQ} {w:World} {p pa pn:Nat} {Fa Fn F:List Nat} {kd d:Int} {R:AR} {A:NS} {q:Nat}
theorem O8 {A:NS} {hh x k s:Int} (hB:nX A hh x=true) (y:Nat):bR (aG A hh x k s) (y:Int)=(bR A (y:Int) || decide ((y:Int)=x)):=by
 obtain ⟨b1,b2,b3⟩:=(dP _ _ _).1 hB;have b4:=(aA _ _).1 b1;have b5:=(fJ _ _).1 b2;unfold aG;rw [Δ hB];have e1:bR (iF A x.toNat ⟨hh,k,s⟩) (y:Int)=true↔(bR A (y:Int) || decide ((y:Int)=x))=true:=by
  rw [ay,fD,jA,Bool.or_eq_true,ay,Ο]
  by_cases e:y=x.toNat
  ·rw [Δ ⟨e,ω⟩];constructor
   ·intro _;right;omega
   ·intro _;exact ⟨ω,by show 0<hh;omega⟩
  ·rw [Γ (λh=>e h.1)];constructor
   ·intro h;exact Α h
   ·rintro (h|h)
    ·exact h
    ·omega
 cases h1:bR (iF A x.toNat ⟨hh,k,s⟩) (y:Int)<;>cases h2:(bR A (y:Int) || decide ((y:Int)=x))<;>simp_all
theorem Ep (A:NS) (h x k s:Int):(aG A h x k s).cs.length=A.cs.length:=by unfold aG;split;exact fD _ _ _;rfl
theorem Fy {R R':AR} {x:Nat} (h:R.Ok) (hp:qp R=some (x,R')) (y:Nat):R'.v y=(R.v y || decide ((y:Int)=(x:Int))):=by
 obtain ⟨_,h1,h2,_,h3,_⟩:=xe h hp;have e:R'.v y=(R.put x (R.g x+1,true)).v y:=by unfold AR.v AR.put;rw [h3]
 rw [e,AR.xq]
 by_cases e2:y=x
 ·rw [Δ ⟨e2,h1⟩,e2];simp
 ·rw [Γ (λh=>e2 h.1),Ξ ω];simp
theorem qo (h:fA K w p F kd d R A q) (hh k:Int) (hB:bA A hh=true) (hk:-9223372036854775808<=k/\k<=9223372036854775807) (hq:q+1<=18446744073709551615) {x:Nat} {R':AR} (hT:qp R=some (x,R')) :
  Calls Tryz.prog 17 #[.pointer (some ⟨p,0,none⟩),.int .i64 hh,.int .i64 k] w λe w'=>e=.returned (.tuple #[.agg #[.int .i64 (x:Int),.int .u32 ((R.g x:Int)+1)],.int .i64 0])/\
   Goes F w w' (λF'=>fA K w' p F' kd d R' (aG A hh (x:Int) k ((q:Int)+1)) (q+1)):=by
 obtain ⟨hh,rfl⟩:∃n:Nat,hh=n:=⟨hh.toNat,by have:=(aA _ _).1 hB;omega⟩;obtain ⟨pa,pn,Fa,Fn,rfl,h⟩:=h;have hok:=K.ok h.nest;have R7:=xe h.ar.ok hT;have DT:=h.link;have WK:nX A (hh:Int) (x:Int)=true:=by
  rw [dP];refine ⟨hB,(fJ _ _).2 ⟨ω,by have:=h.len;omega⟩,?_⟩;rw [←h.link];exact R7.2.2.1
 have hb4:=(aA _ _).1 hB;have iN:=hok.h1;have hsn:=hok.c1;have hxl:=R7.2.1;have hlen:=h.len;have hac:-9223372036854775808<=k/\k<=9223372036854775807/\0<=(q:Int)+1/\(q:Int)+1<=18446744073709551615:=ω;have c2:=h.c2;have c3':=h.c3;have Z4:=h.c4;have f4':=h.head.free 4;have hpl:=h.head.lt;have Wi:=h.ar.lt;have hFn:=K.lt h.nest;have hs1:=h.s1;have hs2:=h.s2;have hs3:=h.s3;have hu0:aa [] w (w.alloc (.cells #[.int .i64 0,.int .u32 0] 46)):=(aa.refl [] w).alloc _;have hN:=K.upd h.nest hu0 σ;have kt:=λW (hW:aa [] w W)=>Eh (h.ar.upd hW σ) hT;obtain ⟨f,fv,hen,wP⟩:=K.has hh hN;unfold Enters at hen
 have hm:=(wP _ (aa.refl _ _)).1;have hc:=(wP _ (aa.refl _ _)).2;rw [hB] at hc;have hwq:IntKind.u64.wrap ((q:Int)+1)=(q:Int)+1:=IntWalk.u64_in _ ω;have Ey:w.heap.size∉Fa:=λe=>by have:=Wi _ e;omega
 have HH:=χ (ψ h (ψ hN (ψ hac (ψ Wi (ψ hFn (ψ hs3 (ψ DT R7)))))));have HBp:=χ WK;clear h wP hN hac Wi hFn hs3 DT R7 hok hB WK
 go_enter Tryz.func17,Tryz.ntmps17
 go_upto_region 7 with (first
  | ((with_reducible refine (hc).mono ?_);rintro e w1 ⟨rfl,rfl⟩)
  | ((go_at_call 40;(with_reducible refine (kt _ β).mono ?_));rintro e w2 ⟨rfl,Jd,hA2,huA,hfA⟩;(have c3:w2.cell? ⟨p,3,none⟩=some (.iface K.ty (.pointer (some ⟨pn,0,none⟩))):=huA.kept (hu0.was c3') hs1);(have c4:w2.cell? ⟨p,4,none⟩=some (.int .u64 (q:Int)):=huA.kept (hu0.was Z4) hs1);(have f4:w2.frozen? ⟨p,4,none⟩=false:=huA.aM (hu0.was Z4) hs1 (hu0.aM Z4 σ f4'));(have q0:w2.cell? ⟨w.heap.size,0,none⟩=some (.int .i64 0):=huA.kept γ Ey);(have q1:w2.cell? ⟨w.heap.size,1,none⟩=some (.int .u32 0):=huA.kept γ Ey);(have f0:w2.frozen? ⟨w.heap.size,0,none⟩=false:=huA.aM (v:=.int .i64 0) γ Ey γ);(have f1:w2.frozen? ⟨w.heap.size,1,none⟩=false:=huA.aM (v:=.int .u32 0) γ Ey γ);(have hp2:=Ε w2 _ c3);(have hr2:=Ε w2 _ q0))
  | fail)
 obtain ⟨h,hN0,hac,Wi,hFn,hs3,DT,R7⟩:=HH.out;have hd2:aJ w2 p 89 5 (Wx K pa pn kd d q):=(h.head.upd hu0 σ).upd huA hs1;have PR:K.at_ w2 pn Fn A:=K.upd hN0 huA hs3;have Ty:aa [p] w2 ((w2.setCell ⟨p,4,none⟩ (.int .u64 ((q:Int)+1))).alloc (.cells #[.int .i64 (x:Int),.int .u32 ((R.g x:Int)+1)] 46)):=((aa.refl _ _).setCell (Α σ) _).alloc _;have Og:p∉Jd:=λe=>by rcases hfA _ e with e|e;exact hs1 e;simp at e;omega
 have Nc:∀z,z∈Jd->z<w2.heap.size:=hA2.lt
 refine iR (λW=>aJ W p 89 5 (Wx K pa pn kd d (q+1))/\nD W pa Jd R'/\K.at_ W pn Fn A/\W.cell? ⟨w2.heap.size,0,none⟩=some (.int .i64 (x:Int))/\W.cell? ⟨w2.heap.size,1,none⟩=some (.int .u32 ((R.g x:Int)+1))/\
  W.cell? ⟨w.heap.size,0,none⟩=some (.int .i64 0)/\W.cell? ⟨w.heap.size,1,none⟩=some (.int .u32 0)/\W.frozen? ⟨w.heap.size,0,none⟩=false/\W.frozen? ⟨w.heap.size,1,none⟩=false/\aa [p] w2 W)
  ⟨((hd2.set 4 _).ext (λj hj=>?_)).alloc _,hA2.upd Ty (λz hz=>by simp at hz;rw [hz];exact Og),K.upd PR Ty (λz hz=>by simp at hz;rw [hz];exact hs2),γ,γ,Ty.kept q0 ζ,Ty.kept q1 ζ,Ty.aM q0 ζ f0,Ty.aM q1 ζ f1,Ty⟩ ?_
 ·rcases (ω:j=0\/j=1\/j=2\/j=3\/j=4) with rfl|rfl|rfl|rfl|rfl<;>simp [Wx]
 rintro W ⟨hd,hA,hN,x0,x1,r0,r1,VA,QF,Ol⟩;have z3:W.cell? ⟨p,3,none⟩=some (.iface K.ty (.pointer (some ⟨pn,0,none⟩))):=hd.cellAt 3 ω rfl;have z4:W.cell? ⟨p,4,none⟩=some (.int .u64 ((q:Int)+1)):=hd.cellAt 4 ω (by simp [Wx]);obtain ⟨f2,fv2,Nf,yI⟩:=K.insert hh x k ((q:Int)+1) hac HBp.out hN;unfold Enters at Nf;have hm2:=(yI W.drew ((aa.refl _ _).drew)).1;have hc2:=(yI W.drew ((aa.refl _ _).drew)).2;have hszW:=Ol.size;have hrw:w.heap.size<W.heap.size:=ω;have hxw:w2.heap.size<W.heap.size:=Ε W _ x0;have MX:w2.heap.size∉Fn:=λe=>by have:=hFn _ e;omega
 have sO:w.heap.size∉Fn:=λe=>by have:=hFn _ e;omega
 have NT:∀z,z∈Jd->z∈Fn->False:=λz h1 h2=>by
  rcases hfA z h1 with e|e
  ·exact hs3 z e h2
  ·have:=hFn z h2;simp at e;omega
 have Te:∀z,z∈Jd->z<W.heap.size:=hA.lt;have Y2:aa (p::(Fa++Fn)) w w2:=aa.trans ((aa.refl _ _).alloc _) (huA.mono (λz hz=>by simp [hz]));have HFIN:Hid (∀w5 F5,K.at_ w5 pn F5 (aG A hh (x:Int) k ((q:Int)+1))->aa Fn W.drew w5->(∀z,z∈F5->z∈Fn\/W.drew.heap.size<=z)->∀v0 v1,Goes (p::(Fa++Fn)) w ((w5.setCell ⟨w.heap.size,0,none⟩ v0).setCell ⟨w.heap.size,1,none⟩ v1) (λF'=>fA K ((w5.setCell ⟨w.heap.size,0,none⟩ v0).setCell ⟨w.heap.size,1,none⟩ v1) p F' kd d R' (aG A hh (x:Int) k ((q:Int)+1)) (q+1))):=by
  intro w5 F5 Yv su RY v0 v1;have cB:aa Fn W w5:=((aa.refl Fn W).drew).trans su;have hr:aa [w.heap.size] w5 ((w5.setCell ⟨w.heap.size,0,none⟩ v0).setCell ⟨w.heap.size,1,none⟩ v1):=((aa.refl _ _).setCell (Α σ) _).setCell (Α σ) _;have hrF5:w.heap.size∉F5:=λe=>by rcases RY _ e with e|e;exact sO e;have e':W.heap.size<=w.heap.size:=e;omega
  have Yi:w.heap.size∉Jd:=λe=>by rcases hfA _ e with e|e;have:=Wi _ e;omega;simp at e;omega
  refine ⟨p::(Jd++F5),⟨pa,pn,Jd,F5,rfl,⟨(hd.upd cB hs2).upd hr ζ,(hA.upd cB (λz h1 h2=>NT z h2 h1)).upd hr (λz hz=>by simp at hz;rw [hz];exact Yi),K.upd Yv hr (λz hz=>by simp at hz;rw [hz];exact hrF5),Og,λe=>?_,λz h1 h2=>?_,?_,λy=>?_⟩⟩,?_,λz hz=>?_⟩
  ·rcases RY _ e with e|e
   ·exact hs2 e
   ·have e':W.heap.size<=p:=e;omega
  ·rcases RY _ h2 with e|e
   ·exact NT z h1 e
   ·have e':W.heap.size<=z:=e;have:=Te z h1;omega
  ·rw [Ep,←hlen,R7.2.2.2.2.1];simp
  ·rw [Fy h.ar.ok hT,O8 HBp.out,DT]
  ·have h1:=(Y2.trans (Ol.mono σ)).trans (cB.mono (λz hz=>by simp [hz]));exact (h1.setCell (Β (Θ _)) _).setCell (Β (Θ _)) _
  ·simp only [ρ,τ] at hz ⊢;rcases hz with hz|hz|hz
   ·exact Α (Α hz)
   ·rcases hfA z hz with e|e
    ·exact Α (Β (Α e))
    ·simp at e;exact Β ω
   ·rcases RY z hz with e|e
    ·exact Α (Β (Β e))
    ·have e':W.heap.size<=z:=e;exact Β ω
 clear h hN0 hac Wi hFn DT R7 hd2 PR hd hA hN Ol yI q0 q1 f0 f1 c3 c4 f4 c2 c3' Z4 f4' hc hm hen kt hA2 Ty huA hfA Og NT Te Y2
 go_region_law
  (first
   | (go_simp;(with_reducible refine (hc2).mono ?_);rintro e w5 ⟨rfl,F5,Yv,cB,RY⟩;(have y0:=cB.kept x0 MX);(have y1:=cB.kept x1 MX);(have t0:=cB.kept r0 sO);(have t1:=cB.kept r1 sO);(have tf0:=cB.aM r0 sO VA);(have tf1:=cB.aM r1 sO QF)))
 all_goals
  go_wp2;exact bodyPost_ret (v:=.tuple #[.agg #[.int .i64 (x:Int),.int .u32 ((R.g x:Int)+1)],.int .i64 0]) (by simp [results,Tryz.results17,go_sem,t0,t1]) rfl ⟨rfl,HFIN.out _ _ Yv cB RY _ _⟩
end
section
variable {K:NestQ} {w:World} {p pa pn:Nat} {Fa Fn F:List Nat} {kd d:Int} {R:AR} {A:NS} {q:Nat}
theorem Gm (h:fA K w p F kd d R A q) (x:Nat) (hv:R.v x=true) :
  Calls Tryz.prog 42 #[.pointer (some ⟨p,0,none⟩),.agg #[.int .i64 (x:Int),.int .u32 (R.g x:Int)]] w λe w'=>e=.returned (.tuple #[.agg #[.int .i64 (A.c x).k,.int .u64 (A.c x).s],.int .i64 0])/\aa [] w w':=by
 obtain ⟨pa,pn,Fa,Fn,rfl,h⟩:=h;have hin:bR A (x:Int)=true:=by rw [←h.link];exact hv
 have hx:=AR.Kg hv;have hgm:=h.ar.ok.gm x;have hmo:=h.ar.ok.Su;have hlv:zz R (x:Int) (R.g x:Int)=true:=by
  unfold zz;rw [show ((x:Nat):Int).toNat=x by omega,hv,Ν (ω:(0:Int)<=x),Ν (ω:(x:Int)<R.sl.length)];simp
 have kl:=λW (hW:aa [] w W)=>ym (h.ar.upd hW σ) (x:Int) (R.g x:Int) ω;rw [hlv] at kl;have c2':=h.c2;have c3':=h.c3;have HH:=χ h;clear h hlv hv;generalize R.g x=gx at *
 go_enter Tryz.func42,Tryz.ntmps42
 go_upto_region 1 with (fail)
 refine iR (λW=>W.cell? ⟨w.heap.size,0,none⟩=some (.int .i64 (x:Int))/\W.cell? ⟨w.heap.size,1,none⟩=some (.int .u32 (gx:Int))/\W.cell? ⟨w.heap.size+1,0,none⟩=some (.int .i64 0)/\W.cell? ⟨w.heap.size+1,1,none⟩=some (.int .u64 0)/\W.frozen? ⟨w.heap.size+1,0,none⟩=false/\W.frozen? ⟨w.heap.size+1,1,none⟩=false/\aa [] w W) ⟨σ,σ,σ,σ,σ,σ,β⟩ ?_;rintro W ⟨x0,x1,r0,r1,VA,QF,hu⟩;have Tm:=λX (hX:aa [] W X)=>kl X (hu.trans hX);have e0:∀X,aa [] W X->X.cell? ⟨w.heap.size,0,none⟩=some (.int .i64 (x:Int)):=λX h=>h.was x0
 have e1:∀X,aa [] W X->X.cell? ⟨w.heap.size,1,none⟩=some (.int .u32 (gx:Int)):=λX h=>h.was x1;have e2:∀X,aa [] W X->X.cell? ⟨p,2,none⟩=some (.pointer (some ⟨pa,0,none⟩)):=λX h=>h.was (hu.was c2');have HU:=χ (ψ hu (ψ x0 (ψ r0 (ψ r1 (ψ VA QF)))));clear hu x0 x1 r0 r1 VA QF kl c2'
 go_region_held3 (aa [] W) (exact ν)
  (first
   | ((go_at_call 73;(with_reducible refine (Tm _ ν).mono ?_));rintro e w1 ⟨rfl,hu1⟩;(have hv1:aa [] W w1:=aa.trans ν hu1)))
 go_upto_region 3 with (fail)
 obtain ⟨hu,x0,r0,r1,VA,QF⟩:=HU.out;refine iR (λX=>aa [] W X) β ?_;intro X hX;have y0:=hX.was x0;have z3:=hX.was (hu.was c3');have t0:=hX.was r0;have t1:=hX.was r1;have Wj:=hX.aM r0 σ VA;have WA:=hX.aM r1 σ QF;have hN:=K.upd HH.out.nest (hu.trans hX) σ;obtain ⟨f,fv,hen,wP⟩:=K.entry (x:Int) hN;unfold Enters at hen;have hm:=(wP X.drew ((aa.refl _ _).drew)).1;have hc:=(wP X.drew ((aa.refl _ _).drew)).2;have huB:aa [] X (X.alloc (.cells #[.int .i64 0,.int .u64 0] 97)).drew:=((aa.refl _ _).alloc _).drew;have tB0:=huB.was t0;have tB1:=huB.was t1;have XW:=huB.aM t0 σ Wj;have XU:=huB.aM t1 σ WA
 have nB0:(X.alloc (.cells #[.int .i64 0,.int .u64 0] 97)).drew.cell? ⟨X.heap.size,0,none⟩=some (.int .i64 0):=σ;have nB1:(X.alloc (.cells #[.int .i64 0,.int .u64 0] 97)).drew.cell? ⟨X.heap.size,1,none⟩=some (.int .u64 0):=σ;have Yq:(X.alloc (.cells #[.int .i64 0,.int .u64 0] 97)).drew.frozen? ⟨X.heap.size,0,none⟩=false:=σ;have YK:(X.alloc (.cells #[.int .i64 0,.int .u64 0] 97)).drew.frozen? ⟨X.heap.size,1,none⟩=false:=σ;have HB:=χ (ψ tB0 (ψ tB1 (ψ XW (ψ XU (ψ nB0 (ψ nB1 (ψ Yq YK)))))));clear tB0 tB1 XW XU nB0 nB1 Yq YK;have Zv:=(wP _ huB).1;have hcB:=(wP _ huB).2
 rw [hin,show ((x:Nat):Int).toNat=x by omega] at hc hcB;simp only [if_true] at hc hcB;have hrl:=Ε X _ t0;have hxl:=Ε X _ y0;have hpl:=Ε X _ z3;dsimp only at hrl hxl hpl;have TF:=χ (hu.trans hX);clear hu x0 r0 r1 VA QF hX hN wP huB Tm e0 e1 e2 c3';generalize hkk:(A.c x).k=kk at *;generalize hss:(A.c x).s=ss at *;have HKS:=χ (ψ hkk hss);clear hkk hss
 go_region_law
  (first
   | (go_simp;(with_reducible refine (hc).mono ?_);rintro e w5 ⟨rfl,cB⟩;(have s0:w5.cell? ⟨w.heap.size+1,0,none⟩=some (.int .i64 0):=cB.was t0);(have s1:w5.cell? ⟨w.heap.size+1,1,none⟩=some (.int .u64 0):=cB.was t1);(have fs0:=cB.aM (v:=.int .i64 0) t0 σ Wj);(have fs1:=cB.aM (v:=.int .u64 0) t1 σ WA);(have hsl:=Ε w5 _ s0))
   | (go_simp;(with_reducible refine (hcB).mono ?_);rintro e w5 ⟨rfl,cB⟩;(have s0:=cB.was HB.out.1);(have s1:=cB.was HB.out.2.1);(have fs0:=cB.aM HB.out.1 σ HB.out.2.2.1);(have fs1:=cB.aM HB.out.2.1 σ HB.out.2.2.2.1);(have hsl:=Ε w5 _ s0);(have b0:=cB.was HB.out.2.2.2.2.1);(have b1:=cB.was HB.out.2.2.2.2.2.1);(have fb0:=cB.aM HB.out.2.2.2.2.1 σ HB.out.2.2.2.2.2.2.1);(have fb1:=cB.aM HB.out.2.2.2.2.2.1 σ HB.out.2.2.2.2.2.2.2)))
 all_goals
  go_wp2;have h5:aa [] w w5:=TF.out.trans (aa.trans β cB);have h6:=h5.size;exact bodyPost_ret (v:=.tuple #[.agg #[.int .i64 kk,.int .u64 ss],.int .i64 0]) (by simp [results,Tryz.results42,go_sem, *]) rfl ⟨by rw [HKS.out.1,HKS.out.2],β⟩
end
section
variable {K:NestQ} {w:World} {p pa pn:Nat} {Fa Fn F:List Nat} {kd d:Int} {R:AR} {A:NS} {q:Nat}
theorem Av.moved (h:Av K w p pa pn Fa Fn kd d R A q) {w':World} {wH:List Nat} (hn:K.at_ w' pn wH A) (hu:aa Fn w w') (hf:∀x,x∈wH->x∈Fn\/w.heap.size<=x):Goes (p::(Fa++Fn)) w w' (λF'=>fA K w' p F' kd d R A q):=by
 refine ⟨p::(Fa++wH),⟨pa,pn,Fa,wH,rfl,h.Mt hn hu hf rfl (h.ar.upd hu (λx hx hm=>h.s3 x hm hx)) rfl h.link⟩,hu.mono (λx hx=>by simp [hx]),λx hx=>?_⟩;simp only [ρ,τ] at hx ⊢;rcases hx with hx|hx|hx
 ·exact Α (Α hx)
 ·exact Α (Β (Α hx))
 ·rcases hf x hx with hx|hx
  ·exact Α (Β (Β hx))
  ·exact Β hx
theorem Goes.beh {F S:List Nat} {w w0 w1 w2:World} {p:Nat} {kd d:Int} (h:Goes F w0 w1 (λF'=>fA K w1 p F' kd d R A q)) (hu:aa S w1 w2) (hw:aa [] w w0) (hS:∀r,r∈S->r<w0.heap.size/\r∉F/\w.heap.size<=r):Goes F w w2 (λF'=>fA K w2 p F' kd d R A q):=by
 obtain ⟨F',h1,h2,h3⟩:=h;refine ⟨F',h1.upd hu (λr hr hm=>?_),((hw.mono σ).trans h2).joined hu (λr hr=>Β (hS r hr).2.2),λx hx=>by rcases h3 x hx with h|h;exact Α h;exact Β (Χ hw.size h)⟩;rcases h3 r hm with e|e
 ·exact (hS r hr).2.1 e
 ·have:=(hS r hr).1;omega
theorem Dh (h:fA K w p F kd d R A q) (hh:Int) {m:Nat} (hM:dM A hh=some m) :
  Calls Tryz.prog 41 #[.pointer (some ⟨p,0,none⟩),.int .i64 hh] w λe w'=>e=.returned (.tuple #[.agg #[.int .i64 (m:Int),.int .u32 (R.g m:Int)],.int .i64 0])/\Goes F w w' (λF'=>fA K w' p F' kd d R A q):=by
 obtain ⟨pa,pn,Fa,Fn,rfl,h⟩:=h;have hok:=K.ok h.nest;obtain ⟨m1,m2,m3,m4⟩:=jW hM;have hB:bA A hh=true:=by rw [←m3];have:=jB hok m4;simpa using this
 obtain ⟨hh,rfl⟩:∃n:Nat,hh=n:=⟨hh.toNat,by have:=(aA _ _).1 hB;omega⟩;have hb4:=(aA _ _).1 hB;have iN:=hok.h1;have hv:R.v m=true:=by rw [h.link];exact m4
 have c2':=h.c2;have c3:=h.c3;have hpl:=h.head.lt;have hu0:aa [] w (w.alloc (.cells #[.int .i64 0,.int .u32 0] 46)):=(aa.refl [] w).alloc _;have hN:=K.upd h.nest hu0 σ;obtain ⟨f,fv,hen,wP⟩:=K.has hh hN;obtain ⟨f2,fv2,Nf,yI⟩:=K.min hh hB hN;unfold Enters at hen Nf;have hm:=(wP _ (aa.refl _ _)).1;have hc:=(wP _ (aa.refl _ _)).2;have hm2:=(yI _ (aa.refl _ _)).1;have hc2:=(yI _ (aa.refl _ _)).2;rw [hB] at hc;rw [hM,show pK (some m)=(m:Int) from rfl,show (some m).isSome=true from rfl] at hc2;have sO:w.heap.size∉Fn:=λe=>by have:=K.lt h.nest _ e;omega
 have hs3:=h.s3;have ka:=λW (hu:aa Fn (w.alloc (.cells #[.int .i64 0,.int .u32 0] 46)) W)=>OV ((h.ar.upd hu0 σ).upd hu (λx hx hm=>hs3 x hm hx)) m hv;have hpn:=h.s2;have HG:=χ (λw1 wH (hn:K.at_ w1 pn wH A) (hu:aa Fn (w.alloc (.cells #[.int .i64 0,.int .u32 0] 46)) w1) hf w2 (hu2:aa [w.heap.size] w1 w2)=>((h.upd hu0 σ).moved hn hu hf).beh hu2 hu0 (λr hr=>by simp at hr;subst hr;exact ⟨σ,λe=>by have:=h.lt _ e;omega,Θ _⟩));clear h wP hN yI hok hB hv m4 hb4 iN;generalize R.g m=gm at *
 go_enter Tryz.func41,Tryz.ntmps41
 go_wp2_with (first
  | ((with_reducible refine (hc).mono ?_);rintro e w1 ⟨rfl,rfl⟩)
  | ((with_reducible refine (hc2).mono ?_);rintro e w2 ⟨rfl,wH,hn,hu,hf⟩;(have q0:w2.cell? ⟨w.heap.size,0,none⟩=some (.int .i64 0):=hu.kept γ sO);(have q1:w2.cell? ⟨w.heap.size,1,none⟩=some (.int .u32 0):=hu.kept γ sO);(have f0:w2.frozen? ⟨w.heap.size,0,none⟩=false:=hu.aM (v:=.int .i64 0) γ sO γ);(have f1:w2.frozen? ⟨w.heap.size,1,none⟩=false:=hu.aM (v:=.int .u32 0) γ sO γ);(have c2:=hu.kept (hu0.was c2') hpn);(have ka2:=ka _ hu))
  | ((go_at_call 72;(with_reducible refine (ka2).mono ?_));rintro e w3 ⟨rfl,hu3⟩;(have t0:=hu3.was q0);(have t1:=hu3.was q1);(have tf0:=hu3.aM q0 σ f0);(have tf1:=hu3.aM q1 σ f1);(have hrl:=Ε w3 _ t0))
  | fail)
 exact bodyPost_ret (v:=.tuple #[.agg #[.int .i64 (m:Int),.int .u32 (gm:Int)],.int .i64 0]) (by simp [results,Tryz.results41,go_sem,t0,t1,hrl]) rfl ⟨rfl,HG.out _ _ hn hu hf _ ((((hu3.mono σ).setCell (Α σ) _).setCell (Α σ) _).alloc _)⟩
end
section
variable {K:NestQ} {w:World} {p:Nat} {F:List Nat} {kd d:Int} {R:AR} {A:NS} {q:Nat}
theorem AY (h:fA K w p F kd d R A q) (hh:Int) {m:Nat} (hM:dM A hh=some m) :
  Calls Tryz.prog 19 #[.pointer (some ⟨p,0,none⟩),.int .i64 hh] w λe w'=>e=.returned (.tuple #[.agg #[.int .i64 (m:Int),.int .u32 (R.g m:Int)],.int .i64 (A.c m).k,.int .i64 0])/\Goes F w w' (λF'=>fA K w' p F' kd d R A q):=by
 have hu0:aa [] w (w.alloc (.cells #[.int .i64 0,.int .u32 0] 46)):=(aa.refl [] w).alloc _;have k:=Dh (h.ai hu0) hh hM;have hv:R.v m=true:=by rw [h.ok.2.2.2];exact (jW hM).2.2.2
 have UB:=h.lt;have Ey:w.heap.size∉F:=λe=>by have:=UB _ e;omega
 have HG:=χ (λ(w1 w2:World) (hg:Goes F (w.alloc (.cells #[.int .i64 0,.int .u32 0] 46)) w1 (λF'=>fA K w1 p F' kd d R A q)) (hu2:aa [w.heap.size] w1 w2)=>hg.beh hu2 hu0 (λr hr=>by simp at hr;subst hr;exact ⟨σ,Ey,Θ _⟩));have ke:=λW F' (hP:fA K W p F' kd d R A q)=>Gm hP m hv;clear h hv hM UB;generalize R.g m=gm at *;generalize (A.c m).k=kk at *;generalize (A.c m).s=ss at *
 go_enter Tryz.func19,Tryz.ntmps19
 go_upto_region 5 with (first
  | ((go_at_call 41;(with_reducible refine (k).mono ?_));rintro e w1 ⟨rfl,hg⟩;(have hu1:aa F (w.alloc (.cells #[.int .i64 0,.int .u32 0] 46)) w1:=by obtain ⟨_,_,h2,_⟩:=hg;exact h2);(have q0:w1.cell? ⟨w.heap.size,0,none⟩=some (.int .i64 0):=hu1.kept γ Ey);(have q1:w1.cell? ⟨w.heap.size,1,none⟩=some (.int .u32 0):=hu1.kept γ Ey);(have f0:w1.frozen? ⟨w.heap.size,0,none⟩=false:=hu1.aM (v:=.int .i64 0) γ Ey γ);(have f1:w1.frozen? ⟨w.heap.size,1,none⟩=false:=hu1.aM (v:=.int .u32 0) γ Ey γ);(have ke2:∀W,aa [] w1 W->Calls Tryz.prog 42 #[.pointer (some ⟨p,0,none⟩),.agg #[.int .i64 (m:Int),.int .u32 (gm:Int)]] W λe w'=>e=.returned (.tuple #[.agg #[.int .i64 kk,.int .u64 ss],.int .i64 0])/\aa [] W w':=by obtain ⟨F1,hP1,_,_⟩:=hg;exact λW hW=>ke W F1 (hP1.ai hW)))
  | ((go_at_call 42;(with_reducible refine (ke2 _ β).mono ?_));rintro e w2 ⟨rfl,hu2⟩;(have x0:w2.cell? ⟨w1.heap.size,0,none⟩=some (.int .i64 (m:Int)):=hu2.was γ);(have x1:w2.cell? ⟨w1.heap.size,1,none⟩=some (.int .u32 (gm:Int)):=hu2.was γ);(have hv2:aa [] w1 w2:=aa.trans β hu2))
  | fail)
 refine iR (λW=>W.cell? ⟨w1.heap.size,0,none⟩=some (.int .i64 (m:Int))/\W.cell? ⟨w1.heap.size,1,none⟩=some (.int .u32 (gm:Int))/\W.cell? ⟨w2.heap.size,0,none⟩=some (.int .i64 kk)/\aa [] w1 W) ⟨by have:=Ε w2 _ x0;go_simp,by have:=Ε w2 _ x1;go_simp,γ,β⟩ ?_;rintro W ⟨y0,y1,y2,hW⟩;have t0:=hW.was q0;have t1:=hW.was q1;have Wj:=hW.aM q0 σ f0;have WA:=hW.aM q1 σ f1;have hrl:=Ε w1 _ q0;have hz2:=hv2.size;dsimp only at hrl;have hne1:¬w2.heap.size=w.heap.size:=ω;have hne2:¬w1.heap.size=w.heap.size:=ω;have hne3:¬w.heap.size=w2.heap.size:=ω;have hne4:¬w.heap.size=w1.heap.size:=ω;have HW:=χ hW
 clear hW q0 q1 f0 f1 ke2 x0 x1 hv2 hu2 ke k hu1
 go_region
 all_goals
  go_wp2;exact bodyPost_ret (v:=.tuple #[.agg #[.int .i64 (m:Int),.int .u32 (gm:Int)],.int .i64 kk,.int .i64 0]) (by simp [results,Tryz.results19,go_sem,t0,t1,hne1,hne2,hne3,hne4]) rfl ⟨rfl,HG.out _ _ hg ((((HW.out.mono σ).setCell (Α σ) _).setCell (Α σ) _).drew)⟩
end
section
variable {K:NestQ} {w:World} {p:Nat} {F:List Nat} {kd d:Int} {R:AR} {A:NS} {q:Nat}
theorem Gy {R:AR} {x:Nat} (hv:R.v x=true) (y:Nat):(ji R x).v y=(R.v y && !decide (y=x)):=by
 show (R.put x (R.g x,false)).v y=_
 rw [AR.xq]
 by_cases e:y=x
 ·rw [Δ ⟨e,AR.Kg hv⟩,Ν e];simp
 ·rw [Γ (λh=>e h.1),Ξ e];simp
theorem Ig {A:NS} {x:Nat} (hx:bR A (x:Int)=true) (y:Nat):bR (aU A (x:Int)) (y:Int)=(bR A (y:Int) && !decide (y=x)):=by
 have hc:=sS hx y;have hl:=dK A (x:Int)
 by_cases e:y=x
 ·rw [Δ e] at hc;rw [Ν e];have:¬bR (aU A (x:Int)) (y:Int)=true:=λh=>by
   have:=(ay _ _).1 h;rw [hc] at this;exact absurd this.2 (by simp [Cl.z])
  simpa using this
 ·rw [Γ e] at hc;rw [Ξ e];have e1:bR (aU A (x:Int)) (y:Int)=true↔bR A (y:Int)=true:=by rw [ay,ay,hl,hc]
  cases h1:bR (aU A (x:Int)) (y:Int)<;>cases h2:bR A (y:Int)<;>simp_all
theorem Am (R:AR) (x:Nat):(ji R x).sl.length=R.sl.length:=by show (R.put x _).sl.length=_;rw [AR.iW]
theorem fA.out {kd d:Int} {m:Nat} {w1:World} {pa pn:Nat} {Fa Fn:List Nat} (h:Av K w p pa pn Fa Fn kd d R A q) (hm:bR A (m:Int)=true) {wH:List Nat} (hn:K.at_ w1 pn wH (aU A m)) (hu:aa Fn w w1) (hf:∀x,x∈wH->x∈Fn\/w.heap.size<=x)
  {w2 w3:World} (hu2:aa [] w1 w2) {Jd:List Nat} (ha:nD w3 pa Jd (ji R m)) (hu3:aa Fa w2 w3) (hf3:∀x,x∈Jd->x∈Fa\/w2.heap.size<=x):Goes (p::(Fa++Fn)) w w3 (λF'=>fA K w3 p F' kd d (ji R m) (aU A m) q):=by
 have hA:=h.ar.lt;have hN:=K.lt h.nest;have hN1:=K.lt hn;have hs12:=hu2.size;have hs01:=hu.size;have hv:R.v m=true:=by rw [h.link];exact hm
 have hpl:=h.head.lt;have hnn:∀x,x∈Fa->x∉wH:=λx hx e=>by rcases hf x e with e|e;exact h.s3 x hx e;have:=hA x hx;omega
 refine ⟨p::(Jd++wH),⟨pa,pn,Jd,wH,rfl,⟨((h.head.upd hu h.s2).upd hu2 σ).upd hu3 h.s1,ha,K.upd (K.upd hn hu2 σ) hu3 hnn,λe=>?_,λe=>?_,λx h1 h2=>?_,?_,λy=>?_⟩⟩,?_,λx hx=>?_⟩
 ·rcases hf3 _ e with e|e
  ·exact h.s1 e
  ·omega
 ·rcases hf _ e with e|e
  ·exact h.s2 e
  ·omega
 ·rcases hf3 x h1 with e|e
  ·exact hnn x e h2
  ·have:=hN1 x h2;omega
 ·rw [Am,dK];exact h.len
 ·rw [Gy hv,Ig hm,h.link]
 ·exact ((hu.mono (λx hx=>by simp [hx])).trans (hu2.mono σ)).trans (hu3.mono (λx hx=>by simp [hx]))
 ·simp only [ρ,τ] at hx ⊢;rcases hx with hx|hx|hx
  ·exact Α (Α hx)
  ·rcases hf3 x hx with e|e
   ·exact Α (Β (Α e))
   ·exact Β ω
  ·rcases hf x hx with e|e
   ·exact Α (Β (Β e))
   ·exact Β e
end
end Go.Proofs.YtnpdakpagnpanaaGreat
namespace Go.Proofs.YtnpdakpagnpanaaGreat
open Go.RowKit
def zx (k d:Int):Int:=
 if k<1\/8<k then 21 else if (k=2/\(d<2\/16<d))\/(k≠2/\d≠0) then 22 else 0
theorem Mh {k d:Int} (h:k<1\/8<k):zx k d=21:=by unfold zx;rw [Δ h]
theorem Nw {k d:Int} (h:¬ (k<1\/8<k)) (h2:(k=2/\(d<2\/16<d))\/(k≠2/\d≠0)):zx k d=22:=by unfold zx;rw [Γ h,Δ h2]
theorem Tj {k d:Int} (h:¬ (k<1\/8<k)) (h2:¬ ((k=2/\(d<2\/16<d))\/(k≠2/\d≠0))):zx k d=0:=by unfold zx;rw [Γ h,Γ h2]
theorem BR {k d:Int} (h:zx k d=0):1<=k/\k<=8/\(k=2->2<=d/\d<=16)/\(k≠2->d=0):=by
 unfold zx at h;split at h
 ·omega
 ·split at h
  ·omega
  ·omega
theorem Ay (k d:Int) (w:World) :
  Calls Tryz.prog 33 #[.agg #[.int .i64 k,.int .i64 d]] w λe w'=>e=.returned (.int .i64 (zx k d))/\aa [] w w':=by
 go_enter Tryz.func33,Tryz.ntmps33
 go_wp2
 all_goals
  go_ret;refine ⟨iX ?_,(aa.refl _ _).alloc _⟩
  try simp only [bne_iff_ne,ne_eq,bne_eq_false_iff_eq] at *
  first
  | (rw [Mh ω];done)
  | (rw [Nw ω ω];done)
  | (rw [Tj ω ω];done)
theorem GQ (k d:Int) (w:World) :
  Calls Tryz.prog 21 #[.agg #[.int .i64 k,.int .i64 d]] w λe w'=>e=.returned (.int .i64 (zx k d))/\aa [] w w':=by
 go_enter Tryz.func21,Tryz.ntmps21
 go_wp2
 all_goals
  go_ret;refine ⟨iX ?_,(aa.refl _ _).alloc _⟩
  try simp only [bne_iff_ne,ne_eq,bne_eq_false_iff_eq,Ϝ,beq_eq_false_iff_ne] at *
  first
  | (rw [Mh ω];done)
  | (rw [Nw ω ω];done)
  | (rw [Tj ω ω];done)
end Go.Proofs.YtnpdakpagnpanaaGreat
namespace Go.Proofs.YtnpdakpagnpanaaGreat
open Go Go.RowKit
def Ef (w:World) (p n:Nat):Prop:=∃c F1,w.cell? ⟨p,0,none⟩=some (.pointer (some ⟨c,0,none⟩))/\aB w c F1 (NS.new n) 0
def nW (K:NestQ) (kd d:Int) (n:Nat):Prop:=∀W:World,Calls Tryz.prog 35 #[.agg #[.int .i64 kd,.int .i64 d],.int .i64 (n:Int)] W λe w'=>∃pn Fn,e=.returned (.tuple #[.iface K.ty (.pointer (some ⟨pn,0,none⟩)),.int .i64 0])/\K.at_ w' pn Fn (NS.new n)/\Ef w' pn n/\aa [] W w'/\∀x,x∈Fn->W.heap.size<=x
theorem Mg (n:Nat) (x:Nat):bR (NS.new n) (x:Int)=false:=by
 cases h:bR (NS.new n) (x:Int) with
 | false=>rfl
 | true=>have:=(ay _ _).1 h;rw [NS.wL] at this;exact absurd this.2 (by simp [Cl.z])
theorem Tu (n m x:Nat):(AR.new n m).v x=false:=by
 unfold AR.new AR.v;simp only [φ,List.getElem?_replicate]
 split<;>rfl
theorem Aq {K:NestQ} {kd d:Int} (n m:Nat) (w:World) (hn:n<=65536) (hm:1<=m/\m<=4294967295) (hc:zx kd d=0) (ko:nW K kd d n) :
  Calls Tryz.prog 11 #[.agg #[.int .i64 kd,.int .i64 d],.int .i64 (n:Int),.int .u32 (m:Int)] w λe w'=>∃p F,e=.returned (.tuple #[.pointer (some ⟨p,0,none⟩),.int .i64 0])/\fA K w' p F kd d (AR.new n m) (NS.new n) 0/\aa [] w w'/\∀x,x∈F->w.heap.size<=x:=by
 have kc:=λW=>Ay kd d W;rw [hc] at kc;have ka:=λW=>Ky n m W hn hm;unfold nW at ko;have hcs:(NS.new n).cs.length=n:=by simp [NS.new]
 have hal:(AR.new n m).sl.length=n:=by simp [AR.new]
 have HL:=χ (ψ hcs hal);clear hcs hal hc
 go_enter Tryz.func11,Tryz.ntmps11
 go_wp2_with (first
  | ((go_at_call 33;(with_reducible refine (kc _).mono ?_));rintro e w1 ⟨rfl,hu1⟩;(have q0:w1.cell? ⟨w.heap.size,0,none⟩=some (.int .i64 kd):=hu1.was γ);(have q1:w1.cell? ⟨w.heap.size,1,none⟩=some (.int .i64 d):=hu1.was γ);(have hw1:aa [] w w1:=aa.trans β hu1))
  | ((go_at_call 34;(with_reducible refine (ka _).mono ?_));rintro e w2 ⟨pa,Fa,rfl,hA,hu2,hfa⟩;(have q2:=hu2.was q0);(have q3:=hu2.was q1))
  | ((go_at_call 35;(with_reducible refine (ko _).mono ?_));rintro e w3 ⟨pn,Fn,rfl,hN,hZ,hu3,hfn⟩;(have q4:=hu3.was q2);(have q5:=hu3.was q3))
  | fail)
 go_ret2;have hh:=dL w3 [.int .i64 kd,.int .i64 d,.pointer (some ⟨pa,0,none⟩),.iface K.ty (.pointer (some ⟨pn,0,none⟩)),.int .u64 0] 89;have hb:aa [] w3 (w3.alloc (.cells #[.int .i64 kd,.int .i64 d,.pointer (some ⟨pa,0,none⟩),.iface K.ty (.pointer (some ⟨pn,0,none⟩)),.int .u64 0] 89)):=(aa.refl _ _).alloc _;have hAl:=hA.lt;have hNl:=K.lt hN;have s3:=hu3.size;have s1:=hw1.size;have s2:=hu2.size
 refine ⟨w3.heap.size,w3.heap.size::(Fa++Fn),rfl,⟨pa,pn,Fa,Fn,rfl,⟨hh.ext (λj hj=>by unfold Wx;rfl),(hA.upd hu3 σ).upd hb σ,K.upd hN hb σ,λe=>by have:=hAl _ e;omega,λe=>by have:=hNl _ e;omega,λx h1 h2=>by have:=hAl x h1;have:=hfn x h2;omega,by rw [HL.out.1,HL.out.2],λx=>by rw [Tu,Mg]⟩⟩,((hw1.trans hu2).trans hu3).trans hb,λx hx=>?_⟩;simp only [ρ,τ] at hx;rcases hx with rfl|hx|hx
 ·omega
 ·have:=hfa x hx;omega
 ·have:=hfn x hx;omega
theorem DK {w:World} {pa:Nat} {F:List Nat} {R:AR} (h:nD w pa F R):Calls Tryz.prog 39 #[.pointer (some ⟨pa,0,none⟩)] w λe w'=>e=.returned (.int .i64 (R.cnt:Int))/\w'=w:=by
 obtain ⟨ga,v,rfl,hM⟩:=h;have c3:=hM.c3;clear hM
 go_enter Tryz.func39,Tryz.ntmps39
 go_wp2;go_ret;exact ⟨rfl,rfl⟩
section
variable {K:NestQ} {w:World} {p pa pn:Nat} {Fa Fn F:List Nat} {kd d:Int} {R:AR} {A:NS} {q:Nat}
theorem Lm (h:fA K w p F kd d R A q):Calls Tryz.prog 15 #[.pointer (some ⟨p,0,none⟩)] w λe w'=>e=.returned (.int .i64 (R.cnt:Int))/\w'=w:=by
 obtain ⟨pa,pn,Fa,Fn,rfl,hM⟩:=h;have c2:=hM.c2;have k:=DK hM.ar;clear hM
 go_enter Tryz.func15,Tryz.ntmps15
 go_wp2_with (first|((go_at_call 39;(with_reducible refine (k).mono ?_));rintro e w1 ⟨rfl,rfl⟩)|fail)
 go_ret;exact ⟨rfl,rfl⟩
end
section
variable {K:NestQ} {w:World} {p:Nat} {F:List Nat} {kd d:Int} {R:AR} {A:NS} {q:Nat}
theorem Goes.chain {F G S:List Nat} {w W w2 w3:World} {R':AR} {A':NS} {q':Nat} (h1:aa F w W) (hf:∀x,x∈G->x∈F\/w.heap.size<=x) (h2:Goes G W w2 (λF'=>fA K w2 p F' kd d R' A' q')) (hr:aa S w2 w3) (hS:∀r,r∈S->r∉G/\r<W.heap.size/\w.heap.size<=r) :
  Goes F w w3 (λF'=>fA K w3 p F' kd d R' A' q'):=by
 obtain ⟨F2,hP,hu,hf2⟩:=h2;have hs:=h1.size;refine ⟨F2,hP.upd hr (λr hr hm=>?_),(h1.joined hu hf).joined hr (λr hr=>Β (hS r hr).2.2),λx hx=>?_⟩
 ·rcases hf2 r hm with e|e
  ·exact (hS r hr).1 e
  ·have:=(hS r hr).2.1;omega
 ·rcases hf2 x hx with e|e
  ·exact hf x e
  ·exact Β (Χ hs e)
theorem J9 (h:fA K w p F kd d R A q) (hh:Int) {m:Nat} (hM:dM A hh=some m) :
  Calls Tryz.prog 22 #[.pointer (some ⟨p,0,none⟩),.int .i64 hh] w λe w'=>e=.returned (.tuple #[.agg #[.int .i64 (m:Int),.int .u32 (R.g m:Int)],.int .i64 (A.c m).k,.int .i64 0])/\Goes F w w' (λF'=>fA K w' p F' kd d (ji R m) (aU A m) q):=by
 obtain ⟨hh,rfl⟩:∃n:Nat,hh=n:=⟨hh.toNat,by have:=(jW hM).1;omega⟩;have hu0:aa [] w (w.alloc (.cells #[.int .i64 0,.int .u32 0] 46)):=(aa.refl [] w).alloc _;have k:=AY (h.ai hu0) hh hM;have hin:=(jW hM).2.2.2;have hv:R.v m=true:=by rw [h.ok.2.2.2];exact hin
 have hb:-9223372036854775808<=(hh:Int)/\(hh:Int)<=9223372036854775807:=by
  obtain ⟨m1,m2,m3,m4⟩:=jW hM;have:=jB h.ok.1 m4;have h4:=(aA _ _).1 this;have h5:=h.ok.1.h1;rw [show ((m:Nat):Int).toNat=m by omega,m3] at h4;omega
 have hex:pQ A hh=aU A m:=by unfold pQ;rw [hM]
 have UB:=h.lt;have Ey:w.heap.size∉F:=λe=>by have:=UB _ e;omega
 have HS:=χ (ψ hin (ψ hv (ψ hb (ψ hex hM))));clear h hM hin hv hb hex;generalize hgm:R.g m=gm at *;generalize (A.c m).k=kk at *;have HGM:=χ hgm;clear hgm
 go_enter Tryz.func22,Tryz.ntmps22
 go_upto_region 4 with (first
  | ((go_at_call 19;(with_reducible refine (k).mono ?_));rintro e w1 ⟨rfl,hg⟩;(have hu1:aa F (w.alloc (.cells #[.int .i64 0,.int .u32 0] 46)) w1:=by obtain ⟨_,_,h2,_⟩:=hg;exact h2);(have q0:w1.cell? ⟨w.heap.size,0,none⟩=some (.int .i64 0):=hu1.kept γ Ey);(have q1:w1.cell? ⟨w.heap.size,1,none⟩=some (.int .u32 0):=hu1.kept γ Ey);(have f0:w1.frozen? ⟨w.heap.size,0,none⟩=false:=hu1.aM (v:=.int .i64 0) γ Ey γ);(have f1:w1.frozen? ⟨w.heap.size,1,none⟩=false:=hu1.aM (v:=.int .u32 0) γ Ey γ);(have hrl:=Ε w1 _ q0))
  | fail)
 refine iR (λW=>W.cell? ⟨w1.heap.size,0,none⟩=some (.int .i64 (m:Int))/\W.cell? ⟨w1.heap.size,1,none⟩=some (.int .u32 (gm:Int))/\aa [] w1 W) ⟨γ,γ,β⟩ ?_;rintro W ⟨y0,y1,hW⟩;obtain ⟨F1,⟨pa,pn,Fa,Fn,rfl,hP1⟩,hu1',hf1⟩:=hg;have hP:=hP1.upd hW σ;have c2:=hP.c2;have c3:=hP.c3;have RZ:=hP1.lt;have Uo:w.heap.size∉p::(Fa++Fn):=λe=>by rcases hf1 _ e with e|e;exact Ey e;simp at e;omega
 have Xr:w1.heap.size∉p::(Fa++Fn):=λe=>by have:=RZ _ e;omega
 obtain ⟨f,fv,hen,wP⟩:=K.extract hh m HS.out.2.2.2.2 hP.nest;unfold Enters at hen;have hm:=(wP _ (aa.refl _ _)).1;have hc:=(wP _ (aa.refl _ _)).2;have t0:=hW.was q0;have t1:=hW.was q1;have Wj:=hW.aM q0 σ f0;have WA:=hW.aM q1 σ f1;have sO:w.heap.size∉Fn:=λe=>Uo (by simp [e]);have MX:w1.heap.size∉Fn:=λe=>Xr (by simp [e]);have hpFn:=hP.s2;have Nc:w.heap.size∉Fa:=λe=>Uo (by simp [e]);have Xg:w1.heap.size∉Fa:=λe=>Xr (by simp [e]);have HZ:=χ (ψ hP (ψ hu1 (ψ hW (ψ hf1 hP1))))
 have ka:∀ (w5:World) (cB:aa Fn W w5) (X:World) (hX:aa [] w5 X),Calls Tryz.prog 43 #[.pointer (some ⟨pa,0,none⟩),.agg #[.int .i64 (m:Int),.int .u32 (gm:Int)]] X λe w'=>e=.returned (.int .i64 0)/\Goes Fa X w' (λF'=>nD w' pa F' (ji R m)):=λw5 cB X hX=>by
  have:=Gz ((hP.ar.upd cB (λx hx hm=>hP.s3 x hm hx)).upd hX σ) m HS.out.2.1;rw [HGM.out] at this;exact this
 clear wP hP hu1 hW hu1' hf1 hP1 q0 q1 f0 f1 RZ UB Ey k
 go_upto_region 5 with (first
  | ((with_reducible refine (hc).mono ?_);rintro e w5 ⟨rfl,wH,JX,cB,hf5⟩;(have z0:=cB.kept y0 MX);(have z1:=cB.kept y1 MX);(have z2:=cB.kept c2 hpFn);(have s0:=cB.kept t0 sO);(have s1:=cB.kept t1 sO);(have sf0:=cB.aM t0 sO Wj);(have sf1:=cB.aM t1 sO WA))
  | fail)
 have ka5:=ka w5 cB w5.drew ((aa.refl _ _).drew);clear ka
 go_region_law
  (first
   | (go_simp;go_at_call 43;(with_reducible refine (ka5).mono ?_);rintro e w6 ⟨rfl,Jd,ha6,jy,hf6⟩;(have v0:=jy.kept z0 Xg);(have v1:=jy.kept z1 Xg);(have r0:=jy.kept s0 Nc);(have r1:=jy.kept s1 Nc);(have rf0:=jy.aM s0 Nc sf0);(have rf1:=jy.aM s1 Nc sf1)))
 all_goals
  go_wp2;obtain ⟨hP,hu1,hW,hf1,hP1⟩:=HZ.out;have DF:=hW.size;have hUF:aa F w W:=(aa.trans ((aa.refl _ _).alloc _) hu1).trans (hW.mono σ);refine bodyPost_ret (v:=.tuple #[.agg #[.int .i64 (m:Int),.int .u32 (gm:Int)],.int .i64 kk,.int .i64 0]) (by simp [results,Tryz.results22,go_sem,r0,r1]) rfl ⟨rfl,?_⟩;exact Goes.chain hUF (λx hx=>by rcases hf1 x hx with e|e;exact Α e;simp at e;exact Β ω) (fA.out hP HS.out.1 JX cB hf5 ((aa.refl _ _).drew) ha6 jy hf6) (S:=[w.heap.size]) (((aa.refl _ _).setCell (Α σ) _).setCell (Α σ) _) (λr hr=>by simp at hr;subst hr;exact ⟨Uo,ω,Θ _⟩)
end
end Go.Proofs.YtnpdakpagnpanaaGreat
